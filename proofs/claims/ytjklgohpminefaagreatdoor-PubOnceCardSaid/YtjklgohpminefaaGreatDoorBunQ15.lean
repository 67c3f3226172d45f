/- Subscribing: the last walks. -/
import Derived.Test.YtjklgohpminefaaGreatDoorBunQ14

set_option linter.unusedVariables false
set_option linter.unusedSimpArgs false
set_option maxRecDepth 1000000
namespace Go.Proofs.YtjklgohpminefaaGreatDoorC
open Go.RowKit
theorem forFilter2_ok (w : World) (s : Str) (hn : s.length ≤ 1000000) : Fn Tryz.prog 84 #[Sv s] w fun u w' => Sl (Old w) w' u 1 ((if (decide (Xk 47 s = [43]) || decide (Xk 47 s = [35])) = true then [0, 1, 2, 3] else [(QI s : Int)]).map eI1) := by
 have hX := Ext.refl Non w
 refine Zfw (args := [_]) Tryz.func84 rfl rfl ?_
 refine Zs (Za ?_)
 refine Zc (ZC (Zs (Zm ?_)))
 refine Zw zE rfl (twild_ok w s hn) ?_; intro v6 w1 E1 R1
 replace hX := hX.tr E1
 subst R1
 refine Zb (Xy rfl) (Zc ?_)
 refine ZE rfl (fun hc0 => ?_) (fun hc0 => ?_)
 ·have hw : ¬ (decide (Xk 47 s = [43]) || decide (Xk 47 s = [35])) = true := by revert hc0; generalize (decide (Xk 47 s = [43]) || decide (Xk 47 s = [35])) = t; cases t <;> simp
  refine Zs (Zm ?_)
  refine Zw zE rfl (of16_ok w1 s hn) ?_; intro v9 w2 E2 R2
  replace hX := hX.tr E2
  subst R2
  refine Xz (r := eI1 (QI s : Int)) Xe rfl rfl rfl rfl (by decide) ?_; intro v10 w3 b10 hb10 E3 hO10
  replace hX := hX.tr E3
  refine Za ?_
  refine Zc (ZB ?_)
  exact ⟨_, ZD (Zh rfl), hX, by rw [if_neg hw]; exact hO10.sl (M := Old w) (fun h => (by have := E1.size; have := E2.size; show False; have h2 : b10 < w.heap.size := h; omega))⟩
 ·have hw : (decide (Xk 47 s = [43]) || decide (Xk 47 s = [35])) = true := by revert hc0; generalize (decide (Xk 47 s = [43]) || decide (Xk 47 s = [35])) = t; cases t <;> simp
  refine ZF (Zs (Za ?_))
  refine Zc (ZC (Zs (Zm ?_)))
  refine Zc (ZO (Xt (S := Nat × Value × Option Nat) [3, 11] (fun ⟨i, v, oo⟩ => [v, .int .i64 (i : Nat)]) (fun ⟨i, v, oo⟩ A => (Ext Non w A) ∧ (i ≤ 4 ∧ OwO A v oo 1 ((List.range i).map fun j => eI1 (j : Nat)) ∧ ∀ j, oo = some j → w.heap.size ≤ j)) (fun ⟨i, v, oo⟩ => 4 - i) (0, .slice none 0 0, none) ⟨rfl, rfl, trivial⟩ ⟨hX, ⟨by omega, OwO.nil, by simp⟩⟩ ?_))
  rintro τ0 ⟨i, v, oo⟩ A0 ⟨hX, I0⟩
  obtain ⟨hi4, hO, ho⟩ := I0
  refine Zs (Zb (Xj rfl rfl) (Zc (ZC ?_)))
  refine ZE rfl (fun hc1 => ?_) (fun hc1 => ?_)
  ·have hlt := of_decide_eq_true hc1
   refine ZF (ZC (ZO (Zs (Zm (Za ?_)))))
   refine Zc (ZJ (Zm (Zm ?_)))
   refine Xz (r := [.int .i64 (i : Nat)]) Xe rfl rfl rfl rfl (by decide) ?_; intro v16 w4 b16 hb16 E4 hO16
   replace hX := hX.tr E4
   replace hO := hO.ext E4 (fun _ _ h => h)
   have hXo := hX
   refine Qm Xe rfl rfl rfl hO (hO16.sl (M := Non) id) (fun r hr => by simp only [List.mem_singleton] at hr; subst hr; exact J1 rfl) (by simp only [List.length_map, List.length_range, List.length_cons, List.length_nil]; omega) (by simp only [List.length_map, List.length_range, List.length_cons, List.length_nil, big]; omega) ?_; intro v17 w5 o17 E5 hO17 hf17
   replace hX := hX.mineO E5 (fun i hi => .inr (ho i hi))
   refine Za ?_
   refine Zc (ZJ (Zb (ZX rfl rfl (by omega)) (Zm ?_)))
   refine Zc ?_
   exact ⟨rfl, (i + 1, v17, o17), ⟨rfl, rfl, trivial⟩, ⟨hX, ⟨by omega, by rw [List.range_succ, List.map_append]; exact hO17, fun j hj => by rcases hf17 j hj with h | h; exact ho j h; exact Zle hXo.size h⟩⟩, by show 4 - (i + 1) < 4 - i; omega⟩
  ·have hge := of_decide_eq_false hc1
   have hie : i = 4 := by omega
   subst hie
   refine XL ?_
   refine Zs (Zm (Za ?_))
   refine Zc (ZB ?_)
   exact ⟨_, ZD (Zh rfl), hX, by rw [if_pos hw]; exact hO.sl (M := Old w) (fun i hi => by have := ho i hi; show ¬ _ < _; omega)⟩
theorem fromT_w (w : World) {M : Nat → Prop} {Q : World → Prop} {b0 b1 b2 : Nat} {p : Option Addr} {len : Int} (v : Int × Int) {b77 b78 : Nat} {t sub : Int} {fl : Str} {nv ov : Value} (B77 : Zj w b77 (wsC (some ⟨b78, 0, none⟩) t sub fl nv ov)) (hM2 : M b2) (hB0 : Zj w b0 [(Zpt b77)]) (B1 : Zj w b1 [.pointer p, .int .i64 len]) (h : ∀ w1, Ext Non w w1 → FnM Tryz.prog M 217 #[(Zpt b78), .agg #[.pointer p, .int .i64 len]] w1 fun u w2 => u = .agg #[.int .i64 v.1, .int .i64 v.2] ∧ Zj w2 b2 [.int .i64 0, .int .i64 0] ∧ Q w2) : FnM Tryz.prog M 216 #[(Zpt b0), (Zpt b1), (Zpt b2)] w fun u w' => ∃ w1, Q w1 ∧ Ext (fun i => i = b2) w1 w' ∧ Zj w' b2 [.int .i64 v.1, .int .i64 v.2] ∧ w'.heap.size = w1.heap.size := by
 have hXn := Ext.refl Non w
 have hX := Ext.refl M w
 refine Zfm (args := [_, _, _]) Tryz.func216 rfl rfl ?_
 refine Z5 (fun j => j == 5 || j == 6) mixed ?_; intro w1 E1
 replace hX := hX.tr E1
 replace hB0 := Zx hB0 E1; replace B1 := Zx B1 E1; replace B77 := Zx B77 E1
 replace hXn := hXn.tr E1
 have hS := Ext.refl Non w1
 refine Zt 0 [1, 2, 3, 5, 6] rfl hS (Zv XY rfl hB0 rfl) (Zt 1 [2, 3, 5, 6] rfl hS (Zr (Zg rfl)) (Zt 2 [3, 5, 6] rfl hS (Zr (Zf Jm rfl)) (Zt 3 [5, 6] rfl hS (Zv Jw rfl B77 rfl) (Zt 4 [5, 6] rfl hS (ZG fun A hA => ZR QF rfl rfl (B1.ext hA id)) ?_))))
 replace hX := hX.tr hS
 replace hB0 := Zx hB0 hS; replace B1 := Zx B1 hS; replace B77 := Zx B77 hS
 replace hXn := hXn.tr hS
 refine Zo 5 rfl (ZK (ZI zE rfl (h w1 hXn) ?_)); intro v8 w2 E2 hR
 obtain ⟨rfl, B2, hQ⟩ := hR
 replace hX := hX.trans E2
 refine Zz ?_
 refine Zo 6 rfl (ZK (ZS (b := b2) Qv rfl rfl rfl (Qc rfl rfl) B2 rfl ?_)); intro w3 E3 B2 hz3
 replace hX := hX.mine E3 (.inl hM2)
 have hzz := hz3; have EE := E3
 refine Zz ?_
 refine ZZ (by kernel_rfl) ?_ _
 exact ⟨_, rfl, hX, ⟨_, hQ, EE, B2, hzz⟩⟩
theorem from22_w (w : World) {S : Type} {Y : Sys S} {me : Nat} {G : Tg} {r : Out S} {b0 b1 b2 b3 b4 : Nat} {old now : Int × Int} {b77 b78 : Nat} {t sub : Int} {fl : Str} {nv ov : Value} (B77 : Zj w b77 (wsC (some ⟨b78, 0, none⟩) t sub fl nv ov)) {ep pl gp rt : Nat} {q0 q1 q2 q3 : Option Addr} {rv : Value} (B78 : Zj w b78 [.pointer (some ⟨ep, 0, none⟩), .pointer (some ⟨pl, 0, none⟩), .pointer (some ⟨gp, 0, none⟩), .pointer (some ⟨rt, 0, none⟩), .pointer q0, .pointer q1, .pointer q2, .pointer q3, rv, .int .i64 0]) (hB0 : Zj w b0 [(Zpt b77)]) (B1 : Zj w b1 [.int .i64 old.1, .int .i64 old.2]) (B2 : Zj w b2 [.int .i64 now.1, .int .i64 now.2]) (h : ∀ w1, Ext Non w w1 → MkS Y Tryz.prog me 219 #[.pointer (some ⟨rt, 0, none⟩), .agg #[.int .i64 old.1, .int .i64 old.2], .agg #[.int .i64 now.1, .int .i64 now.2], .func (.func 220) #[] #[(Zpt b0), (Zpt b1), (Zpt b3), (Zpt b2), (Zpt b4)]] (Kx me G w) w1 r) : FnM Tryz.prog (Wr me G) 218 #[(Zpt b0), (Zpt b1), (Zpt b2), (Zpt b3), (Zpt b4)] w fun u w' => Xh Y Tryz.prog me G w r u w' := by
 have hXn := Ext.refl Non w
 have hX := Ext.refl (Wr me G) w
 refine Zfm (args := [_, _, _, _, _]) Tryz.func218 rfl rfl ?_
 refine Zs (Za ?_)
 refine Zc (ZC (Z5 (fun j => j == 8 || j == 9) mixed ?_)); intro w1 E1
 replace hX := hX.tr E1
 replace hB0 := Zx hB0 E1; replace B1 := Zx B1 E1; replace B2 := Zx B2 E1; replace B77 := Zx B77 E1; replace B78 := Zx B78 E1
 replace hXn := hXn.tr E1
 have hS := Ext.refl Non w1
 refine Zt 0 [1, 2, 3, 4, 8, 9] rfl hS (Zv XY rfl hB0 rfl) (Zt 1 [2, 3, 4, 8, 9] rfl hS (Zr (Zg rfl)) (Zt 2 [3, 4, 8, 9] rfl hS (Zr (Zf Jm rfl)) (Zt 3 [4, 8, 9] rfl hS (Zv Jw rfl B77 rfl) (Zt 5 [8, 9] rfl hS (ZG fun A hA => ZR Qv rfl rfl (B1.ext hA id)) (Zt 6 [8, 9] rfl hS (ZG fun A hA => ZR Qv rfl rfl (B2.ext hA id)) (Zt 7 [8, 9] rfl hS (Zr (ZL rfl)) (Zo 4 rfl (ZK ?_))))))))
 refine Zw zE rfl (croot_ok w1 (B78.ext hS id)) ?_; intro v10 w2 E2 R2
 replace hS := hS.tr E2
 subst R2
 refine Zc ⟨fun _ => hS, ?_⟩
 replace hX := hX.tr hS
 replace hB0 := Zx hB0 hS; replace B1 := Zx B1 hS; replace B2 := Zx B2 hS; replace B77 := Zx B77 hS; replace B78 := Zx B78 hS
 replace hXn := hXn.tr hS
 refine Zo 8 rfl (ZK ?_)
 have hXc := hXn
 refine ZI zE rfl (h w2 hXn) ?_; intro v14 w3 E3 hR
 replace hX := hX.wr ZW E3
 refine Zz ?_
 refine Zo 9 rfl (ZK (Za ?_))
 refine Zz ?_
 refine ZZ (by kernel_rfl) ?_ _
 refine ZB ?_
 exact ⟨_, ZD (Zh rfl), hX, hR.pre ZW hXc.size⟩
theorem from221_w (w : World) {S : Type} {Y : Sys S} {me : Nat} {G : Tg} {r : Out S} {b1 b2 b3 b4 b5 : Nat} {fv : Value} (hf1 : fv.oneCell' = true) (B3 : Zj w b3 [fv]) (h : ∀ w1, Ext Non w w1 → MkS Y Tryz.prog me 62 #[.func (.func 221) #[] #[(Zpt b1), (Zpt b2)], fv] (Kx me G w) w1 r) : FnM Tryz.prog (Wr me G) 220 #[.bool true, (Zpt b1), (Zpt b2), (Zpt b3), (Zpt b4), (Zpt b5)] w fun u w' => Xh Y Tryz.prog me G w r u w' := by
 have hXn := Ext.refl Non w
 have hX := Ext.refl (Wr me G) w
 refine Zfm (args := [_, _, _, _, _, _]) Tryz.func220 rfl rfl ?_
 refine Zs (Za ?_)
 refine Zc (ZC (Zs (Zm ?_)))
 refine Zc (Qr rfl (Zs (Zb (ZL rfl) (Zb (Zi p_94 rfl B3 rfl) ?_))))
 have hXc := hXn
 refine ZI zE rfl (h w hXn) ?_; intro v11 w1 E1 hR
 replace hX := hX.wr ZW E1
 refine Za ?_
 refine Zc (ZB ?_)
 exact ⟨_, ZD (Zh rfl), hX, hR.pre ZW hXc.size⟩
theorem fromR_w (w : World) {M : Nat → Prop} {R : World → Prop} {b0 b1 : Nat} {old : Int × Int} {b77 b78 : Nat} {t sub : Int} {fl : Str} {nv ov : Value} (B77 : Zj w b77 (wsC (some ⟨b78, 0, none⟩) t sub fl nv ov)) {ep pl gp rt : Nat} {q0 q1 q2 q3 : Option Addr} {rv : Value} (B78 : Zj w b78 [.pointer (some ⟨ep, 0, none⟩), .pointer (some ⟨pl, 0, none⟩), .pointer (some ⟨gp, 0, none⟩), .pointer (some ⟨rt, 0, none⟩), .pointer q0, .pointer q1, .pointer q2, .pointer q3, rv, .int .i64 0]) (hB0 : Zj w b0 [(Zpt b77)]) (B1 : Zj w b1 [.int .i64 old.1, .int .i64 old.2]) (h : ∀ w1, Ext Non w w1 → FnM Tryz.prog M 222 #[.pointer (some ⟨ep, 0, none⟩), .int .i64 old.1] w1 fun _ w2 => R w2) : FnM Tryz.prog M 221 #[(Zpt b0), (Zpt b1)] w fun u w' => R w' := by
 have hXn := Ext.refl Non w
 have hX := Ext.refl M w
 refine Zfm (args := [_, _]) Tryz.func221 rfl rfl ?_
 refine Z5 (fun j => j == 10) mixed ?_; intro w1 E1
 replace hX := hX.tr E1
 replace hB0 := Zx hB0 E1; replace B1 := Zx B1 E1; replace B77 := Zx B77 E1; replace B78 := Zx B78 E1
 replace hXn := hXn.tr E1
 have hS := Ext.refl Non w1
 refine Zt 0 [1, 2, 3, 4, 5, 6, 7, 10] rfl hS (Zv XY rfl hB0 rfl) (Zt 1 [2, 3, 4, 5, 6, 7, 10] rfl hS (Zr (Zg rfl)) (Zt 2 [3, 4, 5, 6, 7, 10] rfl hS (Zr (Zf Jm rfl)) (Zt 3 [4, 5, 6, 7, 10] rfl hS (Zv Jw rfl B77 rfl) (Zt 4 [5, 6, 7, 10] rfl hS (Zr (Zg rfl)) (Zt 5 [6, 7, 10] rfl hS (Zr (Zf Qp rfl)) (Zt 6 [7, 10] rfl hS (Zr (Zf JV rfl)) (Zt 7 [10] rfl hS (Zv p_97 rfl B78 rfl) (Zt 8 [9, 10] rfl hS (Zr (Zf f_117_0 rfl)) ?_))))))))
 refine Zt 9 [10] rfl hS (Zv p_3 rfl B1 rfl) ?_
 replace hX := hX.tr hS
 replace hB0 := Zx hB0 hS; replace B1 := Zx B1 hS; replace B77 := Zx B77 hS; replace B78 := Zx B78 hS
 replace hXn := hXn.tr hS
 refine Zo 10 rfl (ZK (ZI zE rfl (h w1 hXn) ?_)); intro v12 w2 E2 hR
 replace hX := hX.trans E2
 refine Zz ?_
 refine ZZ (by kernel_rfl) ?_ _
 exact ⟨_, rfl, hX, hR⟩
theorem s1_w (w : World) {S : Type} {Y : Sys S} {me : Nat} {G : Tg} {r : Out S} {b0 b1 b2 b3 b77 : Nat} (hB0 : Zj w b0 [(Zpt b77)]) (h : ∀ w1, Ext Non w w1 → MkS Y Tryz.prog me 87 #[(Zpt b77), .func (.func 88) #[] #[(Zpt b1), (Zpt b2)], .func (.func 90) #[] #[(Zpt b0), (Zpt b3)]] (Kx me G w) w1 r) : FnM Tryz.prog (Wr me G) 86 #[(Zpt b0), (Zpt b1), (Zpt b2), (Zpt b3)] w fun u w' => Xh Y Tryz.prog me G w r u w' := by
 have hXn := Ext.refl Non w
 have hX := Ext.refl (Wr me G) w
 refine Zfm (args := [_, _, _, _]) Tryz.func86 rfl rfl ?_
 refine Zs (Za ?_)
 refine Zc (Zs (Zb (Zi XY rfl hB0 rfl) (Zb (ZL rfl) (Zb (ZL rfl) ?_))))
 have hXc := hXn
 refine ZI zE rfl (h w hXn) ?_; intro v8 w1 E1 hR
 replace hX := hX.wr ZW E1
 refine Za ?_
 refine Zc (ZB ?_)
 exact ⟨_, ZD (Zh rfl), hX, hR.pre ZW hXc.size⟩
theorem s12_w (w : World) {S : Type} {Y : Sys S} {me : Nat} {G : Tg} {r : Out S} {b0 b1 b77 : Nat} {sv : Value} (hs1 : sv.oneCell' = true) (hB0 : Zj w b0 [(Zpt b77)]) (B1 : Zj w b1 [sv]) (h : ∀ w1, Ext Non w w1 → MkS Y Tryz.prog me 91 #[(Zpt b77), sv] (Kx me G w) w1 r) : FnM Tryz.prog (Wr me G) 90 #[(Zpt b0), (Zpt b1)] w fun u w' => Xh Y Tryz.prog me G w r u w' := by
 have hXn := Ext.refl Non w
 have hX := Ext.refl (Wr me G) w
 refine Zfm (args := [_, _]) Tryz.func90 rfl rfl ?_
 refine Zs (Za ?_)
 refine Zc (Zs (Zb (Zi XY rfl hB0 rfl) (Zb (Zi XT rfl B1 rfl) ?_)))
 have hXc := hXn
 refine ZI zE rfl (h w hXn) ?_; intro v5 w1 E1 hR
 replace hX := hX.wr ZW E1
 refine Za ?_
 refine Zc (ZB ?_)
 exact ⟨_, ZD (Zh rfl), hX, hR.pre ZW hXc.size⟩
theorem s11_w (w : World) {b1 b2 : Nat} {p : Option Addr} (T : Tr) (len : Int) (fl : Str) (sub : Int) (hnf : fl.length ≤ 1000000) (M : Nat → Prop) (hM : ∀ i, M i → i < w.heap.size) (hT : TrM M w T (.pointer p)) {n m : Nat} (hok : T.Ok n m) (hn : n ≤ 900000) (hfm : fl.length + 1 ≤ m) (hfil : XJ fl = true) (hnew : XP ltI (Tr.go (spl 47 fl) T).subs sub = false) (hlen : 0 ≤ len ∧ len ≤ 1000000) (B1 : Zj w b1 [Sv fl]) (B2 : Zj w b2 [.int .i64 sub]) : Fn Tryz.prog 88 #[.agg #[.pointer p, .int .i64 len], (Zpt b1), (Zpt b2)] w fun u w' => ∃ q, u = .tuple #[.agg #[.pointer q, .int .i64 (len + 1)], .int .i64 0] ∧ TrM M w' (T.put (spl 47 fl) sub) (.pointer q) := by
 replace hT : TrM (fun i => M i ∨ w.heap.size ≤ i) w T (.pointer p) := hT.sub (fun i h hlt => h.elim id (fun h => by omega))
 have hZ : w.heap.size ≤ w.heap.size := Nat.le_refl _
 have hX := Ext.refl Non w
 refine Zfw (args := [_, _, _]) Tryz.func88 rfl rfl ?_
 refine Zs (ZY rfl ?_); intro b3 w1 hb3 E1 B3
 have hn1_3 := Zn B1 hb3
 have hn2_3 := Zn B2 hb3
 have hq3 := Zq hX hb3
 replace hX := hX.tr E1
 replace B1 := Zx B1 E1; replace B2 := Zx B2 E1
 replace hT := hT.ext E1 (fun _ h => h.elim)
 replace hZ := Zle hZ E1.size
 refine ZT z_103 ?_; intro b4 w2 hb4 E2 B4
 have hn1_4 := Zn B1 hb4
 have hn2_4 := Zn B2 hb4
 have hn3_4 := Zn B3 hb4
 have hq4 := Zq hX hb4
 have hl4 := Zl hX hb4
 replace hX := hX.tr E2
 replace B1 := Zx B1 E2; replace B2 := Zx B2 E2; replace B3 := Zx B3 E2
 replace hT := hT.ext E2 (fun _ h => h.elim)
 replace hZ := Zle hZ E2.size
 refine Za ?_
 refine Zc (Zs (Zb (ZR QF rfl rfl B3) (Zb (Zi p_9 rfl B1 rfl) (Zb (Zi p_3 rfl B2 rfl) (Zw zE rfl (tadd_ok w2 T len fl sub hnf (fun i => M i ∨ i = b4) (fun i h => h.elim (fun h => Zlt (hM i h) hX.size) (fun h => by rw [h]; exact B4.lt)) (hT.sub (fun i h _ => h.imp id (fun h => by omega))) hok hn hfm hfil hnew hlen) ?_))))); intro v9 w3 E3 R3
 replace hX := hX.tr E3
 replace B1 := Zx B1 E3; replace B2 := Zx B2 E3; replace B3 := Zx B3 E3; replace B4 := Zx B4 E3
 replace hT := hT.ext E3 (fun _ h => h.elim)
 replace hZ := Zle hZ E3.size
 obtain ⟨pv, rfl, hT2⟩ := R3
 obtain ⟨q, rfl⟩ := hT2.ptr
 replace hT := hT2
 refine Zb (ZM rfl rfl) (Zb (ZM rfl rfl) ?_)
 have Bo := B4
 refine ZS QF rfl rfl rfl (Qc rfl rfl) B4 rfl ?_; intro w4 E4 B4 hz4
 replace hX := hX.mine E4 hl4
 replace B1 := B1.ext E4 (fun h => by omega); replace B2 := B2.ext E4 (fun h => by omega); replace B3 := B3.ext E4 (fun h => by omega)
 replace hZ := Zle hZ E4.size
 refine Za ?_
 refine Zc (ZB ?_)
 exact ⟨_, Qd (Xn QF rfl B4 rfl) (Zh rfl), hX, ⟨_, rfl, (hT.ext E4 (fun i hi => .inr hi)).sub (fun i h _ => .inl h)⟩⟩
theorem swrong_w (w : World) {b78 b : Nat} (fl : Str) (sub : Int) (hnf : fl.length ≤ 1000000) (hfil : XJ fl = true) (hR : ∀ w1, Ext Non w w1 → Fn Tryz.prog 152 #[(Zpt b78), .int .i64 sub] w1 fun u _ => u = pt b) : Fn Tryz.prog 83 #[(Zpt b78), .int .i64 sub, Sv fl] w fun u w' => u = .int .i64 0 := by
 have hXn := Ext.refl Non w
 have hX := Ext.refl Non w
 refine Zfw (args := [_, _, _]) Tryz.func83 rfl rfl ?_
 refine Zs (Za ?_)
 refine Zc (ZC (ZO (Zs (Zm (Zm ?_)))))
 refine Zw zE rfl (hR w hXn) ?_; intro v10 w1 E1 R1
 replace hX := hX.tr E1
 replace hXn := hXn.tr E1
 subst R1
 refine Zb (Z9 (by kernel_rfl) rfl rfl) (Za ?_)
 refine Zc ?_
 refine ZE rfl (fun hc0 => ?_) (fun hc0 => ?_)
 ·exact absurd hc0 (by simp)
 ·refine Zs (Zm ?_)
  refine Zw zE rfl (tfilter_ok w1 fl hnf) ?_; intro v14 w2 E2 R2
  replace hX := hX.tr E2
  replace hXn := hXn.tr E2
  subst R2
  refine Zb (Xy rfl) (Za ?_)
  refine Zc ?_
  refine ZE rfl (fun hc1 => ?_) (fun hc1 => ?_)
  ·exact absurd hc1 (by simp [hfil])
  ·refine ZF (Zs (Za ?_))
   refine Zc (ZB ?_)
   exact ⟨_, ZD (Zh rfl), hX, rfl⟩
set_option maxHeartbeats 1600000 in
theorem subscribe_w (w : World) {S : Type} {Y : Sys S} {me : Nat} {G : Tg} {r : Out S} {b78 b : Nat} (t sub : Int) (fl : Str) (hnf : fl.length ≤ 1000000) (hfil : XJ fl = true) (hRg : ∀ w1, Ext Non w w1 → Fn Tryz.prog 152 #[(Zpt b78), .int .i64 sub] w1 fun u _ => u = pt b) {f2 : FuncId} {fi2 cap2 : Array Value} {ep pl gp rt : Nat} {q0 q1 q2 q3 : Option Addr} {rv : Value} (B78 : Zj w b78 [.pointer (some ⟨ep, 0, none⟩), .pointer (some ⟨pl, 0, none⟩), .pointer (some ⟨gp, 0, none⟩), .pointer (some ⟨rt, 0, none⟩), .pointer q0, .pointer q1, .pointer q2, .pointer q3, rv, .int .i64 0]) (ht : 0 ≤ t ∧ t ≤ 1000) (h : ∀ (w1 : World) (b7 b8 b12 b13 b37 : Nat) (sa : Option Addr) (sn sc : Nat) (pa : Option Addr) (pn pc : Nat), Ext Non w w1 → b7 ≠ b37 → b8 ≠ b37 → b12 ≠ b37 → b13 ≠ b37 → w.heap.size ≤ b37 → Zj w1 b37 (wsC (some ⟨b78, 0, none⟩) t sub fl (.func (.func f2) fi2 cap2) (.slice pa pn pc)) → w.heap.size ≤ b7 → Zj w1 b7 [.int .i64 sub] → w.heap.size ≤ b8 → Zj w1 b8 [Sv fl] → w.heap.size ≤ b12 → Zj w1 b12 [.slice sa sn sc] → w.heap.size ≤ b13 → Zj w1 b13 [(Zpt b37)] → Sl (fun i => i < w.heap.size ∨ i = b37) w1 (.slice sa sn sc) 1 ((if (decide (Xk 47 fl = [43]) || decide (Xk 47 fl = [35])) = true then [0, 1, 2, 3] else [(QI fl : Int)]).map eI1) → Sl (fun i => i < w.heap.size ∨ i = b37) w1 (.slice pa pn pc) 1 ((QB (if (decide (Xk 47 fl = [43]) || decide (Xk 47 fl = [35])) = true then [0, 1, 2, 3] else [(QI fl : Int)]) (ofL [sub])).map eI1) → MkS Y Tryz.prog me 32 #[.pointer (some ⟨gp, 0, none⟩), .slice pa pn pc, .int .i64 (t + 1), .func (.func 86) #[] #[(Zpt b13), (Zpt b8), (Zpt b7), (Zpt b12)]] (Kw me G w b37) w1 r) : FnM Tryz.prog (Wr me G) 35 #[(Zpt b78), .int .i64 t, .int .i64 sub, Sv fl, .func (.func f2) fi2 cap2] w fun u w' => Xh Y Tryz.prog me G w r u w' := by
 have hXn := Ext.refl Non w
 have hX := Ext.refl (Wr me G) w
 refine Zfm (args := [_, _, _, _, _]) Tryz.func35 rfl rfl ?_
 refine Zs (ZP (by conv => lhs; whnf) rfl ?_); intro b7 w1 hb7 E1 B7
 have hn78_7 := Zn B78 hb7
 have hq7 := Zq hX hb7
 have hl7 := Zl hX hb7
 replace hX := hX.tr E1
 replace B78 := Zx B78 E1
 replace hXn := hXn.tr E1
 refine ZP (by conv => lhs; whnf) rfl ?_; intro b8 w2 hb8 E2 B8
 have hn78_8 := Zn B78 hb8
 have hn7_8 := Zn B7 hb8
 have hq8 := Zq hX hb8
 have hl8 := Zl hX hb8
 replace hX := hX.tr E2
 replace B78 := Zx B78 E2; replace B7 := Zx B7 E2
 replace hXn := hXn.tr E2
 refine Za ?_
 refine Zc (ZC (Zs (Zm ?_)))
 refine Zb (Zi p_3 rfl B7 rfl) (Zb (Zi p_9 rfl B8 rfl) (Zw zE rfl (swrong_w w2 fl sub hnf hfil (fun w1 hw => hRg w1 (hXn.trans hw))) ?_)); intro v17 w3 E3 R3
 replace hX := hX.tr E3
 replace B78 := Zx B78 E3; replace B7 := Zx B7 E3; replace B8 := Zx B8 E3
 replace hXn := hXn.tr E3
 subst R3
 refine Za ?_
 refine Zc (Zs (Zm ?_))
 refine Zb (X2 rfl rfl) (Zc (Xu rfl (ZF (Zs (Zb (Zi p_9 rfl B8 rfl) ?_)))))
 have hz25 : w.heap.size ≤ (World.heap w3).size := hX.size
 refine Zw zE rfl (forFilter2_ok w3 fl hnf) ?_; intro v25 w4 E4 R4
 replace hX := hX.tr E4
 replace B78 := Zx B78 E4; replace B7 := Zx B7 E4; replace B8 := Zx B8 E4
 replace hXn := hXn.tr E4
 have hF := (R4).sub (M' := fun i => i < w.heap.size ∨ (World.heap w4).size ≤ i) (fun i h hlt => by have : i < w.heap.size := h.elim id (fun h => by omega); exact Zlt this hz25)
 obtain ⟨sa, sn, sc, rfl⟩ := hF.shape
 have hZ : (World.heap w4).size ≤ (World.heap w4).size := Nat.le_refl _
 refine ZT z_27 ?_; intro b12 w5 hb12 E5 B12
 have hn78_12 := Zn B78 hb12
 have hn7_12 := Zn B7 hb12
 have hn8_12 := Zn B8 hb12
 have hq12 := Zq hX hb12
 have hl12 := Zl hX hb12
 replace hX := hX.tr E5
 replace B78 := Zx B78 E5; replace B7 := Zx B7 E5; replace B8 := Zx B8 E5
 replace hXn := hXn.tr E5
 replace hF := hF.ext E5 (fun _ h => h.elim)
 replace hZ := Zle hZ E5.size
 have Bo := B12
 refine ZN (b := b12) XT rfl (by conv => lhs; whnf) rfl rfl B12 Zbl ?_; intro w6 E6 B12 hz6
 replace hX := hX.mine E6 hl12
 replace B78 := B78.ext E6 (fun h => by omega); replace B7 := B7.ext E6 (fun h => by omega); replace B8 := B8.ext E6 (fun h => by omega)
 replace hXn := hXn.own E6 hq12
 replace hF := hF.ext E6 (fun i hi => .inr (by omega))
 replace hZ := Zle hZ E6.size
 refine Zc ?_
 refine W_cut (T := Nat × Nat × Option Addr × Nat × Nat) [0, 1, 7, 8, 12, 13, 37] (fun ⟨b13, b37, pa, pn, pc⟩ => [(Zpt b78), .int .i64 t, (Zpt b7), (Zpt b8), (Zpt b12), (Zpt b13), (Zpt b37)]) (fun ⟨b13, b37, pa, pn, pc⟩ A => (Ext (Wr me G) w A) ∧ (Zj A b7 [.int .i64 sub]) ∧ (Zj A b8 [Sv fl]) ∧ (Zj A b12 [.slice sa sn sc]) ∧ (Zj A b13 [(Zpt b37)]) ∧ (Zj A b37 (wsC (some ⟨b78, 0, none⟩) t sub fl (.func (.func f2) fi2 cap2) (.slice pa pn pc))) ∧ (Xo (Wr me G) w b7) ∧ (Xo (Wr me G) w b8) ∧ (Xo (Wr me G) w b12) ∧ (Xo (Wr me G) w b13) ∧ (Xo (Wr me G) w b37) ∧ (Ext Non w A ∧ Zj A b78 [.pointer (some ⟨ep, 0, none⟩), .pointer (some ⟨pl, 0, none⟩), .pointer (some ⟨gp, 0, none⟩), .pointer (some ⟨rt, 0, none⟩), .pointer q0, .pointer q1, .pointer q2, .pointer q3, rv, .int .i64 0] ∧ b7 ≠ b37 ∧ b8 ≠ b37 ∧ b12 ≠ b37 ∧ b13 ≠ b37 ∧ w.heap.size ≤ b13 ∧ w.heap.size ≤ b37 ∧ Sl (fun i => i < w.heap.size ∨ i = b37) A (.slice sa sn sc) 1 ((if (decide (Xk 47 fl = [43]) || decide (Xk 47 fl = [35])) = true then [0, 1, 2, 3] else [(QI fl : Int)]).map eI1) ∧ Sl (fun i => i < w.heap.size ∨ i = b37) A (.slice pa pn pc) 1 ((QB (if (decide (Xk 47 fl = [43]) || decide (Xk 47 fl = [35])) = true then [0, 1, 2, 3] else [(QI fl : Int)]) (ofL [sub])).map eI1))) ?_ ?_
 ·refine Z5 (fun j => false) mixed ?_; intro w7 E7
  replace hX := hX.tr E7
  replace B78 := Zx B78 E7; replace B7 := Zx B7 E7; replace B8 := Zx B8 E7; replace B12 := Zx B12 E7
  replace hXn := hXn.tr E7
  replace hF := hF.ext E7 (fun _ h => h.elim)
  replace hZ := Zle hZ E7.size
  have hS := Ext.refl Non w7
  refine Zt 0 [10, 11, 13] rfl hS Zy ?_
  refine Zt 1 [10, 11, 13] rfl hS Zy ?_
  refine Zt 2 [10, 11, 13] rfl hS (Zv p_3 rfl B7 rfl) (Zt 3 [10, 11, 13] rfl hS (Zv p_9 rfl B8 rfl) (Zt 4 [10, 11, 13] rfl hS Zy ?_))
  refine Zt 5 [9, 10, 11, 13] rfl hS (Zv XT rfl B12 rfl) (Zt 6 [7, 8, 9, 10, 11, 13] rfl hS (Zv p_3 rfl B7 rfl) ?_)
  refine wx_two 7 12 _ _ rfl rfl (by kernel_rfl) ?_ ?_
  ·refine ZK (Xz (r := eI1 sub) Xe rfl rfl rfl rfl (by decide) ?_); intro v33 w8 b33 hb33 E8 hO33
   have hL33 : Sl Non w8 v33 1 ([sub].map eI1) := hO33.sl (M := Non) id
   replace hS := hS.tr E8
   refine Zc ⟨fun _ => hS, ?_⟩
   refine wx_two 8 12 _ _ rfl rfl (by kernel_rfl) ?_ ?_
   ·refine ZK (Zw zE rfl (of_ok w8 [sub] hL33 (by simp)) ?_); intro v34 w9 E9 hR9
    replace hS := hS.tr E9
    replace hL33 := hL33.ext E9 (fun _ h => h.elim)
    have hSet := (hR9).sub (M' := Non) (fun i h _ => h.elim)
    refine Zc ⟨fun _ => hS, ?_⟩
    obtain ⟨n34, hn34⟩ : ∃ n, n = (World.heap w9).size := ⟨_, rfl⟩
    have hz35 : w.heap.size ≤ n34 := by rw [hn34]; exact Zle hX.size hS.size
    first | have hy13 : b13 < n34 := (by rw [hn34]; exact B13.lt) | skip
    refine wx_two 9 12 _ _ rfl rfl (by kernel_rfl) ?_ ?_
    ·refine ZK (Zw zE rfl (plan_ok w9 (if (decide (Xk 47 fl = [43]) || decide (Xk 47 fl = [35])) = true then [0, 1, 2, 3] else [(QI fl : Int)]) (ofL [sub]) ((hF.ext hS (fun _ h => h.elim)).sub (M' := Non) (fun i h _ => h.elim)) hSet (Q0 _) (by split <;> simp) (Zle (ofL_len _) (by simp))) ?_); intro v35 w10 E10 hR10
     replace hS := hS.tr E10
     replace hSet := hSet.ext E10 (fun _ h => h.elim)
     have hP := (hR10).sub (M' := fun i => i < n34 ∨ (World.heap w10).size ≤ i) (fun i h hlt => by have : i < n34 := h.elim id (fun h => by omega); rw [hn34] at this; exact this)
     obtain ⟨pa, pn, pc, rfl⟩ := hP.shape
     have Z35 : (World.heap w10).size ≤ (World.heap w10).size := Nat.le_refl _
     refine Zc ⟨fun _ => hS, ?_⟩
     refine Zt 10 [11, 13] rfl hS (ZG fun A hA => Z2 b_162 rfl rfl (cs := _) rfl) ?_
     refine wx_two 11 12 _ _ rfl rfl (by kernel_rfl) ?_ ?_
     ·refine ZK (ZY rfl ?_); intro b37 w11 hb37 E11 B37
      have hn78_37 : b78 < b37 := Zlt (Zlt B78.lt hS.size) hb37
      have hn7_37 : b7 < b37 := Zlt (Zlt B7.lt hS.size) hb37
      have hn8_37 : b8 < b37 := Zlt (Zlt B8.lt hS.size) hb37
      have hn12_37 : b12 < b37 := Zlt (Zlt B12.lt hS.size) hb37
      have hq37 : w.heap.size ≤ b37 := Zle (hX.tr hS).size hb37
      have hl37 : Xo (Wr me G) w b37 := .inr hq37
      have hf37 := Zle (Zle hZ hS.size) hb37
      have hz37 := Zle Z35 hb37
      have hm37 : w7.heap.size ≤ b37 := Zle hS.size hb37
      replace hS := hS.tr E11
      replace hP := hP.ext E11 (fun _ h => h.elim)
      replace Z35 := Zle Z35 E11.size
      refine Zc ⟨fun _ => hS, ?_⟩
      refine Zo 12 rfl (ZK (ZT z_159 ?_)); intro b13 w12 hb13 E12 B13
      have hn78_13 : b78 < b13 := Zlt (Zlt B78.lt hS.size) hb13
      have hn7_13 : b7 < b13 := Zlt (Zlt B7.lt hS.size) hb13
      have hn8_13 : b8 < b13 := Zlt (Zlt B8.lt hS.size) hb13
      have hn12_13 : b12 < b13 := Zlt (Zlt B12.lt hS.size) hb13
      have hn37_13 := Zn B37 hb13
      have hq13 : w.heap.size ≤ b13 := Zle (hX.tr hS).size hb13
      have hl13 : Xo (Wr me G) w b13 := .inr hq13
      first | have hz13 := Zle Z35 hb13 | skip
      have hm13 : w7.heap.size ≤ b13 := Zle hS.size hb13
      replace B37 := Zx B37 E12
      replace hS := hS.tr E12
      replace hP := hP.ext E12 (fun _ h => h.elim)
      replace Z35 := Zle Z35 E12.size
      refine Zc ⟨fun _ => hS, ?_⟩
      refine Zo 13 rfl (ZK (ZN (b := b13) XY rfl (by conv => lhs; whnf) rfl rfl B13 Zbl ?_)); intro w13 E13 B13 hz13
      replace B37 := B37.ext E13 (fun h => by omega)
      replace hS := hS.mine E13 (.inr (by omega))
      replace hP := hP.ext E13 (fun i hi => by first | exact .inr (by omega) | exact .inl (by omega))
      replace Z35 := Zle Z35 E13.size
      refine Zc ⟨fun _ => hS, ?_⟩
      refine ZZ (by kernel_rfl) ?_ _
      replace hX := hX.tr hS
      replace B78 := Zx B78 hS; replace B7 := Zx B7 hS; replace B8 := Zx B8 hS; replace B12 := Zx B12 hS
      replace hXn := hXn.tr hS
      replace hF := hF.ext hS (fun _ h => h.elim)
      replace hZ := Zle hZ hS.size
      exact ⟨rfl, (b13, b37, pa, pn, pc), ⟨rfl, rfl, rfl, rfl, rfl, rfl, rfl, trivial⟩, ⟨hX, B7, B8, B12, B13, B37, hl7, hl8, hl12, hl13, hl37, ⟨hXn, B78, by omega, by omega, by omega, by omega, hq13, hq37, (hF.sub (fun i h _ => h.imp id (fun h => by rw [h]; exact hf37))), (hP.sub (fun i h _ => h.elim (fun h => .inl (Zlt h hz35)) (fun h => .inr (by rw [h]; exact hz37))))⟩⟩⟩
     ·refine ZK (ZT z_159 ?_); intro b13 w14 hb13 E14 B13
      have hn78_13 : b78 < b13 := Zlt (Zlt B78.lt hS.size) hb13
      have hn7_13 : b7 < b13 := Zlt (Zlt B7.lt hS.size) hb13
      have hn8_13 : b8 < b13 := Zlt (Zlt B8.lt hS.size) hb13
      have hn12_13 : b12 < b13 := Zlt (Zlt B12.lt hS.size) hb13
      have hq13 : w.heap.size ≤ b13 := Zle (hX.tr hS).size hb13
      have hl13 : Xo (Wr me G) w b13 := .inr hq13
      first | have hz13 := Zle Z35 hb13 | skip
      have hm13 : w7.heap.size ≤ b13 := Zle hS.size hb13
      replace hS := hS.tr E14
      replace hP := hP.ext E14 (fun _ h => h.elim)
      replace Z35 := Zle Z35 E14.size
      refine Zc ⟨fun _ => hS, ?_⟩
      refine Zo 11 rfl (ZK (ZY rfl ?_)); intro b37 w15 hb37 E15 B37
      have hn78_37 : b78 < b37 := Zlt (Zlt B78.lt hS.size) hb37
      have hn7_37 : b7 < b37 := Zlt (Zlt B7.lt hS.size) hb37
      have hn8_37 : b8 < b37 := Zlt (Zlt B8.lt hS.size) hb37
      have hn12_37 : b12 < b37 := Zlt (Zlt B12.lt hS.size) hb37
      have hn13_37 := Zn B13 hb37
      have hq37 : w.heap.size ≤ b37 := Zle (hX.tr hS).size hb37
      have hl37 : Xo (Wr me G) w b37 := .inr hq37
      have hf37 := Zle (Zle hZ hS.size) hb37
      have hz37 := Zle Z35 hb37
      have hm37 : w7.heap.size ≤ b37 := Zle hS.size hb37
      replace B13 := Zx B13 E15
      replace hS := hS.tr E15
      replace hP := hP.ext E15 (fun _ h => h.elim)
      replace Z35 := Zle Z35 E15.size
      refine Zc ⟨fun _ => hS, ?_⟩
      refine Zo 13 rfl (ZK (ZN (b := b13) XY rfl (by conv => lhs; whnf) rfl rfl B13 Zbl ?_)); intro w16 E16 B13 hz16
      replace B37 := B37.ext E16 (fun h => by omega)
      replace hS := hS.mine E16 (.inr (by omega))
      replace hP := hP.ext E16 (fun i hi => by first | exact .inr (by omega) | exact .inl (by omega))
      replace Z35 := Zle Z35 E16.size
      refine Zc ⟨fun _ => hS, ?_⟩
      refine ZZ (by kernel_rfl) ?_ _
      replace hX := hX.tr hS
      replace B78 := Zx B78 hS; replace B7 := Zx B7 hS; replace B8 := Zx B8 hS; replace B12 := Zx B12 hS
      replace hXn := hXn.tr hS
      replace hF := hF.ext hS (fun _ h => h.elim)
      replace hZ := Zle hZ hS.size
      exact ⟨rfl, (b13, b37, pa, pn, pc), ⟨rfl, rfl, rfl, rfl, rfl, rfl, rfl, trivial⟩, ⟨hX, B7, B8, B12, B13, B37, hl7, hl8, hl12, hl13, hl37, ⟨hXn, B78, by omega, by omega, by omega, by omega, hq13, hq37, (hF.sub (fun i h _ => h.imp id (fun h => by rw [h]; exact hf37))), (hP.sub (fun i h _ => h.elim (fun h => .inl (Zlt h hz35)) (fun h => .inr (by rw [h]; exact hz37))))⟩⟩⟩
    ·refine ZK (ZT z_159 ?_); intro b13 w17 hb13 hE17 B13
     have hn78_13 : b78 < b13 := Zlt (Zlt B78.lt hS.size) hb13
     have hn7_13 : b7 < b13 := Zlt (Zlt B7.lt hS.size) hb13
     have hn8_13 : b8 < b13 := Zlt (Zlt B8.lt hS.size) hb13
     have hn12_13 : b12 < b13 := Zlt (Zlt B12.lt hS.size) hb13
     have hq13 : w.heap.size ≤ b13 := Zle (hX.tr hS).size hb13
     have hl13 : Xo (Wr me G) w b13 := .inr hq13
     first | have hz13 := Zle Z35 hb13 | skip
     have hm13 : w7.heap.size ≤ b13 := Zle hS.size hb13
     replace hS := hS.tr hE17
     replace hSet := hSet.ext hE17 (fun _ h => h.elim)
     refine Zc ⟨fun _ => hS, ?_⟩
     obtain ⟨n34, hn34⟩ : ∃ n, n = (World.heap w17).size := ⟨_, rfl⟩
     have hz35 : w.heap.size ≤ n34 := by rw [hn34]; exact Zle hX.size hS.size
     first | have hy13 : b13 < n34 := (by rw [hn34]; exact B13.lt) | skip
     refine Zo 9 rfl (ZK (Zw zE rfl (plan_ok w17 (if (decide (Xk 47 fl = [43]) || decide (Xk 47 fl = [35])) = true then [0, 1, 2, 3] else [(QI fl : Int)]) (ofL [sub]) ((hF.ext hS (fun _ h => h.elim)).sub (M' := Non) (fun i h _ => h.elim)) hSet (Q0 _) (by split <;> simp) (Zle (ofL_len _) (by simp))) ?_)); intro v35 w18 hE18 hR18
     replace B13 := Zx B13 hE18
     replace hS := hS.tr hE18
     replace hSet := hSet.ext hE18 (fun _ h => h.elim)
     have hP := (hR18).sub (M' := fun i => i < n34 ∨ (World.heap w18).size ≤ i) (fun i h hlt => by have : i < n34 := h.elim id (fun h => by omega); rw [hn34] at this; exact this)
     obtain ⟨pa, pn, pc, rfl⟩ := hP.shape
     have Z35 : (World.heap w18).size ≤ (World.heap w18).size := Nat.le_refl _
     refine Zc ⟨fun _ => hS, ?_⟩
     refine Zt 10 [11, 13] rfl hS (ZG fun A hA => Z2 b_162 rfl rfl (cs := _) rfl) (Zo 11 rfl (ZK (ZY rfl ?_))); intro b37 w19 hb37 hE19 B37
     have hn78_37 : b78 < b37 := Zlt (Zlt B78.lt hS.size) hb37
     have hn7_37 : b7 < b37 := Zlt (Zlt B7.lt hS.size) hb37
     have hn8_37 : b8 < b37 := Zlt (Zlt B8.lt hS.size) hb37
     have hn12_37 : b12 < b37 := Zlt (Zlt B12.lt hS.size) hb37
     have hn13_37 := Zn B13 hb37
     have hq37 : w.heap.size ≤ b37 := Zle (hX.tr hS).size hb37
     have hl37 : Xo (Wr me G) w b37 := .inr hq37
     have hf37 := Zle (Zle hZ hS.size) hb37
     have hz37 := Zle Z35 hb37
     have hm37 : w7.heap.size ≤ b37 := Zle hS.size hb37
     replace B13 := Zx B13 hE19
     replace hS := hS.tr hE19
     replace hP := hP.ext hE19 (fun _ h => h.elim)
     replace Z35 := Zle Z35 hE19.size
     refine Zc ⟨fun _ => hS, ?_⟩
     refine Zo 13 rfl (ZK (ZN (b := b13) XY rfl (by conv => lhs; whnf) rfl rfl B13 Zbl ?_)); intro w20 hE20 B13 hz20
     replace B37 := B37.ext hE20 (fun h => by omega)
     replace hS := hS.mine hE20 (.inr (by omega))
     replace hP := hP.ext hE20 (fun i hi => by first | exact .inr (by omega) | exact .inl (by omega))
     replace Z35 := Zle Z35 hE20.size
     refine Zc ⟨fun _ => hS, ?_⟩
     refine ZZ (by kernel_rfl) ?_ _
     replace hX := hX.tr hS
     replace B78 := Zx B78 hS; replace B7 := Zx B7 hS; replace B8 := Zx B8 hS; replace B12 := Zx B12 hS
     replace hXn := hXn.tr hS
     replace hF := hF.ext hS (fun _ h => h.elim)
     replace hZ := Zle hZ hS.size
     exact ⟨rfl, (b13, b37, pa, pn, pc), ⟨rfl, rfl, rfl, rfl, rfl, rfl, rfl, trivial⟩, ⟨hX, B7, B8, B12, B13, B37, hl7, hl8, hl12, hl13, hl37, ⟨hXn, B78, by omega, by omega, by omega, by omega, hq13, hq37, (hF.sub (fun i h _ => h.imp id (fun h => by rw [h]; exact hf37))), (hP.sub (fun i h _ => h.elim (fun h => .inl (Zlt h hz35)) (fun h => .inr (by rw [h]; exact hz37))))⟩⟩⟩
   ·refine ZK (ZT z_159 ?_); intro b13 w21 hb13 hE21 B13
    have hn78_13 : b78 < b13 := Zlt (Zlt B78.lt hS.size) hb13
    have hn7_13 : b7 < b13 := Zlt (Zlt B7.lt hS.size) hb13
    have hn8_13 : b8 < b13 := Zlt (Zlt B8.lt hS.size) hb13
    have hn12_13 : b12 < b13 := Zlt (Zlt B12.lt hS.size) hb13
    have hq13 : w.heap.size ≤ b13 := Zle (hX.tr hS).size hb13
    have hl13 : Xo (Wr me G) w b13 := .inr hq13
    first | have hz13 := Zle Z35 hb13 | skip
    have hm13 : w7.heap.size ≤ b13 := Zle hS.size hb13
    replace hS := hS.tr hE21
    replace hL33 := hL33.ext hE21 (fun _ h => h.elim)
    refine Zc ⟨fun _ => hS, ?_⟩
    refine Zo 8 rfl (ZK (Zw zE rfl (of_ok w21 [sub] hL33 (by simp)) ?_)); intro v34 w22 hE22 hR22
    replace B13 := Zx B13 hE22
    replace hS := hS.tr hE22
    replace hL33 := hL33.ext hE22 (fun _ h => h.elim)
    have hSet := (hR22).sub (M' := Non) (fun i h _ => h.elim)
    refine Zc ⟨fun _ => hS, ?_⟩
    obtain ⟨n34, hn34⟩ : ∃ n, n = (World.heap w22).size := ⟨_, rfl⟩
    have hz35 : w.heap.size ≤ n34 := by rw [hn34]; exact Zle hX.size hS.size
    first | have hy13 : b13 < n34 := (by rw [hn34]; exact B13.lt) | skip
    refine Zo 9 rfl (ZK (Zw zE rfl (plan_ok w22 (if (decide (Xk 47 fl = [43]) || decide (Xk 47 fl = [35])) = true then [0, 1, 2, 3] else [(QI fl : Int)]) (ofL [sub]) ((hF.ext hS (fun _ h => h.elim)).sub (M' := Non) (fun i h _ => h.elim)) hSet (Q0 _) (by split <;> simp) (Zle (ofL_len _) (by simp))) ?_)); intro v35 w23 hE23 hR23
    replace B13 := Zx B13 hE23
    replace hS := hS.tr hE23
    replace hSet := hSet.ext hE23 (fun _ h => h.elim)
    have hP := (hR23).sub (M' := fun i => i < n34 ∨ (World.heap w23).size ≤ i) (fun i h hlt => by have : i < n34 := h.elim id (fun h => by omega); rw [hn34] at this; exact this)
    obtain ⟨pa, pn, pc, rfl⟩ := hP.shape
    have Z35 : (World.heap w23).size ≤ (World.heap w23).size := Nat.le_refl _
    refine Zc ⟨fun _ => hS, ?_⟩
    refine Zt 10 [11, 13] rfl hS (ZG fun A hA => Z2 b_162 rfl rfl (cs := _) rfl) (Zo 11 rfl (ZK (ZY rfl ?_))); intro b37 w24 hb37 hE24 B37
    have hn78_37 : b78 < b37 := Zlt (Zlt B78.lt hS.size) hb37
    have hn7_37 : b7 < b37 := Zlt (Zlt B7.lt hS.size) hb37
    have hn8_37 : b8 < b37 := Zlt (Zlt B8.lt hS.size) hb37
    have hn12_37 : b12 < b37 := Zlt (Zlt B12.lt hS.size) hb37
    have hn13_37 := Zn B13 hb37
    have hq37 : w.heap.size ≤ b37 := Zle (hX.tr hS).size hb37
    have hl37 : Xo (Wr me G) w b37 := .inr hq37
    have hf37 := Zle (Zle hZ hS.size) hb37
    have hz37 := Zle Z35 hb37
    have hm37 : w7.heap.size ≤ b37 := Zle hS.size hb37
    replace B13 := Zx B13 hE24
    replace hS := hS.tr hE24
    replace hP := hP.ext hE24 (fun _ h => h.elim)
    replace Z35 := Zle Z35 hE24.size
    refine Zc ⟨fun _ => hS, ?_⟩
    refine Zo 13 rfl (ZK (ZN (b := b13) XY rfl (by conv => lhs; whnf) rfl rfl B13 Zbl ?_)); intro w25 hE25 B13 hz25
    replace B37 := B37.ext hE25 (fun h => by omega)
    replace hS := hS.mine hE25 (.inr (by omega))
    replace hP := hP.ext hE25 (fun i hi => by first | exact .inr (by omega) | exact .inl (by omega))
    replace Z35 := Zle Z35 hE25.size
    refine Zc ⟨fun _ => hS, ?_⟩
    refine ZZ (by kernel_rfl) ?_ _
    replace hX := hX.tr hS
    replace B78 := Zx B78 hS; replace B7 := Zx B7 hS; replace B8 := Zx B8 hS; replace B12 := Zx B12 hS
    replace hXn := hXn.tr hS
    replace hF := hF.ext hS (fun _ h => h.elim)
    replace hZ := Zle hZ hS.size
    exact ⟨rfl, (b13, b37, pa, pn, pc), ⟨rfl, rfl, rfl, rfl, rfl, rfl, rfl, trivial⟩, ⟨hX, B7, B8, B12, B13, B37, hl7, hl8, hl12, hl13, hl37, ⟨hXn, B78, by omega, by omega, by omega, by omega, hq13, hq37, (hF.sub (fun i h _ => h.imp id (fun h => by rw [h]; exact hf37))), (hP.sub (fun i h _ => h.elim (fun h => .inl (Zlt h hz35)) (fun h => .inr (by rw [h]; exact hz37))))⟩⟩⟩
  ·refine ZK (ZT z_159 ?_); intro b13 w26 hb13 hE26 B13
   have hn78_13 : b78 < b13 := Zlt (Zlt B78.lt hS.size) hb13
   have hn7_13 : b7 < b13 := Zlt (Zlt B7.lt hS.size) hb13
   have hn8_13 : b8 < b13 := Zlt (Zlt B8.lt hS.size) hb13
   have hn12_13 : b12 < b13 := Zlt (Zlt B12.lt hS.size) hb13
   have hq13 : w.heap.size ≤ b13 := Zle (hX.tr hS).size hb13
   have hl13 : Xo (Wr me G) w b13 := .inr hq13
   first | have hz13 := Zle Z35 hb13 | skip
   have hm13 : w7.heap.size ≤ b13 := Zle hS.size hb13
   replace hS := hS.tr hE26
   refine Zc ⟨fun _ => hS, ?_⟩
   refine Zo 7 rfl (ZK (Xz (r := eI1 sub) Xe rfl rfl rfl rfl (by decide) ?_)); intro v33 w27 b33 hb33 hE27 hO33
   have hL33 : Sl Non w27 v33 1 ([sub].map eI1) := hO33.sl (M := Non) id
   replace B13 := Zx B13 hE27
   replace hS := hS.tr hE27
   refine Zc ⟨fun _ => hS, ?_⟩
   refine Zo 8 rfl (ZK (Zw zE rfl (of_ok w27 [sub] hL33 (by simp)) ?_)); intro v34 w28 hE28 hR28
   replace B13 := Zx B13 hE28
   replace hS := hS.tr hE28
   replace hL33 := hL33.ext hE28 (fun _ h => h.elim)
   have hSet := (hR28).sub (M' := Non) (fun i h _ => h.elim)
   refine Zc ⟨fun _ => hS, ?_⟩
   obtain ⟨n34, hn34⟩ : ∃ n, n = (World.heap w28).size := ⟨_, rfl⟩
   have hz35 : w.heap.size ≤ n34 := by rw [hn34]; exact Zle hX.size hS.size
   first | have hy13 : b13 < n34 := (by rw [hn34]; exact B13.lt) | skip
   refine Zo 9 rfl (ZK (Zw zE rfl (plan_ok w28 (if (decide (Xk 47 fl = [43]) || decide (Xk 47 fl = [35])) = true then [0, 1, 2, 3] else [(QI fl : Int)]) (ofL [sub]) ((hF.ext hS (fun _ h => h.elim)).sub (M' := Non) (fun i h _ => h.elim)) hSet (Q0 _) (by split <;> simp) (Zle (ofL_len _) (by simp))) ?_)); intro v35 w29 hE29 hR29
   replace B13 := Zx B13 hE29
   replace hS := hS.tr hE29
   replace hSet := hSet.ext hE29 (fun _ h => h.elim)
   have hP := (hR29).sub (M' := fun i => i < n34 ∨ (World.heap w29).size ≤ i) (fun i h hlt => by have : i < n34 := h.elim id (fun h => by omega); rw [hn34] at this; exact this)
   obtain ⟨pa, pn, pc, rfl⟩ := hP.shape
   have Z35 : (World.heap w29).size ≤ (World.heap w29).size := Nat.le_refl _
   refine Zc ⟨fun _ => hS, ?_⟩
   refine Zt 10 [11, 13] rfl hS (ZG fun A hA => Z2 b_162 rfl rfl (cs := _) rfl) (Zo 11 rfl (ZK (ZY rfl ?_))); intro b37 w30 hb37 hE30 B37
   have hn78_37 : b78 < b37 := Zlt (Zlt B78.lt hS.size) hb37
   have hn7_37 : b7 < b37 := Zlt (Zlt B7.lt hS.size) hb37
   have hn8_37 : b8 < b37 := Zlt (Zlt B8.lt hS.size) hb37
   have hn12_37 : b12 < b37 := Zlt (Zlt B12.lt hS.size) hb37
   have hn13_37 := Zn B13 hb37
   have hq37 : w.heap.size ≤ b37 := Zle (hX.tr hS).size hb37
   have hl37 : Xo (Wr me G) w b37 := .inr hq37
   have hf37 := Zle (Zle hZ hS.size) hb37
   have hz37 := Zle Z35 hb37
   have hm37 : w7.heap.size ≤ b37 := Zle hS.size hb37
   replace B13 := Zx B13 hE30
   replace hS := hS.tr hE30
   replace hP := hP.ext hE30 (fun _ h => h.elim)
   replace Z35 := Zle Z35 hE30.size
   refine Zc ⟨fun _ => hS, ?_⟩
   refine Zo 13 rfl (ZK (ZN (b := b13) XY rfl (by conv => lhs; whnf) rfl rfl B13 Zbl ?_)); intro w31 hE31 B13 hz31
   replace B37 := B37.ext hE31 (fun h => by omega)
   replace hS := hS.mine hE31 (.inr (by omega))
   replace hP := hP.ext hE31 (fun i hi => by first | exact .inr (by omega) | exact .inl (by omega))
   replace Z35 := Zle Z35 hE31.size
   refine Zc ⟨fun _ => hS, ?_⟩
   refine ZZ (by kernel_rfl) ?_ _
   replace hX := hX.tr hS
   replace B78 := Zx B78 hS; replace B7 := Zx B7 hS; replace B8 := Zx B8 hS; replace B12 := Zx B12 hS
   replace hXn := hXn.tr hS
   replace hF := hF.ext hS (fun _ h => h.elim)
   replace hZ := Zle hZ hS.size
   exact ⟨rfl, (b13, b37, pa, pn, pc), ⟨rfl, rfl, rfl, rfl, rfl, rfl, rfl, trivial⟩, ⟨hX, B7, B8, B12, B13, B37, hl7, hl8, hl12, hl13, hl37, ⟨hXn, B78, by omega, by omega, by omega, by omega, hq13, hq37, (hF.sub (fun i h _ => h.imp id (fun h => by rw [h]; exact hf37))), (hP.sub (fun i h _ => h.elim (fun h => .inl (Zlt h hz35)) (fun h => .inr (by rw [h]; exact hz37))))⟩⟩⟩
 ·rintro τ905 ⟨b13, b37, pa, pn, pc⟩ C5 ⟨hX, B7, B8, B12, B13, B37, hl7, hl8, hl12, hl13, hl37, hI⟩
  obtain ⟨hXn, B78, hc7, hc8, hc12, hc13, hq13, hq37, hF, hP⟩ := hI
  refine ZC (Z5 (fun j => j == 9 || j == 10) mixed ?_); intro w32 hE32
  replace hX := hX.tr hE32
  replace B7 := Zx B7 hE32; replace B8 := Zx B8 hE32; replace B12 := Zx B12 hE32; replace B13 := Zx B13 hE32; replace B37 := Zx B37 hE32
  replace hXn := hXn.tr hE32
  replace B78 := Zx B78 hE32
  replace hF := hF.ext hE32 (fun _ h => h.elim)
  replace hP := hP.ext hE32 (fun _ h => h.elim)
  have hS := Ext.refl Non w32
  refine Zt 0 [1, 9, 10] rfl hS Zy ?_
  refine Zt 2 [3, 4, 5, 9, 10] rfl hS (Zv XY rfl B13 rfl) (Zt 3 [4, 5, 9, 10] rfl hS (Zr (Zg rfl)) (Zt 4 [5, 9, 10] rfl hS (Zr (Zf f_162_5 rfl)) (Zt 5 [9, 10] rfl hS (Zv XT rfl B37 rfl) (Zt 6 [7, 9, 10] rfl hS Zy ?_))))
  refine Zt 7 [9, 10] rfl hS (Zr (ZX rfl rfl (by omega))) (Zt 8 [9, 10] rfl hS (Zr (ZL rfl)) (Zo 1 rfl (ZK (Zw zE rfl (Yh w32 (B78.ext hS id)) ?_)))); intro v39 w33 hE33 hR33
  replace hS := hS.tr hE33
  subst hR33
  refine Zc ⟨fun _ => hS, ?_⟩
  replace hX := hX.tr hS
  replace B7 := Zx B7 hS; replace B8 := Zx B8 hS; replace B12 := Zx B12 hS; replace B13 := Zx B13 hS; replace B37 := Zx B37 hS
  replace hXn := hXn.tr hS
  replace B78 := Zx B78 hS
  replace hF := hF.ext hS (fun _ h => h.elim)
  replace hP := hP.ext hS (fun _ h => h.elim)
  refine Zo 9 rfl (ZK ?_)
  have hXc := hXn
  refine ZI zE rfl (h w33 b7 b8 b12 b13 b37 _ _ _ _ _ _ hXn hc7 hc8 hc12 hc13 hq37 B37 hq7 B7 hq8 B8 hq12 B12 hq13 B13 hF hP) ?_; intro v47 w34 hE34 hR
  replace hX := hX.wr (QD (b := b37)) hE34
  refine Zz ?_
  refine Zo 10 rfl (ZK (Za ?_))
  refine Zz ?_
  refine ZZ (by kernel_rfl) ?_ _
  refine ZB ?_
  exact ⟨_, ZD (Zh rfl), hX, hR.pre (QD (b := b37)) hXc.size⟩
section
structure SbP where
 sub : Int
 fl : Str
 nv : Value
 wb : Nat
 b7 : Nat
 b8 : Nat
 b12 : Nat
 b13 : Nat
 st : List Int
 qs : List Int
 sa : Option Addr
 pa : Option Addr
 sc : Nat
 pc : Nat
abbrev SbP.ov (q : SbP) : Value := .slice q.pa q.qs.length q.pc
abbrev SbP.sv (q : SbP) : Value := .slice q.sa q.st.length q.sc
abbrev SbP.rc (q : SbP) (me c : Nat) : List Value := wsC (some ⟨c, 0, none⟩) (me : Nat) q.sub q.fl q.nv q.ov
def SJ {α : Type} (me c : Nat) (q : SbP) (J : α → Tg → World → Prop) (x : α) (G : Tg) (w : World) : Prop := Jx me J q.wb x G w ∧ Bx (wrT me) G w q.wb (q.rc me c)
theorem SJ.stb {α : Type} {me c : Nat} {q : SbP} {J : α → Tg → World → Prop} : Stb me (SJ me c q J) := fun p G w G' w' h hS => ⟨h.1.same hS, h.2.same hS (.inr (.inr rfl))⟩
theorem Jx.writeGe {α : Type} {me n : Nat} {J : α → Tg → World → Prop} {x : α} {G G' : Tg} {w w' : World} (h : Jx me J n x G w) (hE : Ext (fun i => n ≤ i) w w') (hG : ∀ i, i < w.heap.size → G' i = G i) : Jx me J n x G' w' := by
 obtain ⟨G0, w0, h1, h2, h3⟩ := h
 refine ⟨G0, w0, h1, ⟨⟨hE.os.trans h2.ext.os, hE.tape.trans h2.ext.tape, hE.output.trans h2.ext.output, Zle h2.ext.size hE.size, fun i hi hm => ?_⟩, fun i hi => (hG i (Zlt hi h2.ext.size)).trans (h2.tag i hi)⟩, h3⟩
 exact (hE.block i (Zlt hi h2.ext.size) (fun e => by have h4 : n ≤ i := e; omega)).trans (h2.ext.block i hi hm)
theorem Yf {me a b : Nat} {G : Tg} (h1 : G a = kpT me) (h2 : G b = wrT me) : a ≠ b := fun e => by subst e; rw [h1] at h2; simp only [kpT, wrT] at h2; omega
theorem same_wx {T : Nat → Prop} {me b : Nat} {G : Tg} {w w' : World} (hE : Ext (fun i => i = b) w w') (hb : G b = wrT me) (hT : ¬ T (wrT me)) : ZV T G w (Kx me G w) w' := ⟨hE.mono fun i hi ht => hT (by rw [hi, hb] at ht; exact ht), fun i hi => Xf hi⟩
theorem SJ.rew {α : Type} {me c : Nat} {q : SbP} {J : α → Tg → World → Prop} {x : α} {G : Tg} {w w' : World} (h : SJ me c q J x G w) (hE : Ext (fun i => i = q.wb) w w') (hB : Zj w' q.wb (q.rc me c)) : SJ me c q J x (Kx me G w) w' :=
 ⟨h.1.writeGe (hE.mono fun i hi => Nat.le_of_eq hi.symm) (fun i hi => Xf hi), hB, (Xf h.2.lt).trans h.2.2⟩
structure SubE {α : Type} (L : Lay) (me : Nat) (J : α → Tg → World → Prop) (ψ : α × Xl → St → Out St) (q : SbP) (G : Tg) (w : World) : Prop where
 h13 : Bx (kpT me) G w q.b13 [pt q.wb]
 h7 : Bx (kpT me) G w q.b7 [.int .i64 q.sub]
 h8 : Bx (kpT me) G w q.b8 [Sv q.fl]
 h12 : Bx (kpT me) G w q.b12 [q.sv]
 hst : Sl (fun i => ¬ MyI me (G i)) w q.sv 1 (q.st.map eI)
 hqs : Sl (fun i => ¬ MyI me (G i)) w q.ov 1 (q.qs.map eI)
 nx : X1 (coY L) Tryz.prog me (fun p : α × Xl => J p.1) (fun p => #[.agg p.2.enc.toArray]) ψ G w q.nv
theorem SubE.same {α : Type} {L : Lay} {me : Nat} {J : α → Tg → World → Prop} {ψ : α × Xl → St → Out St} {q : SbP} {G G' : Tg} {w w' : World} (h : SubE L me J ψ q G w) (hS : ZV (MyI me) G w G' w') : SubE L me J ψ q G' w' :=
 ⟨h.h13.same hS (.inr rfl), h.h7.same hS (.inr rfl), h.h8.same hS (.inr rfl), h.h12.same hS (.inr rfl), hS.sl h.hst, hS.sl h.hqs, h.nx.same hS⟩
structure SbOk (L : Lay) (me : Nat) (q : SbP) : Prop where
 me_le : me ≤ 1000
 st4 : ∀ i ∈ q.st, 0 ≤ i ∧ i < 4
 qs12 : ∀ i ∈ q.qs, 0 ≤ i ∧ i < 12
 fl_le : q.fl.length ≤ 100000
 kd : L.k0 ≠ L.k1 ∧ L.k0 ≠ L.k2 ∧ L.k0 ≠ L.k3 ∧ L.k1 ≠ L.k2 ∧ L.k1 ≠ L.k3 ∧ L.k2 ≠ L.k3
 cp : L.c ≠ L.pl
section plans
variable {α : Type} (me : Nat) (ψ : α × Xl → St → Out St) (qs : List Int)
def qAns (x : α) (s : St) : Out St := ⟨true, s, doP (ψ (x, Jq (0, 0)))⟩
def qFree (x : α) : St → Out St := Qx (St.unlock ((me : Int) + 1)) qs (qAns ψ x)
def qEnd (x : α) (s : St) : Out St := pLeave me (qFree me ψ qs) x s
def QK : List Int → α → St → Out St
 | [], x => qEnd me ψ qs x
 | _ :: l, x => fun s => ⟨true, s, doP (QK l x)⟩
end plans
theorem CoM.ks {L : Lay} {G : Tg} {w : World} {s : St} (hM : CoM L G w s) {i : Nat} (hi : i < 4) : Zj w (L.ks i) [XV, XV, .int .i64 0] := by
 rcases i with _ | _ | _ | _ | i
 ·obtain ⟨n, _, h⟩ := hM.k0; exact h.1
 ·obtain ⟨n, _, h⟩ := hM.k1; exact h.1
 ·obtain ⟨n, _, h⟩ := hM.k2; exact h.1
 ·obtain ⟨n, _, h⟩ := hM.k3; exact h.1
 ·omega
section
variable {L : Lay} {me : Nat} {α : Type} {J : α → Tg → World → Prop} {ψ : α × Xl → St → Out St} {q : SbP} {b0 : Nat} {G : Tg} {w : World}
theorem n_sans (hs : Stb me J) (hE : SubE L me J ψ q G w) (hB0 : Bx (kpT me) G w b0 [pt q.wb]) :
  X5 (coY L) Tryz.prog me (SJ me L.c q J) (qAns ψ) G w (.func (.func 180) #[] #[pt b0]) := by
 refine ⟨_, #[], _, rfl, zE, fun p G' w' s hS hM _ hJ => ?_⟩
 rw [Q6]
 refine send211_w (Y := coY L) (r := qAns ψ p s) w' hJ.2.1 (JN hE.nx) (hB0.same hS (.inr rfl)).1 fun w1 E1 => ?_
 exact answer_mk (J := J) (x := p) ((coY L).same hM (ZA E1)) ((hE.nx.same hS).same (ZA E1)) (hs _ _ _ _ _ (hJ.1.get hs) (ZA E1)) hs
theorem n_sfree (hs : Stb me J) (hk : SbOk L me q) (hE : SubE L me J ψ q G w) (hB0 : Bx (kpT me) G w b0 [pt q.wb]) :
  X5 (coY L) Tryz.prog me (SJ me L.c q J) (qFree me ψ q.qs) G w (.func (.func 178) #[] #[pt b0]) := by
 refine ⟨_, #[], _, rfl, zE, fun p G' w' s hS hM ha hJ => ?_⟩
 rw [Q6]
 have hb := hB0.same hS (.inr rfl)
 have := hk.me_le
 refine send21_w (Y := coY L) (r := qFree me ψ q.qs p s) w' hJ.2.1 (Qo hM).core.1 rfl (by omega) hb.1 fun w1 E1 => ?_
 have SI : ZV (MyI me) G' w' (Kx me G' w') w1 := ZA E1
 exact free_mk (stf := St.unlock ((me : Int) + 1)) (lvf := lvf L) (φ := qAns ψ) SJ.stb q.qs _ w1 s p q.pa q.pc ((coY L).same hM (ZA E1)) (freeM_co ((Qo hM).same (ZA (T := Cor) (me := me) E1) (by unfold Cor; omega)) hk.qs12 (by omega)) ((hE.same hS).same SI).hqs (n_sans hs ((hE.same hS).same SI) (hb.same SI (.inr rfl))) (SJ.stb _ _ _ _ _ hJ (ZA E1)) ha
theorem n_scoll (hs : Stb me J) (hk : SbOk L me q) (hE : SubE L me J ψ q G w) (hB0 : Bx (kpT me) G w b0 [pt q.wb]) :
  X5 (coY L) Tryz.prog me (SJ me L.c q J) (pColl (qFree me ψ q.qs)) G w (.func (.func 176) #[] #[pt b0]) := by
 refine ⟨_, #[], _, rfl, zE, fun p G' w' s hS hM ha hJ => ?_⟩
 rw [Q6]
 have hb := hB0.same hS (.inr rfl)
 refine send2_w (Y := coY L) (r := pColl (qFree me ψ q.qs) p s) w' hJ.2.1 hb.1 fun w1 E1 => ?_
 have SI : ZV (MyI me) G' w' (Kx me G' w') w1 := ZA E1
 refine Jp (J := SJ me L.c q J) (J' := SJ me L.c q J) (F := fAdv) (ψ := qFree me ψ q.qs) (x := p) ((coY L).same hM (ZA E1)) ⟨_, #[pt L.c], #[], rfl, zE, fun x G2 w2 s2 hS2 hM2 ha2 hJ2 => ?_⟩ (n_sfree hs hk ((hE.same hS).same SI) (hb.same SI (.inr rfl))) (SJ.stb _ _ _ _ _ hJ (ZA E1)) SJ.stb
 have := adv_co (me := me) (show CoM L G2 w2 s2 from hM2) ha2
 refine FnM.mono (by simpa using this) ?_
 rintro u w3 E3 ⟨G3, t1, t2, t3⟩
 exact ⟨G3, t1, t3, SJ.stb _ _ _ _ _ hJ2 t2⟩
theorem end_mk {x : α} {s : St} (hs : Stb me J) (hk : SbOk L me q) (hE : SubE L me J ψ q G w) (hM : (coY L).SM G w s) (hJ : SJ me L.c q J x G w) :
  MkS (coY L) Tryz.prog me 94 #[pt q.wb] G w (qEnd me ψ q.qs x s) := by
 refine send_w (Y := coY L) (r := qEnd me ψ q.qs x s) w fun w1 b1 E1 q1 B1 => ?_
 have SI : ZV (MyI me) G w (Kx me G w) w1 := ZA E1
 have k1 : Bx (kpT me) (Kx me G w) w1 b1 [pt q.wb] := ⟨B1, Xd q1⟩
 refine Jp (J := SJ me L.c q J) (J' := SJ me L.c q J) (F := fUnpin me) (ψ := pColl (qFree me ψ q.qs)) (x := x) ((coY L).same hM (ZA E1)) ⟨_, #[], _, rfl, zE, fun x3 G3 w3 s3 S3 M3 ha3 hJ3 => ?_⟩ (n_scoll hs hk (hE.same SI) k1) (SJ.stb _ _ _ _ _ hJ (ZA E1)) SJ.stb
 have hM3' : CoM L G3 w3 s3 := M3
 rw [cap1]
 refine sunp_w w3 hJ3.2.1 hM3'.frz.core.1 (k1.same S3 (.inr rfl)).1 fun w4 E4 => ?_
 refine ((unpin_co (me := me) ((coY L).same M3 (ZA (me := me) E4)) ha3).sub (fun i => wr_kx)).mono ?_
 rintro u w5 E5 ⟨G5, t1, t2, t3⟩
 exact ⟨G5, ZW.trans E4.size t1, t3, SJ.stb _ _ _ _ _ hJ3 ((ZA E4).trans t2)⟩
theorem scan_mk (hs : Stb me J) (hk : SbOk L me q) : ∀ (l : List Int) (G : Tg) (w : World) (s : St) (x : α) (a : Option Addr) (c : Nat), (∀ i ∈ l, 0 ≤ i ∧ i < 4) → SubE L me J ψ q G w → (coY L).SM G w s → Sl (fun i => ¬ MyI me (G i)) w (.slice a l.length c) 1 (l.map eI) → SJ me L.c q J x G w → (QK me ψ q.qs l x s).al = true →
  MkS (coY L) Tryz.prog me 91 #[pt q.wb, .slice a l.length c] G w (QK me ψ q.qs l x s)
 | [], G, w, s, x, a, c, hl, hE, hM, hL, hJ, ha => by
  refine scan_nil (Y := coY L) (r := QK me ψ q.qs [] x s) w hJ.2.1 (fun w1 _ => sort_0 w1) fun w1 E1 => ?_
  refine soffer_w (Y := coY L) (r := QK me ψ q.qs [] x s) w1 fun w2 E2 => ?_
  exact end_mk hs hk (hE.same ((ZA E1).trans (ZA E2))) ((coY L).same hM ((ZA E1).trans (ZA E2))) (SJ.stb _ _ _ _ _ hJ ((ZA E1).trans (ZA E2)))
 | i :: l, G, w, s, x, a, c, hl, hE, hM, hL, hJ, ha => by
  obtain ⟨b, oo, rfl⟩ := hL.base (by simp)
  obtain ⟨k, rfl⟩ : ∃ k : Nat, i = (k : Int) := ⟨i.toNat, by have := hl i (by simp); omega⟩
  have hk4 : k < 4 := by have := hl _ (List.mem_cons_self); omega
  refine scan_cons (Y := coY L) (r := QK me ψ q.qs ((k : Int) :: l) x s) w hJ.2.1 (Qo hM).core.1 (i := k) (q := some ⟨L.kc k, 0, none⟩) hk4 (by rcases k with _ | _ | _ | _ | k <;> first | rfl | omega) hL fun w1 b2 b3 E1 q2 B2 q3 B3 => ?_
  have SI : ZV (MyI me) G w (Kx me G w) w1 := ZA E1
  have k2 : Bx (kpT me) (Kx me G w) w1 b2 [pt q.wb] := ⟨B2, Xd q2⟩
  have k3 : Bx (kpT me) (Kx me G w) w1 b3 _ := ⟨B3, Xd q3⟩
  have E2 := hE.same SI
  have hL2 := SI.sl hL
  have e : (QK me ψ q.qs ((k : Int) :: l) x s) = ⟨true, s, doP fun s => (fun (p : α × Option Addr) (s : St) => (⟨decide (p.2 = some ⟨L.ks k, 0, none⟩) && (QK me ψ q.qs l p.1 s).al, (QK me ψ q.qs l p.1 s).st, (QK me ψ q.qs l p.1 s).pl⟩ : Out St)) (x, some ⟨L.ks k, 0, none⟩) s⟩ := by
   show (⟨true, s, doP (QK me ψ q.qs l x)⟩ : Out St) = _
   simp
  rw [e]
  refine stlK_mk (J := SJ me L.c q J) (x := x) (val := fun _ : St => some (⟨L.ks k, 0, none⟩ : Addr)) (ψ := fun (p : α × Option Addr) (s : St) => (⟨decide (p.2 = some ⟨L.ks k, 0, none⟩) && (QK me ψ q.qs l p.1 s).al, (QK me ψ q.qs l p.1 s).st, (QK me ψ q.qs l p.1 s).pl⟩ : Out St)) ((coY L).same hM (ZA E1)) (kept_co hk4 hk.kd) ⟨_, #[], _, rfl, zE, fun p G3 w3 s3 S3 M3 ha3 hJ3 => ?_⟩ (SJ.stb _ _ _ _ _ hJ (ZA E1)) SJ.stb
  obtain ⟨x3, v3⟩ := p
  rw [Bool.and_eq_true, decide_eq_true_eq] at ha3
  obtain ⟨hv, ha3⟩ := ha3
  have hv : v3 = some ⟨L.ks k, 0, none⟩ := hv
  subst hv
  have hM3' : CoM L G3 w3 s3 := M3
  have hJ3 : SJ me L.c q J x3 G3 w3 := hJ3
  have hL3 := S3.sl hL2
  have t2 := k2.same S3 (.inr rfl); have t3 := k3.same S3 (.inr rfl)
  have ht := sl_tail hL3
  have key := scan2_w (Y := coY L) (me := me) (G := G3) (r := QK me ψ q.qs l x3 s3) w3 hJ3.2.1 hJ3.2.2 (JN hE.nx) rfl (by have := hk.fl_le; omega) ht.2 (hM3'.ks hk4) t2.1 t3.1 (Yf t2.2 hJ3.2.2) (Yf t3.2 hJ3.2.2) fun w4 E4 B4 => ?_
  ·have er : (⟨decide (some (⟨L.ks k, 0, none⟩ : Addr) = some ⟨L.ks k, 0, none⟩) && (QK me ψ q.qs l x3 s3).al, (QK me ψ q.qs l x3 s3).st, (QK me ψ q.qs l x3 s3).pl⟩ : Out St) = QK me ψ q.qs l x3 s3 := by rw [decide_eq_true rfl, Bool.true_and]
   rw [← er] at key
   unfold MkS; simpa using key
  ·have hI4 : ZV (MyI me) G3 w3 (Kx me G3 w3) w4 := same_wx E4 hJ3.2.2 myI_wr
   exact scan_mk hs hk l _ w4 s3 x3 _ _ (fun i hi => hl i (by simp [hi])) (E2.same (S3.trans hI4)) ((coY L).same M3 (same_wx E4 hJ3.2.2 JP)) (hI4.sl ht.1) (hJ3.rew E4 B4) ha3
end
end
section
def Tr.nob : Tr → Bool | .node [] [] [] => true | _ => false
theorem Tr.nob_eq : ∀ {t : Tr}, t.nob = true → t = .bare
 | .node [] [] [], _ => rfl
 | .node (_ :: _) _ _, h => by simp [Tr.nob] at h
 | .node [] (_ :: _) _, h => by simp [Tr.nob] at h
 | .node [] [] (_ :: _), h => by simp [Tr.nob] at h
abbrev SbP.tr (q : SbP) : Tr := Tr.bare.put (spl 47 q.fl) q.sub
section plans
variable {α : Type} (me : Nat) (ψ : α × Xl → St → Out St) (q : SbP)
def fRet (i : Int) (x : α) (s : St) : Fo α St := ⟨s.retA, x, s.ret i⟩
def qRet (old : Int × Int) (x : α) (s : St) : Out St := ⟨true, s, doP (Xp (fRet old.1) (QK me ψ q.qs q.st) x)⟩
def qCas2 (old : Int × Int) (p : (α × (Int × Int)) × Bool) (s : St) : Out St := if p.2 = true then qRet me ψ q old p.1.1 s else ⟨false, s, .done⟩
def qCas (old : Int × Int) (p : α × (Int × Int)) (s : St) : Out St := ⟨true, s, doP fun s => qCas2 me ψ q old (p, St.casB old s) (St.cas old p.2 s)⟩
def fTake (x : α) (s : St) : Fo (α × (Int × Int)) St := ⟨s.takeA, (x, s.takeR), s.take q.tr 1⟩
def qTake (old : Int × Int) (x : α) (s : St) : Out St := ⟨true, s, doP (Xp (fTake q) (qCas me ψ q old) x)⟩
def fRead (old : Int × Int) (x : α) (s : St) : Fo α St := ⟨St.readA old s && ((St.readT old s).nob && decide (St.readN old s = 0)), x, s⟩
def qFrom (p : α × (Int × Int)) (s : St) : Out St := ⟨true, s, doP (Xp (fRead p.2) (qTake me ψ q p.2) p.1)⟩
def qSwap2 (x : α) (s : St) : Out St := ⟨true, s, doP fun s => qFrom me ψ q (x, s.root) s⟩
def qSwap (x : α) (s : St) : Out St := ⟨true, s, doP (Xp (fPin me) (qSwap2 me ψ q) x)⟩
def qSub (x : α) (s : St) : Out St := locksP St.lockB (St.lock ((me : Int) + 1)) q.qs (qSwap me ψ q x) s
end plans
def TK {α : Type} (me b n : Nat) (t : Tr) (K : α → Tg → World → Prop) (x : α) (G : Tg) (w : World) : Prop := K x G w ∧ ∃ p, Bx (wrT me) G w b [.pointer p, .int .i64 (n : Nat)] ∧ TrM (fun i => ¬ G i = 0) w t (.pointer p)
theorem TK.stb {α : Type} {me b n : Nat} {t : Tr} {K : α → Tg → World → Prop} (hK : Stb me K) : Stb me (TK me b n t K) := fun x G w G' w' h hS => by
 obtain ⟨h1, p, h2, h3⟩ := h
 exact ⟨hK _ _ _ _ _ h1 hS, p, h2.same hS (.inr (.inr rfl)), hS.tr0 (.inl rfl) h3⟩
def NK {α : Type} (me b : Nat) (K : α → Tg → World → Prop) (p : α × (Int × Int)) (G : Tg) (w : World) : Prop := K p.1 G w ∧ Bx (wrT me) G w b [.int .i64 p.2.1, .int .i64 p.2.2]
theorem NK.stb {α : Type} {me b : Nat} {K : α → Tg → World → Prop} (hK : Stb me K) : Stb me (NK me b K) := fun x G w G' w' h hS => ⟨hK _ _ _ _ _ h.1 hS, h.2.same hS (.inr (.inr rfl))⟩
theorem SJ.wr {α : Type} {me c b : Nat} {q : SbP} {J : α → Tg → World → Prop} {x : α} {G : Tg} {w w' : World} (h : SJ me c q J x G w) (hE : Ext (fun i => i = b) w w') (hb : q.wb < b) : SJ me c q J x G w' :=
 ⟨h.1.writeGe (hE.mono fun i hi => by show q.wb ≤ i; omega) (fun i hi => rfl), h.2.1.ext hE (fun e => by have : q.wb = b := e; omega), h.2.2⟩
section
variable {L : Lay} {me : Nat} {α : Type} {J : α → Tg → World → Prop} {ψ : α × Xl → St → Out St} {q : SbP} {b0 b1 b2 b3 b4 b5 b6 b9 : Nat} {G : Tg} {w : World} {old : Int × Int}
abbrev cvF (q : SbP) : Value := .func (.func 88) #[] #[pt q.b8, pt q.b7]
abbrev fvF (q : SbP) : Value := .func (.func 90) #[] #[pt q.b13, pt q.b12]
theorem n_son (hs : Stb me J) (hk : SbOk L me q) (hE : SubE L me J ψ q G w) : X5 (coY L) Tryz.prog me (SJ me L.c q J) (QK me ψ q.qs q.st) G w (fvF q) := by
 refine ⟨_, #[], _, rfl, zE, fun p G' w' s hS hM ha hJ => ?_⟩
 rw [Q6]
 have h2 := hE.same hS
 refine s12_w (Y := coY L) (r := QK me ψ q.qs q.st p s) w' rfl h2.h13.1 h2.h12.1 fun w1 E1 => ?_
 exact scan_mk hs hk q.st _ w1 s p q.sa q.sc hk.st4 (h2.same (ZA E1)) ((coY L).same hM (ZA E1)) (h2.same (ZA E1)).hst (SJ.stb _ _ _ _ _ hJ (ZA E1)) ha
theorem n_cas2 (hs : Stb me J) (hk : SbOk L me q) (hE : SubE L me J ψ q G w) (B1 : Bx (kpT me) G w b1 [pt q.wb]) (B2 : Bx (kpT me) G w b2 [.int .i64 old.1, .int .i64 old.2]) (B3 : Bx (kpT me) G w b3 [fvF q]) :
  X1 (coY L) Tryz.prog me (fun p : (α × (Int × Int)) × Bool => NK me b4 (SJ me L.c q J) p.1) (fun p => #[.bool p.2]) (qCas2 me ψ q old) G w (.func (.func 220) #[] #[pt b1, pt b2, pt b3, pt b4, pt b5]) := by
 refine ⟨_, #[], _, rfl, zE, fun p G' w' s hS hM ha hJ => ?_⟩
 obtain ⟨⟨x, v⟩, t⟩ := p
 cases t with
 | false => cases ha
 | true =>
  have hJ' : SJ me L.c q J x G' w' := hJ.1
  have k1 := B1.same hS (.inr rfl); have k2 := B2.same hS (.inr rfl); have k3 := B3.same hS (.inr rfl)
  have h2 := hE.same hS
  have key := from221_w (Y := coY L) (me := me) (G := G') (r := qRet me ψ q old x s) (b1 := b1) (b2 := b2) (b4 := b4) (b5 := b5) w' (fv := fvF q) rfl k3.1 fun w1 E1 => ?_
  ·unfold MkS qCas2; simpa using key
  ·refine Jp (J := SJ me L.c q J) (J' := SJ me L.c q J) (F := fRet old.1) (ψ := QK me ψ q.qs q.st) (x := x) ((coY L).same hM (ZA E1)) ⟨_, #[], _, rfl, zE, fun x3 G3 w3 s3 S3 M3 ha3 hJ3 => ?_⟩ (n_son hs hk (h2.same (ZA E1))) (SJ.stb _ _ _ _ _ hJ' (ZA E1)) SJ.stb
   have hM3' : CoM L G3 w3 s3 := M3
   have SI : ZV (MyI me) G' w' (Kx me G' w') w1 := ZA E1
   rw [cap1]
   refine fromR_w w3 hJ3.2.1 hM3'.frz.core.1 ((k1.same SI (.inr rfl)).same S3 (.inr rfl)).1 ((k2.same SI (.inr rfl)).same S3 (.inr rfl)).1 fun w4 E4 => ?_
   refine ((ret_co (me := me) ((coY L).same M3 (ZA (me := me) E4)) ha3).sub (fun i => wr_kx)).mono ?_
   rintro u w5 E5 ⟨G5, t1, t2, t3⟩
   exact ⟨G5, ZW.trans E4.size t1, t3, SJ.stb _ _ _ _ _ hJ3 ((ZA E4).trans t2)⟩
theorem n_scas (hs : Stb me J) (hk : SbOk L me q) (hE : SubE L me J ψ q G w) (hB0 : Bx (kpT me) G w b0 [pt q.wb]) (B1 : Bx (kpT me) G w b1 [.int .i64 old.1, .int .i64 old.2]) (B3 : Bx (kpT me) G w b3 [fvF q]) :
  X5 (coY L) Tryz.prog me (NK me b2 (SJ me L.c q J)) (qCas me ψ q old) G w (.func (.func 218) #[] #[pt b0, pt b1, pt b2, pt b3, pt b4]) := by
 refine ⟨_, #[], _, rfl, zE, fun p G' w' s hS hM ha hJ => ?_⟩
 rw [Q6]
 have k0 := hB0.same hS (.inr rfl); have k1 := B1.same hS (.inr rfl); have k3 := B3.same hS (.inr rfl)
 refine from22_w (Y := coY L) (r := qCas me ψ q old p s) (old := old) (now := p.2) w' hJ.1.2.1 (Qo hM).core.1 k0.1 k1.1 hJ.2.1 fun w1 E1 => ?_
 have SI : ZV (MyI me) G' w' (Kx me G' w') w1 := ZA E1
 exact cas_mk (J := NK me b2 (SJ me L.c q J)) (x := p) (okf := St.casB old) (stf := St.cas old p.2) (ψ := qCas2 me ψ q old) ((coY L).same hM (ZA E1)) cas_co (n_cas2 hs hk ((hE.same hS).same SI) (k0.same SI (.inr rfl)) (k1.same SI (.inr rfl)) (k3.same SI (.inr rfl))) (NK.stb SJ.stb _ _ _ _ _ hJ (ZA E1)) (NK.stb SJ.stb)
theorem n_stake (hs : Stb me J) (hk : SbOk L me q) (hsm : Jr q.tr) (hfil : XJ q.fl = true) (hE : SubE L me J ψ q G w) (hB0 : Bx (kpT me) G w b0 [cvF q]) (B2 : Bx (kpT me) G w b2 [pt q.wb]) (B3 : Bx (kpT me) G w b3 [.int .i64 old.1, .int .i64 old.2]) (B4 : Bx (kpT me) G w b4 [fvF q]) (hwb : q.wb < b9) :
  X5 (coY L) Tryz.prog me (TK me b9 0 .bare (SJ me L.c q J)) (qTake me ψ q old) G w (.func (.func 215) #[] #[pt b0, pt b9, pt b2, pt b3, pt b4]) := by
 refine ⟨_, #[], _, rfl, zE, fun x G' w' s hS hM ha hJ => ?_⟩
 rw [Q6]
 have k0 := hB0.same hS (.inr rfl); have k2 := B2.same hS (.inr rfl); have k3 := B3.same hS (.inr rfl); have k4 := B4.same hS (.inr rfl)
 obtain ⟨hJ1, p0, hT9, hT⟩ := hJ
 have h2 := hE.same hS
 have hgo : XP ltI (Tr.go (spl 47 q.fl) .bare).subs q.sub = false := by
  have : ∀ ls : List Str, Tr.go ls .bare = .bare := fun ls => by
   induction ls with
   | nil => rfl
   | cons l ls ih => show Tr.go ls (Tr.bare.kid l) = _; rw [show Tr.bare.kid l = .bare from rfl]; exact ih
  rw [this]; rfl
 refine from2_w (Y := coY L) (r := qTake me ψ q old x s) (f2 := 88) (cap2 := #[pt q.b8, pt q.b7]) (T := q.tr) (lenT := 1) (M0 := fun i => i < w'.heap.size ∧ ¬ G' i = 0) w' hJ1.2.1 zE (JN hE.nx) rfl hJ1.2.2 hT9.2 (by omega) ⟨Yf k0.2 hT9.2, Yf k0.2 hJ1.2.2⟩ ⟨Yf k2.2 hT9.2, Yf k2.2 hJ1.2.2⟩ k0.1 hT9.1 k2.1 (fun i hi => hi.1) ⟨hT9.lt, by rw [hT9.2]; simp only [wrT]; omega⟩ ⟨hJ1.2.lt, by rw [hJ1.2.2]; simp only [wrT]; omega⟩ (fun w1 E1 => ?_) fun nn w1 b6 p hn1 hn2 E1 hT1 B9 hBw B6 => ?_
 ·have := s11_w (b1 := q.b8) (b2 := q.b7) (p := p0) w1 .bare 0 q.fl q.sub (by have := hk.fl_le; omega) (fun i => i < w'.heap.size ∧ ¬ G' i = 0) (fun i hi => Zlt hi.1 E1.size) ((hT.sub (M' := fun i => i < w'.heap.size ∧ ¬ G' i = 0) (fun i hi _ => hi.2)).ext E1 (fun _ h => h.elim)) (Tr.Ok.bare (n := 0) (m := q.fl.length + 1)) (by omega) (Nat.le_refl _) hfil hgo (by omega) (h2.h8.1.ext E1 id) (h2.h7.1.ext E1 id)
  exact this
 ·have hlt9 : b9 < w'.heap.size := hT9.lt
  have hltw := hJ1.2.lt
  have hEI : ∀ T : Nat → Prop, ¬ T (wrT me) → ZV T G' w' (K2 me G' w' nn b6) w1 := fun T hT => ⟨E1.mono fun i hi ht => hT (by rcases hi with hi | hi <;> rw [hi] at ht; rwa [hT9.2] at ht; rwa [hJ1.2.2] at ht), fun i hi => Xf hi⟩
  have SI := hEI (MyI me) myI_wr
  have hJ2 : SJ me L.c q J x (K2 me G' w' nn b6) w1 := ⟨hJ1.1.writeGe (E1.mono fun i hi => by show q.wb ≤ i; omega) (fun i hi => Xf hi), hBw, (Xf hltw).trans hJ1.2.2⟩
  have hb6 : w'.heap.size ≤ b6 := by omega
  have hT2 : TrM (fun i => ¬ K2 me G' w' nn b6 i = 0) w1 q.tr (.pointer p) := hT1.sub fun i hi hlt => by
   by_cases h1 : i < w'.heap.size
   ·left; refine ⟨h1, fun h0 => hi ?_⟩; exact (Xf h1).trans h0
   ·by_cases h3 : nn ≤ i
    ·exact .inr h3
    ·exact absurd ((Xd (G := G') (n := w'.heap.size) (f := fun i => if i < nn then 0 else if i = b6 then wrT me else kpT me) (Nat.le_of_not_lt h1)).trans (if_pos (by omega))) hi
  have hK6 : Bx (wrT me) (K2 me G' w' nn b6) w1 b6 [.int .i64 0, .int .i64 0] := ⟨B6, (Xd hb6).trans (by rw [if_neg (by omega), if_pos rfl])⟩
  have hb2 := k2.same SI (.inr rfl); have hb3 := k3.same SI (.inr rfl); have hb4 := k4.same SI (.inr rfl)
  refine Jp (J := fun x G w => TK me b9 1 q.tr (SJ me L.c q J) x G w ∧ Bx (wrT me) G w b6 [.int .i64 0, .int .i64 0]) (J' := NK me b6 (SJ me L.c q J)) (F := fTake q) (ψ := qCas me ψ q old) (x := x) ((coY L).same hM (hEI Cor JP)) ⟨_, #[], _, rfl, zE, fun x3 G3 w3 s3 S3 M3 ha3 hJ3 => ?_⟩ (n_scas hs hk (h2.same SI) hb2 hb3 hb4) ⟨⟨hJ2, p, ⟨B9, (Xf hlt9).trans hT9.2⟩, hT2⟩, hK6⟩ (fun x G w G' w' h hS => ⟨TK.stb SJ.stb _ _ _ _ _ h.1 hS, h.2.same hS (.inr (.inr rfl))⟩)
  have hM3' : CoM L G3 w3 s3 := M3
  obtain ⟨⟨hJ4, p4, hB94, hT4⟩, hB64⟩ := hJ3
  rw [cap1]
  refine (fromT_w (M := Wr me G3) (Q := fun w5 => ∃ G5, Tgs me G3 w3 G5 w5 ∧ ZV (MyT me) G3 w3 G5 w5 ∧ CoM L G5 w5 (s3.take q.tr 1)) w3 s3.takeR hJ4.2.1 (.inr hB64.2) (hb2.same S3 (.inr rfl)).1 hB94.1 fun w4 E4 => ?_).mono ?_
  ·have S4 : ZV (MyT me) G3 w3 (Kx me G3 w3) w4 := ZA E4
   refine ((take_co (me := me) (t := q.tr) (p := p4) (len := 1) ((coY L).same M3 (ZA (me := me) E4)) ha3 (S4.tr0 (.inl rfl) hT4) hsm hk.cp).sub (fun i => wr_kx)).mono ?_
   rintro u w5 E5 ⟨rfl, G5, t1, t2, t3⟩
   exact ⟨rfl, (hB64.same (S4.trans t2) (.inr (.inr rfl))).1, G5, ZW.trans E4.size t1, S4.trans t2, t3⟩
  ·rintro u w6 hX ⟨w5, ⟨G5, t1, t2, t3⟩, E5, B5, hz⟩
   have hb65 := hB64.same t2 (.inr (.inr rfl))
   refine ⟨G5, t1.sized hz, (coY L).same t3 (Q8 E5 hb65.2 JP), (SJ.stb _ _ _ _ _ hJ4 t2).wr E5 (by omega), B5, hb65.2⟩
theorem n_sfrom (hs : Stb me J) (hk : SbOk L me q) (hsm : Jr q.tr) (hfil : XJ q.fl = true) (hE : SubE L me J ψ q G w) (B1 : Bx (kpT me) G w b1 [pt q.wb]) (B2 : Bx (kpT me) G w b2 [cvF q]) (B3 : Bx (kpT me) G w b3 [fvF q]) :
  X1 (coY L) Tryz.prog me (fun p : α × (Int × Int) => SJ me L.c q J p.1) (fun p => #[(fun v : Int × Int => (.agg #[.int .i64 v.1, .int .i64 v.2] : Value)) p.2]) (qFrom me ψ q) G w (.func (.func 157) #[] #[pt b1, pt b2, pt b3]) := by
 refine ⟨_, #[], _, rfl, zE, fun p G' w' s hS hM ha hJ => ?_⟩
 have h2 := hE.same hS
 have key := swap21_w (Y := coY L) (me := me) (G := G') (r := qFrom me ψ q p s) (old := p.2) (cv := cvF q) (fv := fvF q) w' rfl rfl rfl rfl (B1.same hS (.inr rfl)).1 (B2.same hS (.inr rfl)).1 (B3.same hS (.inr rfl)).1 fun w1 E1 => ?_
 ·unfold MkS; simpa using key
 ·refine from_w (Y := coY L) (r := qFrom me ψ q p s) (old := p.2) (cv := cvF q) (fv := fvF q) w1 rfl rfl rfl rfl fun w2 c4 c5 c6 c7 c9 E2 n4 n5 n6 n7 q4 B4 q5 B5 q6 B6 q7 B7 q9 B9 => ?_
  have S1 : ∀ T : Nat → Prop, ZV T G' w' (Kw me (Kx me G' w') w1 c9) w2 := fun T => (ZA E1).trans (XU E2)
  have hwb : q.wb < c9 := Zlt hJ.2.lt (Zle E1.size q9)
  have hJ2 := SJ.stb _ _ _ _ _ hJ (S1 _)
  refine Jp (J := fun x G w => SJ me L.c q J x G w ∧ Bx (wrT me) G w c9 [.pointer none, .int .i64 0]) (J' := TK me c9 0 .bare (SJ me L.c q J)) (F := fRead p.2) (ψ := qTake me ψ q p.2) (x := p.1) ((coY L).same hM (S1 _)) ⟨_, #[], _, rfl, zE, fun x3 G3 w3 s3 S3 M3 ha3 hJ3 => ?_⟩ (n_stake hs hk hsm hfil (h2.same (S1 _)) ⟨B6, QW q6 n6⟩ ⟨B4, QW q4 n4⟩ ⟨B5, QW q5 n5⟩ ⟨B7, QW q7 n7⟩ hwb) ⟨hJ2, B9, kw_b q9⟩ (fun x G w G' w' h hS => ⟨SJ.stb _ _ _ _ _ h.1 hS, h.2.same hS (.inr (.inr rfl))⟩)
  have hM3' : CoM L G3 w3 s3 := M3
  rw [cap1]
  have ha4 : St.readA p.2 s3 = true ∧ (St.readT p.2 s3).nob = true ∧ St.readN p.2 s3 = 0 := by
   have := ha3; unfold fRead at this
   simpa only [Bool.and_eq_true, decide_eq_true_eq] using this
  refine (fromF_w (M := Wr me G3) (old := p.2) (A := fun p' len => len = 0 ∧ TrM (fun i => ¬ G3 i = 0) w3 .bare (.pointer p')) w3 hJ3.1.2.1 (.inr hJ3.2.2) ((show Bx (kpT me) (Kw me (Kx me G' w') w1 c9) w2 c4 [pt q.wb] from ⟨B4, QW q4 n4⟩).same S3 (.inr rfl)).1 ((show Bx (kpT me) (Kw me (Kx me G' w') w1 c9) w2 c5 [.int .i64 p.2.1, .int .i64 p.2.2] from ⟨B5, QW q5 n5⟩).same S3 (.inr rfl)).1 hJ3.2.1 fun w4 E4 => ?_).mono ?_
  ·refine (read_co hM3' E4 (r := p.2) ha4.1).mono fun u w5 E5 h => ?_
   obtain ⟨p', rfl, hT, _⟩ := h
   rw [Tr.nob_eq ha4.2.1] at hT
   exact ⟨p', _, rfl, ha4.2.2, hT⟩
  ·rintro u w6 hX ⟨p', len, w5, ⟨rfl, hT⟩, E4, E5, hB5', hz⟩
   have S4 : ∀ T : Nat → Prop, ZV T G3 w3 (Kx me G3 w3) w5 := fun T => ZA E4
   have hb9 := hJ3.2.same (S4 (MyT me)) (.inr (.inr rfl))
   refine ⟨Kx me G3 w3, (ZW (w' := w5)).sized hz, (coY L).same ((coY L).same M3 (S4 _)) (Q8 E5 hb9.2 JP), (SJ.stb _ _ _ _ _ hJ3.1 (S4 _)).wr E5 hwb, p', ⟨hB5', hb9.2⟩, ?_⟩
   have h0 := (S4 (fun t => t = 0)).tr0 rfl hT
   exact (Q8 (T := fun t => t = 0) E5 hb9.2 (by simp only [wrT]; omega)).tr0 rfl h0
theorem n_sswap2 (hs : Stb me J) (hk : SbOk L me q) (hsm : Jr q.tr) (hfil : XJ q.fl = true) (hE : SubE L me J ψ q G w) (hB0 : Bx (kpT me) G w b0 [pt q.wb]) (B1 : Bx (kpT me) G w b1 [cvF q]) (B2 : Bx (kpT me) G w b2 [fvF q]) :
  X5 (coY L) Tryz.prog me (SJ me L.c q J) (qSwap2 me ψ q) G w (.func (.func 156) #[] #[pt b0, pt b1, pt b2]) := by
 refine ⟨_, #[], _, rfl, zE, fun p G' w' s hS hM ha hJ => ?_⟩
 rw [Q6]
 have k0 := hB0.same hS (.inr rfl); have k1 := B1.same hS (.inr rfl); have k2 := B2.same hS (.inr rfl)
 refine swap2_w (Y := coY L) (r := qSwap2 me ψ q p s) w' hJ.2.1 (Qo hM).core.1 k0.1 fun w1 E1 => ?_
 have SI : ZV (MyI me) G' w' (Kx me G' w') w1 := ZA E1
 exact stlR_mk (J := SJ me L.c q J) (x := p) (val := fun s : St => s.root) (ψ := qFrom me ψ q) ((coY L).same hM (ZA E1)) load_co (n_sfrom hs hk hsm hfil ((hE.same hS).same SI) (k0.same SI (.inr rfl)) (k1.same SI (.inr rfl)) (k2.same SI (.inr rfl))) (SJ.stb _ _ _ _ _ hJ (ZA E1)) SJ.stb
theorem n_sswap (hs : Stb me J) (hk : SbOk L me q) (hsm : Jr q.tr) (hfil : XJ q.fl = true) (hE : SubE L me J ψ q G w) :
  X5 (coY L) Tryz.prog me (SJ me L.c q J) (qSwap me ψ q) G w (.func (.func 86) #[] #[pt q.b13, pt q.b8, pt q.b7, pt q.b12]) := by
 refine ⟨_, #[], _, rfl, zE, fun p G' w' s hS hM ha hJ => ?_⟩
 rw [Q6]
 have h2 := hE.same hS
 refine s1_w (Y := coY L) (r := qSwap me ψ q p s) w' h2.h13.1 fun w1 E1 => ?_
 refine swap_w (Y := coY L) (r := qSwap me ψ q p s) (cv := cvF q) (fv := fvF q) w1 rfl rfl rfl rfl fun w2 c3 c4 c5 E2 q3 B3 q4 B4 q5 B5 => ?_
 have S1 : ∀ T : Nat → Prop, ZV T G' w' (Kx me (Kx me G' w') w1) w2 := fun T => (ZA E1).trans (ZA E2)
 have k3 : Bx (kpT me) (Kx me (Kx me G' w') w1) w2 c3 [pt q.wb] := ⟨B3, Xd q3⟩
 refine Jp (J := SJ me L.c q J) (J' := SJ me L.c q J) (F := fPin me) (ψ := qSwap2 me ψ q) (x := p) ((coY L).same hM (S1 _)) ⟨_, #[], _, rfl, zE, fun x3 G3 w3 s3 S3 M3 ha3 hJ3 => ?_⟩ (n_sswap2 hs hk hsm hfil (h2.same (S1 _)) k3 ⟨B4, Xd q4⟩ ⟨B5, Xd q5⟩) (SJ.stb _ _ _ _ _ hJ (S1 _)) SJ.stb
 have hM3' : CoM L G3 w3 s3 := M3
 rw [cap1]
 refine spin_w w3 hJ3.2.1 hM3'.frz.core.1 (k3.same S3 (.inr rfl)).1 fun w4 E4 => ?_
 refine ((pin_co (me := me) ((coY L).same M3 (ZA (me := me) E4)) ha3).sub (fun i => wr_kx)).mono ?_
 rintro u w5 E5 ⟨G5, t1, t2, t3⟩
 exact ⟨G5, ZW.trans E4.size t1, t3, SJ.stb _ _ _ _ _ hJ3 ((ZA E4).trans t2)⟩
end
end
section
abbrev sb0 (sub : Int) (fl : Str) : SbP := ⟨sub, fl, .nilFunc, 0, 0, 0, 0, 0, [0, 1, 2, 3], QB [0, 1, 2, 3] (ofL [sub]), none, none, 0, 0⟩
theorem sl_len {M : Nat → Prop} {w : World} {a : Option Addr} {n c k : Nat} {rows : List (List Value)} (h : Sl M w (.slice a n c) k rows) : n = rows.length := by
 obtain ⟨a', c', e1, e2, e3, e4⟩ := h.ex
 simp only [Value.slice.injEq] at e1
 exact e1.2.1
theorem plan12 {sub : Int} (h : 1 ≤ sub ∧ sub ≤ 8) : ∀ i ∈ QB [0, 1, 2, 3] (ofL [sub]), 0 ≤ i ∧ i < 12 := by
 obtain ⟨h1, h2⟩ := h
 have : sub = 1 ∨ sub = 2 ∨ sub = 3 ∨ sub = 4 ∨ sub = 5 ∨ sub = 6 ∨ sub = 7 ∨ sub = 8 := by omega
 rcases this with rfl | rfl | rfl | rfl | rfl | rfl | rfl | rfl <;> decide
section
variable {L : Lay} {me : Nat} {α : Type} {J : α → Tg → World → Prop} {ψ : α × Xl → St → Out St} {G : Tg} {w : World} {nv : Value}
theorem subscribe_mk {x : α} {s : St} {sub : Int} {fl : Str} (hs : Stb me J) (hme : me ≤ 1000) (hfl : fl.length ≤ 100000) (hfil : XJ fl = true) (hw : (decide (Xk 47 fl = [43]) || decide (Xk 47 fl = [35])) = true) (hsm : Jr (sb0 sub fl).tr) (hsub : 1 ≤ sub ∧ sub ≤ 8)
  (hkd : L.k0 ≠ L.k1 ∧ L.k0 ≠ L.k2 ∧ L.k0 ≠ L.k3 ∧ L.k1 ≠ L.k2 ∧ L.k1 ≠ L.k3 ∧ L.k2 ≠ L.k3) (hcp : L.c ≠ L.pl) {rg : RgD} (hr : s.rgs[(sub - 1).toNat]? = some rg)
  (hn : X1 (coY L) Tryz.prog me (fun p : α × Xl => J p.1) (fun p => #[.agg p.2.enc.toArray]) ψ G w nv) (hM : (coY L).SM G w s) (hJ : J x G w) (ha : (qSub me ψ (sb0 sub fl) x s).al = true) :
  MkS (coY L) Tryz.prog me 35 #[pt L.c, .int .i64 (me : Nat), .int .i64 sub, Sv fl, nv] G w (qSub me ψ (sb0 sub fl) x s) := by
 obtain ⟨f, fi, cap, hnv, e, h⟩ := hn.call
 have hM' : CoM L G w s := hM
 obtain ⟨b, sb, _, _, _, hRg⟩ := ring_co hM' hsub hr
 rw [hnv]
 refine subscribe_w (Y := coY L) (b := b) (r := qSub me ψ (sb0 sub fl) x s) w (me : Nat) sub fl (by omega) hfil hRg (Qo hM).core.1 (by omega) fun w1 b7 b8 b12 b13 b37 sa sn sc pa pn pc hE n7 n8 n12 n13 q37 B37 q7 B7 q8 B8 q12 B12 q13 B13 hF hP => ?_
 rw [if_pos hw] at hF hP
 obtain rfl := sl_len hF
 obtain rfl := sl_len hP
 rw [List.length_map] at B12 B37 hF hP ⊢
 rw [← hnv] at B37
 have S1 : ∀ T : Nat → Prop, ZV T G w (Kw me G w b37) w1 := fun T => XU hE
 have hM1 := (coY L).same hM (S1 _)
 have hsl : ∀ i, ¬ MyI me (Kw me G w b37 i) → i < w1.heap.size → i < w.heap.size ∨ i = b37 := fun i hi _ => by
  by_cases h1 : i < w.heap.size
  ·exact .inl h1
  ·by_cases h2 : i = b37
   ·exact .inr h2
   ·exact absurd (.inr (QW (by omega) h2)) hi
 let q : SbP := ⟨sub, fl, nv, b37, b7, b8, b12, b13, [0, 1, 2, 3], QB [0, 1, 2, 3] (ofL [sub]), sa, pa, sc, pc⟩
 have hk : SbOk L me q := ⟨hme, (by decide : ∀ i ∈ ([0, 1, 2, 3] : List Int), 0 ≤ i ∧ i < 4), plan12 hsub, hfl, hkd, hcp⟩
 have hSE : SubE L me J ψ q (Kw me G w b37) w1 := ⟨⟨B13, QW q13 n13⟩, ⟨B7, QW q7 n7⟩, ⟨B8, QW q8 n8⟩, ⟨B12, QW q12 n12⟩, hF.sub hsl, hP.sub hsl, hn.same (S1 _)⟩
 have hJ1 : SJ me L.c q J x (Kw me G w b37) w1 := ⟨Jx.here hJ (S1 _) q37, B37, kw_b q37⟩
 exact locks_mk (Y := coY L) (lvf := lvf L) (okf := St.lockB) (stf := St.lock ((me : Int) + 1)) (o := (me : Int) + 1) (gv := pt L.gp) (J := SJ me L.c q J) (φ := qSwap me ψ q) SJ.stb q.qs (Kw me G w b37) w1 s x pa pc hM1 (grp_co ((Qo hM).same (S1 Cor) (by unfold Cor; omega)) hk.qs12 (by omega)) hSE.hqs (n_sswap hs hk hsm hfil hSE) hJ1 ha
end
end
end Go.Proofs.YtjklgohpminefaaGreatDoorC
