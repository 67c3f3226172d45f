/- Threads of operations: the walks. -/
import Derived.Test.YtjklgohpminefaaGreatDoorBunQ15
import Derived.Test.YtjklgohpminefaaGreatDoorBunQ14
import Derived.Test.YtjklgohpminefaaGreatDoorBunQ9
import Derived.Test.YtjklgohpminefaaGreatDoorBunQ3

set_option linter.unusedVariables false
set_option linter.unusedSimpArgs false
set_option maxRecDepth 1000000
namespace Go.Proofs.YtjklgohpminefaaGreatDoorC
open Go.RowKit
theorem pdo_sub (w : World) {S : Type} {Y : Sys S} {me : Nat} {G : Tg} {r : Out S} {pc : Option Addr} {t : Int} (o : OpD) {nv : Value} (hk : o.kind = 1) (h : ∀ w1, Ext Non w w1 → MkS Y Tryz.prog me 35 #[.pointer pc, .int .i64 t, .int .i64 o.sub, Sv o.text, nv] (Kx me G w) w1 r) : FnM Tryz.prog (Wr me G) 11 #[.pointer pc, .int .i64 t, .agg o.enc.toArray, nv] w fun u w' => Xh Y Tryz.prog me G w r u w' := by
 have hXn := Ext.refl Non w
 have hX := Ext.refl (Wr me G) w
 refine Zfm (args := [_, _, _, _]) Tryz.func11 rfl rfl ?_
 refine Zs (ZY rfl ?_); intro b6 w1 hb6 E1 B6
 have hq6 := Zq hX hb6
 replace hX := hX.tr E1
 replace hXn := hXn.tr E1
 refine Za ?_
 refine Zc (ZC (Zs (Zb (Zf f_42_0 rfl) (Zb (Zi p_3 rfl B6 rfl) (Zc (ZO (Zs (Zb (Xc rfl rfl) ?_))))))))
 refine Za ?_
 refine Zc ?_
 refine ZE rfl (fun hc0 => ?_) (fun hc0 => ?_)
 ·refine Zs (Zm (Zm ?_))
  refine Zb (Zf f_42_1 rfl) (Zb (Zi p_3 rfl B6 rfl) (Zb (Zf f_42_2 rfl) (Zb (Zi p_9 rfl B6 rfl) (Zm ?_))))
  have hXc := hXn
  refine ZI zE rfl (h w1 hXn) ?_; intro v20 w2 E2 hR
  replace hX := hX.wr ZW E2
  refine Za ?_
  refine Zc (ZB ?_)
  exact ⟨_, ZD (Zh rfl), hX, hR.pre ZW hXc.size⟩
 ·exact absurd hc0 (by simp [hk])
theorem pdo_pub (w : World) {S : Type} {Y : Sys S} {me : Nat} {G : Tg} {r : Out S} {pc : Option Addr} {t : Int} (o : OpD) {nv : Value} (hk : o.kind = 3) (h : ∀ w1, Ext Non w w1 → MkS Y Tryz.prog me 9 #[.pointer pc, .int .i64 t, .agg o.enc.toArray, nv] (Kx me G w) w1 r) : FnM Tryz.prog (Wr me G) 11 #[.pointer pc, .int .i64 t, .agg o.enc.toArray, nv] w fun u w' => Xh Y Tryz.prog me G w r u w' := by
 have hXn := Ext.refl Non w
 have hX := Ext.refl (Wr me G) w
 refine Zfm (args := [_, _, _, _]) Tryz.func11 rfl rfl ?_
 refine Zs (ZY rfl ?_); intro b6 w1 hb6 E1 B6
 have hq6 := Zq hX hb6
 replace hX := hX.tr E1
 replace hXn := hXn.tr E1
 refine Za ?_
 refine Zc (ZC (Zs (Zb (Zf f_42_0 rfl) (Zb (Zi p_3 rfl B6 rfl) (Zc (ZO (Zs (Zb (Xc rfl rfl) ?_))))))))
 refine Za ?_
 refine Zc ?_
 refine ZE rfl (fun hc0 => ?_) (fun hc0 => ?_)
 ·exact absurd hc0 (by simp [hk])
 ·refine Zs (Zb (Xc rfl rfl) (Za ?_))
  refine Zc ?_
  refine ZE rfl (fun hc1 => ?_) (fun hc1 => ?_)
  ·exact absurd hc1 (by simp [hk])
  ·refine Zs (Zb (Xc rfl rfl) (Za ?_))
   refine Zc ?_
   refine ZE rfl (fun hc2 => ?_) (fun hc2 => ?_)
   ·refine Zs (Zm (Zm ?_))
    refine Zb (ZR s_42 rfl rfl B6) (Zm ?_)
    have hXc := hXn
    refine ZI zE rfl (h w1 hXn) ?_; intro v37 w2 E2 hR
    replace hX := hX.wr ZW E2
    refine Za ?_
    refine Zc (ZB ?_)
    exact ⟨_, ZD (Zh rfl), hX, hR.pre ZW hXc.size⟩
   ·exact absurd hc2 (by simp [hk])
theorem pdo_poll (w : World) {S : Type} {Y : Sys S} {me : Nat} {G : Tg} {r : Out S} {pc : Option Addr} {t : Int} (o : OpD) {nv : Value} (hk : o.kind = 4) (h : ∀ w1, Ext Non w w1 → MkS Y Tryz.prog me 37 #[.pointer pc, .int .i64 t, .int .i64 o.sub, nv] (Kx me G w) w1 r) : FnM Tryz.prog (Wr me G) 11 #[.pointer pc, .int .i64 t, .agg o.enc.toArray, nv] w fun u w' => Xh Y Tryz.prog me G w r u w' := by
 have hXn := Ext.refl Non w
 have hX := Ext.refl (Wr me G) w
 refine Zfm (args := [_, _, _, _]) Tryz.func11 rfl rfl ?_
 refine Zs (ZY rfl ?_); intro b6 w1 hb6 E1 B6
 have hq6 := Zq hX hb6
 replace hX := hX.tr E1
 replace hXn := hXn.tr E1
 refine Za ?_
 refine Zc (ZC (Zs (Zb (Zf f_42_0 rfl) (Zb (Zi p_3 rfl B6 rfl) (Zc (ZO (Zs (Zb (Xc rfl rfl) ?_))))))))
 refine Za ?_
 refine Zc ?_
 refine ZE rfl (fun hc0 => ?_) (fun hc0 => ?_)
 ·exact absurd hc0 (by simp [hk])
 ·refine Zs (Zb (Xc rfl rfl) (Za ?_))
  refine Zc ?_
  refine ZE rfl (fun hc1 => ?_) (fun hc1 => ?_)
  ·exact absurd hc1 (by simp [hk])
  ·refine Zs (Zb (Xc rfl rfl) (Za ?_))
   refine Zc ?_
   refine ZE rfl (fun hc2 => ?_) (fun hc2 => ?_)
   ·exact absurd hc2 (by simp [hk])
   ·refine Zs (Zb (Xc rfl rfl) (Za ?_))
    refine Zc ?_
    refine ZE rfl (fun hc3 => ?_) (fun hc3 => ?_)
    ·refine Zs (Zm (Zm ?_))
     refine Zb (Zf f_42_1 rfl) (Zb (Zi p_3 rfl B6 rfl) (Zm ?_))
     have hXc := hXn
     refine ZI zE rfl (h w1 hXn) ?_; intro v45 w2 E2 hR
     replace hX := hX.wr ZW E2
     refine Za ?_
     refine Zc (ZB ?_)
     exact ⟨_, ZD (Zh rfl), hX, hR.pre ZW hXc.size⟩
    ·exact absurd hc3 (by simp [hk])
theorem pdo_drops (w : World) {S : Type} {Y : Sys S} {me : Nat} {G : Tg} {r : Out S} {pc : Option Addr} {t : Int} (o : OpD) {nv : Value} (hk : o.kind = 5) (h : ∀ w1, Ext Non w w1 → MkS Y Tryz.prog me 38 #[.pointer pc, .int .i64 t, .int .i64 o.sub, nv] (Kx me G w) w1 r) : FnM Tryz.prog (Wr me G) 11 #[.pointer pc, .int .i64 t, .agg o.enc.toArray, nv] w fun u w' => Xh Y Tryz.prog me G w r u w' := by
 have hXn := Ext.refl Non w
 have hX := Ext.refl (Wr me G) w
 refine Zfm (args := [_, _, _, _]) Tryz.func11 rfl rfl ?_
 refine Zs (ZY rfl ?_); intro b6 w1 hb6 E1 B6
 have hq6 := Zq hX hb6
 replace hX := hX.tr E1
 replace hXn := hXn.tr E1
 refine Za ?_
 refine Zc (ZC (Zs (Zb (Zf f_42_0 rfl) (Zb (Zi p_3 rfl B6 rfl) (Zc (ZO (Zs (Zb (Xc rfl rfl) ?_))))))))
 refine Za ?_
 refine Zc ?_
 refine ZE rfl (fun hc0 => ?_) (fun hc0 => ?_)
 ·exact absurd hc0 (by simp [hk])
 ·refine Zs (Zb (Xc rfl rfl) (Za ?_))
  refine Zc ?_
  refine ZE rfl (fun hc1 => ?_) (fun hc1 => ?_)
  ·exact absurd hc1 (by simp [hk])
  ·refine Zs (Zb (Xc rfl rfl) (Za ?_))
   refine Zc ?_
   refine ZE rfl (fun hc2 => ?_) (fun hc2 => ?_)
   ·exact absurd hc2 (by simp [hk])
   ·refine Zs (Zb (Xc rfl rfl) (Za ?_))
    refine Zc ?_
    refine ZE rfl (fun hc3 => ?_) (fun hc3 => ?_)
    ·exact absurd hc3 (by simp [hk])
    ·refine Zs (Zb (Xc rfl rfl) (Za ?_))
     refine Zc ?_
     refine ZE rfl (fun hc4 => ?_) (fun hc4 => ?_)
     ·refine Zs (Zm (Zm ?_))
      refine Zb (Zf f_42_1 rfl) (Zb (Zi p_3 rfl B6 rfl) (Zm ?_))
      have hXc := hXn
      refine ZI zE rfl (h w1 hXn) ?_; intro v53 w2 E2 hR
      replace hX := hX.wr ZW E2
      refine Za ?_
      refine Zc (ZB ?_)
      exact ⟨_, ZD (Zh rfl), hX, hR.pre ZW hXc.size⟩
     ·exact absurd hc4 (by simp [hk])
theorem pthr_nil (w : World) {pc lg sa : Option Addr} {t : Int} {sc : Nat} : Fn Tryz.prog 47 #[.pointer pc, .int .i64 t, .slice sa 0 sc, .pointer lg] w fun u w' => u = .nilFunc := by
 have hX := Ext.refl Non w
 refine Zfw (args := [_, _, _, _]) Tryz.func47 rfl rfl ?_
 refine Zs (ZP (by conv => lhs; whnf) rfl ?_); intro b4 w1 hb4 E1 B4
 have hq4 := Zq hX hb4
 replace hX := hX.tr E1
 refine ZP (by conv => lhs; whnf) rfl ?_; intro b5 w2 hb5 E2 B5
 have hn4_5 := Zn B4 hb5
 have hq5 := Zq hX hb5
 replace hX := hX.tr E2
 replace B4 := Zx B4 E2
 refine ZP (by conv => lhs; whnf) rfl ?_; intro b6 w3 hb6 E3 B6
 have hn4_6 := Zn B4 hb6
 have hn5_6 := Zn B5 hb6
 have hq6 := Zq hX hb6
 replace hX := hX.tr E3
 replace B4 := Zx B4 E3; replace B5 := Zx B5 E3
 refine ZP (by conv => lhs; whnf) rfl ?_; intro b7 w4 hb7 E4 B7
 have hn4_7 := Zn B4 hb7
 have hn5_7 := Zn B5 hb7
 have hn6_7 := Zn B6 hb7
 have hq7 := Zq hX hb7
 replace hX := hX.tr E4
 replace B4 := Zx B4 E4; replace B5 := Zx B5 E4; replace B6 := Zx B6 E4
 refine Za ?_
 refine Zc (ZC (Zs (Zb (Zi p_56 rfl B6 rfl) (Zb (Z1 sl_56 rfl) (Zb (Xc rfl rfl) (Zc ?_))))))
 refine ZE rfl (fun hc0 => ?_) (fun hc0 => ?_)
 ·refine Zs (Za ?_)
  refine Zc (ZB ?_)
  exact ⟨_, ZD (Zh rfl), hX, rfl⟩
 ·exact absurd hc0 (by decide)
theorem pthr_cons (w : World) {S : Type} {Y : Sys S} {me : Nat} {G : Tg} {r : Out S} {pc lg sa : Option Addr} {t : Int} {sn sc : Nat} (hsn : 1 ≤ sn) (h : ∀ (w1 : World) (b4 b5 b6 b7 b9 : Nat), Ext Non w w1 → b4 ≠ b9 → b5 ≠ b9 → b6 ≠ b9 → b7 ≠ b9 → w.heap.size ≤ b4 → Zj w1 b4 [.pointer pc] → w.heap.size ≤ b5 → Zj w1 b5 [.int .i64 t] → w.heap.size ≤ b6 → Zj w1 b6 [.slice sa sn sc] → w.heap.size ≤ b7 → Zj w1 b7 [.pointer lg] → w.heap.size ≤ b9 → Zj w1 b9 [.int .i64 0] → MkS Y Tryz.prog me 62 #[.func (.func 101) #[] #[(Zpt b7), (Zpt b5), (Zpt b6), (Zpt b9)], .func (.func 103) #[] #[(Zpt b4), (Zpt b5), (Zpt b6), (Zpt b7), (Zpt b9)]] (Kw me G w b9) w1 r) : FnM Tryz.prog (Wr me G) 47 #[.pointer pc, .int .i64 t, .slice sa sn sc, .pointer lg] w fun u w' => Xh Y Tryz.prog me G w r u w' := by
 have hXn := Ext.refl Non w
 have hX := Ext.refl (Wr me G) w
 refine Zfm (args := [_, _, _, _]) Tryz.func47 rfl rfl ?_
 refine Zs (ZP (by conv => lhs; whnf) rfl ?_); intro b4 w1 hb4 E1 B4
 have hq4 := Zq hX hb4
 replace hX := hX.tr E1
 replace hXn := hXn.tr E1
 refine ZP (by conv => lhs; whnf) rfl ?_; intro b5 w2 hb5 E2 B5
 have hn4_5 := Zn B4 hb5
 have hq5 := Zq hX hb5
 replace hX := hX.tr E2
 replace B4 := Zx B4 E2
 replace hXn := hXn.tr E2
 refine ZP (by conv => lhs; whnf) rfl ?_; intro b6 w3 hb6 E3 B6
 have hn4_6 := Zn B4 hb6
 have hn5_6 := Zn B5 hb6
 have hq6 := Zq hX hb6
 replace hX := hX.tr E3
 replace B4 := Zx B4 E3; replace B5 := Zx B5 E3
 replace hXn := hXn.tr E3
 refine ZP (by conv => lhs; whnf) rfl ?_; intro b7 w4 hb7 E4 B7
 have hn4_7 := Zn B4 hb7
 have hn5_7 := Zn B5 hb7
 have hn6_7 := Zn B6 hb7
 have hq7 := Zq hX hb7
 replace hX := hX.tr E4
 replace B4 := Zx B4 E4; replace B5 := Zx B5 E4; replace B6 := Zx B6 E4
 replace hXn := hXn.tr E4
 refine Za ?_
 refine Zc (ZC (Zs (Zb (Zi p_56 rfl B6 rfl) (Zb (Z1 sl_56 rfl) (Zb (Xc rfl rfl) (Zc ?_))))))
 refine ZE rfl (fun hc0 => ?_) (fun hc0 => ?_)
 ·exact absurd (of_decide_eq_true hc0) (by omega)
 ·refine ZF (Zs (ZT z_3 ?_)); intro b9 w5 hb9 E5 B9
  have hn4_9 := Zn B4 hb9
  have hn5_9 := Zn B5 hb9
  have hn6_9 := Zn B6 hb9
  have hn7_9 := Zn B7 hb9
  have hq9 := Zq hX hb9
  have hl9 := Zl hX hb9
  replace hX := hX.tr E5
  replace B4 := Zx B4 E5; replace B5 := Zx B5 E5; replace B6 := Zx B6 E5; replace B7 := Zx B7 E5
  replace hXn := hXn.tr E5
  have Bo := B9
  refine ZN (b := b9) p_3 rfl (by conv => lhs; whnf) rfl rfl B9 Zbl ?_; intro w6 E6 B9 hz6
  replace hX := hX.mine E6 hl9
  replace B4 := B4.ext E6 (fun h => by omega); replace B5 := B5.ext E6 (fun h => by omega); replace B6 := B6.ext E6 (fun h => by omega); replace B7 := B7.ext E6 (fun h => by omega)
  replace hXn := hXn.own E6 hq9
  refine Zc (Zs (Zb (ZL rfl) (Zb (ZL rfl) ?_)))
  have hXc := hXn
  refine ZI zE rfl (h w6 b4 b5 b6 b7 b9 hXn (by omega) (by omega) (by omega) (by omega) hq4 B4 hq5 B5 hq6 B6 hq7 B7 hq9 B9) ?_; intro v15 w7 E7 hR
  replace hX := hX.wr (QD (b := b9)) E7
  refine Za ?_
  refine Zc (ZB ?_)
  exact ⟨_, ZD (Zh rfl), hX, hR.pre (QD (b := b9)) hXc.size⟩
theorem thrB_w (w : World) {M : Nat → Prop} {Q : World → Prop} {b0 b1 b2 b3 : Nat} {lg : Option Addr} {t : Int} {o : OpD} (v : Int) {a : Addr} {n c : Nat} {ops : List OpD} {M2 : Nat → Prop} (hn : n = ops.length) (hL : Sl M2 w (.slice (some a) (n + 1) c) 5 ((o :: ops).map OpD.enc)) (M3 : M b3) (hB0 : Zj w b0 [.pointer lg]) (B1 : Zj w b1 [.int .i64 t]) (B2 : Zj w b2 [.slice (some a) (n + 1) c]) (h : ∀ w1, Ext Non w w1 → FnM Tryz.prog M 102 #[.pointer lg, .int .i64 t, .agg o.enc.toArray] w1 fun u w2 => u = .int .i64 v ∧ Zj w2 b3 [.int .i64 0] ∧ Q w2) : FnM Tryz.prog M 101 #[(Zpt b0), (Zpt b1), (Zpt b2), (Zpt b3)] w fun u w' => ∃ w1, Q w1 ∧ Ext (fun i => i = b3) w1 w' ∧ Zj w' b3 [.int .i64 v] ∧ w'.heap.size = w1.heap.size := by
 have hXn := Ext.refl Non w
 have hX := Ext.refl M w
 refine Zfm (args := [_, _, _, _]) Tryz.func101 rfl rfl ?_
 refine Z5 (fun j => j == 5 || j == 6) mixed ?_; intro w1 E1
 replace hX := hX.tr E1
 replace hB0 := Zx hB0 E1; replace B1 := Zx B1 E1; replace B2 := Zx B2 E1
 replace hXn := hXn.tr E1
 have hS := Ext.refl Non w1
 refine Zt 0 [5, 6] rfl hS (Zv QV rfl hB0 rfl) (Zt 1 [5, 6] rfl hS (Zv p_3 rfl B1 rfl) (Zt 2 [3, 4, 5, 6] rfl hS (Zv p_56 rfl B2 rfl) (Zt 3 [4, 5, 6] rfl hS (ZG fun A hA => ZH sl_56 rfl rfl (by omega)) (Zt 4 [5, 6] rfl hS (ZG fun A hA => XC s_42 rfl rfl (((hL.ext hXn (fun _ h => h.elim)).ext hA (fun _ h => h.elim)).all0 (show ((o :: ops).map OpD.enc)[0]? = some o.enc from rfl))) ?_))))
 replace hX := hX.tr hS
 replace hB0 := Zx hB0 hS; replace B1 := Zx B1 hS; replace B2 := Zx B2 hS
 replace hXn := hXn.tr hS
 refine Zo 5 rfl (ZK (ZI zE rfl (h w1 hXn) ?_)); intro v9 w2 E2 hR
 obtain ⟨rfl, B3, hQ⟩ := hR
 replace hX := hX.trans E2
 refine Zz ?_
 refine Zo 6 rfl (ZK (ZN (b := b3) p_3 rfl (by conv => lhs; whnf) rfl rfl B3 (by simp) ?_)); intro w3 E3 B3 hz3
 replace hX := hX.mine E3 (.inl M3)
 have hzz := hz3; have EE := E3
 refine Zz ?_
 refine ZZ (by kernel_rfl) ?_ _
 exact ⟨_, rfl, hX, ⟨_, hQ, EE, B3, hzz⟩⟩
theorem thrD_w (w : World) {S : Type} {Y : Sys S} {me : Nat} {G : Tg} {r : Out S} {b0 b1 b2 b3 b4 : Nat} {pc : Option Addr} {t : Int} {o : OpD} {a : Addr} {n c : Nat} {ops : List OpD} {M2 : Nat → Prop} (hn : n = ops.length) (hL : Sl M2 w (.slice (some a) (n + 1) c) 5 ((o :: ops).map OpD.enc)) (hB0 : Zj w b0 [.pointer pc]) (B1 : Zj w b1 [.int .i64 t]) (B2 : Zj w b2 [.slice (some a) (n + 1) c]) (h : ∀ w1, Ext Non w w1 → MkS Y Tryz.prog me 11 #[.pointer pc, .int .i64 t, .agg o.enc.toArray, .func (.func 104) #[] #[(Zpt b3), (Zpt b4), (Zpt b0), (Zpt b1), (Zpt b2)]] (Kx me G w) w1 r) : FnM Tryz.prog (Wr me G) 103 #[(Zpt b0), (Zpt b1), (Zpt b2), (Zpt b3), (Zpt b4)] w fun u w' => Xh Y Tryz.prog me G w r u w' := by
 have hXn := Ext.refl Non w
 have hX := Ext.refl (Wr me G) w
 refine Zfm (args := [_, _, _, _, _]) Tryz.func103 rfl rfl ?_
 refine Zs (Za ?_)
 refine Zc (ZC (Z5 (fun j => j == 6 || j == 7) mixed ?_)); intro w1 E1
 replace hX := hX.tr E1
 replace hB0 := Zx hB0 E1; replace B1 := Zx B1 E1; replace B2 := Zx B2 E1
 replace hXn := hXn.tr E1
 have hS := Ext.refl Non w1
 refine Zt 0 [6, 7] rfl hS (Zv Jw rfl hB0 rfl) (Zt 1 [6, 7] rfl hS (Zv p_3 rfl B1 rfl) (Zt 2 [3, 4, 6, 7] rfl hS (Zv p_56 rfl B2 rfl) (Zt 3 [4, 6, 7] rfl hS (ZG fun A hA => ZH sl_56 rfl rfl (by omega)) (Zt 4 [6, 7] rfl hS (ZG fun A hA => XC s_42 rfl rfl (((hL.ext hXn (fun _ h => h.elim)).ext hA (fun _ h => h.elim)).all0 (show ((o :: ops).map OpD.enc)[0]? = some o.enc from rfl))) ?_))))
 refine Zt 5 [6, 7] rfl hS (Zr (ZL rfl)) ?_
 replace hX := hX.tr hS
 replace hB0 := Zx hB0 hS; replace B1 := Zx B1 hS; replace B2 := Zx B2 hS
 replace hXn := hXn.tr hS
 refine Zo 6 rfl (ZK ?_)
 have hXc := hXn
 refine ZI zE rfl (h w1 hXn) ?_; intro v12 w2 E2 hR
 replace hX := hX.wr ZW E2
 refine Zz ?_
 refine Zo 7 rfl (ZK (Za ?_))
 refine Zz ?_
 refine ZZ (by kernel_rfl) ?_ _
 refine ZB ?_
 exact ⟨_, ZD (Zh rfl), hX, hR.pre ZW hXc.size⟩
theorem thrE_w (w : World) {S : Type} {Y : Sys S} {me : Nat} {G : Tg} {r : Out S} {b1 b2 b3 b4 b5 : Nat} {pc lg : Option Addr} {t cid : Int} {n c : Nat} {a : Addr} (hnc : n + 1 ≤ c) (x : Xl) (Mid : Tg → World → Prop) (B1 : Zj w b1 [.pointer lg]) (B2 : Zj w b2 [.int .i64 cid]) (B3 : Zj w b3 [.pointer pc]) (B4 : Zj w b4 [.int .i64 t]) (B5 : Zj w b5 [.slice (some a) (n + 1) c]) (h1 : ∀ w1, Ext Non w w1 → FnM Tryz.prog (Wr me G) 105 #[.pointer lg, .int .i64 cid, .agg x.enc.toArray] w1 fun _ w2 => ∃ G2, Tgs me G w G2 w2 ∧ Mid G2 w2 ∧ Zj w2 b1 [.pointer lg] ∧ Zj w2 b3 [.pointer pc] ∧ Zj w2 b4 [.int .i64 t] ∧ Zj w2 b5 [.slice (some a) (n + 1) c]) (h2 : ∀ G2 w2 w3, Tgs me G w G2 w2 → Mid G2 w2 → Ext Non w2 w3 → MkS Y Tryz.prog me 47 #[.pointer pc, .int .i64 t, .slice (if c = 1 then some a else (some a).map (·.add (1 * 5))) n (c - 1), .pointer lg] (Kx me G2 w2) w3 r) : FnM Tryz.prog (Wr me G) 104 #[.agg x.enc.toArray, (Zpt b1), (Zpt b2), (Zpt b3), (Zpt b4), (Zpt b5)] w fun u w' => Xh Y Tryz.prog me G w r u w' := by
 have hXn := Ext.refl Non w
 have hX := Ext.refl (Wr me G) w
 refine Zfm (args := [_, _, _, _, _, _]) Tryz.func104 rfl rfl ?_
 refine Zs (ZY rfl ?_); intro b6 w1 hb6 E1 B6
 have hn1_6 := Zn B1 hb6
 have hn2_6 := Zn B2 hb6
 have hn3_6 := Zn B3 hb6
 have hn4_6 := Zn B4 hb6
 have hn5_6 := Zn B5 hb6
 have hq6 := Zq hX hb6
 replace hX := hX.tr E1
 replace B1 := Zx B1 E1; replace B2 := Zx B2 E1; replace B3 := Zx B3 E1; replace B4 := Zx B4 E1; replace B5 := Zx B5 E1
 replace hXn := hXn.tr E1
 refine Za ?_
 refine Zc (Zs (Zb (Zi QV rfl B1 rfl) (Zb (Zi p_3 rfl B2 rfl) (Zb (ZR s_37 rfl rfl B6) (ZI zE rfl (h1 w1 hXn) ?_))))); intro v11 w2 E2 hR11
 obtain ⟨G2, ht2, hmid, B1, B3, B4, B5⟩ := hR11
 replace hX := hX.trans E2
 have B2 := B1; have B6 := B1
 have hX2 := hX
 obtain ⟨wm, hwm⟩ : ∃ x, x = w2 := ⟨_, rfl⟩
 rw [← hwm] at ht2 hmid hX2
 have hXn := Ext.refl Non w2
 refine Zc (ZC (Z5 (fun j => j == 5 || j == 6) mixed ?_)); intro w3 E3
 replace hX := hX.tr E3
 replace B1 := Zx B1 E3; replace B2 := Zx B2 E3; replace B3 := Zx B3 E3; replace B4 := Zx B4 E3; replace B5 := Zx B5 E3; replace B6 := Zx B6 E3
 replace hXn := hXn.tr E3
 have hS := Ext.refl Non w3
 refine Zt 0 [5, 6] rfl hS (Zv Jw rfl B3 rfl) (Zt 1 [5, 6] rfl hS (Zv p_3 rfl B4 rfl) (Zt 2 [3, 5, 6] rfl hS (Zv p_56 rfl B5 rfl) (Zt 3 [5, 6] rfl hS (ZG fun A hA => Xs sl_56 (l := 1) (h := n + 1) (m := c) rfl ⟨_, rfl⟩ rfl rfl (by simp) (by omega) (by omega) (by omega)) ?_)))
 refine Zt 4 [5, 6] rfl hS (Zv QV rfl B1 rfl) ?_
 replace hX := hX.tr hS
 replace B1 := Zx B1 hS; replace B2 := Zx B2 hS; replace B3 := Zx B3 hS; replace B4 := Zx B4 hS; replace B5 := Zx B5 hS; replace B6 := Zx B6 hS
 replace hXn := hXn.tr hS
 refine Zo 5 rfl (ZK ?_)
 have hXc := hXn
 refine ZI zE rfl (h2 G2 _ w3 ht2 hmid (by rw [hwm]; exact hXn)) ?_; intro v17 w4 E4 hR
 replace hX := hX.wr (ht2.trans hX2.size ZW) E4
 refine Zz ?_
 refine Zo 6 rfl (ZK (Za ?_))
 refine Zz ?_
 refine ZZ (by kernel_rfl) ?_ _
 refine ZB ?_
 exact ⟨_, ZD (Zh rfl), hX, hR.pre (ht2.trans hX2.size ZW) (Zle hX2.size (by rw [hwm]; exact hXc.size))⟩
theorem with_w (w : World) {S : Type} {Y : Sys S} {me : Nat} {G : Tg} {r : Out S} {f2 : FuncId} {fi2 cap2 : Array Value} {b78 rb : Nat} {t sub : Int} {dv : Value} (hdc : dv.cells = #[dv]) {ep pl gp rt : Nat} {q0 q1 q2 q3 : Option Addr} {rv : Value} (B78 : Zj w b78 [.pointer (some ⟨ep, 0, none⟩), .pointer (some ⟨pl, 0, none⟩), .pointer (some ⟨gp, 0, none⟩), .pointer (some ⟨rt, 0, none⟩), .pointer q0, .pointer q1, .pointer q2, .pointer q3, rv, .int .i64 0]) (ht : 0 ≤ t ∧ t ≤ 1000) (hRg : ∀ w1, Ext Non w w1 → Fn Tryz.prog 152 #[(Zpt b78), .int .i64 sub] w1 fun u _ => u = pt rb) (h : ∀ (w1 : World) (b5 b6 b8 b9 b11 b12 b13 b24 : Nat), Ext Non w w1 → b5 ≠ b13 → b6 ≠ b13 → b8 ≠ b13 → b9 ≠ b13 → b11 ≠ b13 → b12 ≠ b13 → b24 ≠ b13 → w.heap.size ≤ b5 → Zj w1 b5 [(Zpt b78)] → w.heap.size ≤ b6 → Zj w1 b6 [.int .i64 t] → w.heap.size ≤ b8 → Zj w1 b8 [dv] → w.heap.size ≤ b9 → Zj w1 b9 [.func (.func f2) fi2 cap2] → w.heap.size ≤ b11 → Zj w1 b11 [pt rb] → w.heap.size ≤ b12 → Zj w1 b12 [.slice (some ⟨b24, 0, none⟩) 1 1] → w.heap.size ≤ b13 → Zj w1 b13 (⟨0, 0, 0, ⟨[], [], false⟩⟩ : Xl).enc → w.heap.size ≤ b24 → Sl Non w1 (.slice (some ⟨b24, 0, none⟩) 1 1) 1 ([Xr sub].map eI) → MkS Y Tryz.prog me 32 #[.pointer (some ⟨gp, 0, none⟩), .slice (some ⟨b24, 0, none⟩) 1 1, .int .i64 (t + 1), .func (.func 181) #[] #[(Zpt b8), (Zpt b11), (Zpt b13), (Zpt b5), (Zpt b12), (Zpt b6), (Zpt b9)]] (Kw me G w b13) w1 r) : FnM Tryz.prog (Wr me G) 95 #[(Zpt b78), .int .i64 t, .int .i64 sub, dv, .func (.func f2) fi2 cap2] w fun u w' => Xh Y Tryz.prog me G w r u w' := by
 have hXn := Ext.refl Non w
 have hX := Ext.refl (Wr me G) w
 refine Zfm (args := [_, _, _, _, _]) Tryz.func95 rfl rfl ?_
 refine Zs (ZP (by conv => lhs; whnf) rfl ?_); intro b5 w1 hb5 E1 B5
 have hn78_5 := Zn B78 hb5
 have hq5 := Zq hX hb5
 replace hX := hX.tr E1
 replace B78 := Zx B78 E1
 replace hXn := hXn.tr E1
 refine ZP (by conv => lhs; whnf) rfl ?_; intro b6 w2 hb6 E2 B6
 have hn78_6 := Zn B78 hb6
 have hn5_6 := Zn B5 hb6
 have hq6 := Zq hX hb6
 replace hX := hX.tr E2
 replace B78 := Zx B78 E2; replace B5 := Zx B5 E2
 replace hXn := hXn.tr E2
 refine ZP (by conv => lhs; whnf) hdc ?_; intro b8 w3 hb8 E3 B8
 have hn78_8 := Zn B78 hb8
 have hn5_8 := Zn B5 hb8
 have hn6_8 := Zn B6 hb8
 have hq8 := Zq hX hb8
 replace hX := hX.tr E3
 replace B78 := Zx B78 E3; replace B5 := Zx B5 E3; replace B6 := Zx B6 E3
 replace hXn := hXn.tr E3
 refine ZP (by conv => lhs; whnf) rfl ?_; intro b9 w4 hb9 E4 B9
 have hn78_9 := Zn B78 hb9
 have hn5_9 := Zn B5 hb9
 have hn6_9 := Zn B6 hb9
 have hn8_9 := Zn B8 hb9
 have hq9 := Zq hX hb9
 replace hX := hX.tr E4
 replace B78 := Zx B78 E4; replace B5 := Zx B5 E4; replace B6 := Zx B6 E4; replace B8 := Zx B8 E4
 replace hXn := hXn.tr E4
 refine Za ?_
 refine Zc (Zs (Zb (Zi Jw rfl B5 rfl) (Zm ?_)))
 refine Zw zE rfl (hRg w4 hXn) ?_; intro v16 w5 E5 R5
 replace hX := hX.tr E5
 replace B78 := Zx B78 E5; replace B5 := Zx B5 E5; replace B6 := Zx B6 E5; replace B8 := Zx B8 E5; replace B9 := Zx B9 E5
 replace hXn := hXn.tr E5
 subst R5
 refine ZT z_120 ?_; intro b11 w6 hb11 E6 B11
 have hn78_11 := Zn B78 hb11
 have hn5_11 := Zn B5 hb11
 have hn6_11 := Zn B6 hb11
 have hn8_11 := Zn B8 hb11
 have hn9_11 := Zn B9 hb11
 have hq11 := Zq hX hb11
 have hl11 := Zl hX hb11
 replace hX := hX.tr E6
 replace B78 := Zx B78 E6; replace B5 := Zx B5 E6; replace B6 := Zx B6 E6; replace B8 := Zx B8 E6; replace B9 := Zx B9 E6
 replace hXn := hXn.tr E6
 have Bo := B11
 refine ZN (b := b11) p_120 rfl (by conv => lhs; whnf) rfl rfl B11 Zbl ?_; intro w7 E7 B11 hz7
 replace hX := hX.mine E7 hl11
 replace B78 := B78.ext E7 (fun h => by omega); replace B5 := B5.ext E7 (fun h => by omega); replace B6 := B6.ext E7 (fun h => by omega); replace B8 := B8.ext E7 (fun h => by omega); replace B9 := B9.ext E7 (fun h => by omega)
 replace hXn := hXn.own E7 hq11
 refine Zc (ZC (Zs (Zb (Zi p_120 rfl B11 rfl) (Zb (Z9 (by kernel_rfl) rfl rfl) (Zc (Xu rfl (ZF (ZC ?_))))))))
 refine ZJ (Zm ?_)
 refine Zw zE rfl (queue_ok w7 sub) ?_; intro v23 w8 E8 hR8
 replace hX := hX.tr E8
 replace B78 := Zx B78 E8; replace B5 := Zx B5 E8; replace B6 := Zx B6 E8; replace B8 := Zx B8 E8; replace B9 := Zx B9 E8; replace B11 := Zx B11 E8
 replace hXn := hXn.tr E8
 subst hR8
 refine Xz (r := eI (Xr sub)) Xe rfl rfl rfl rfl (by decide) ?_; intro v24 w9 b24 hb24 E9 hO24
 have hq24 := Zq hX hb24
 obtain ⟨c24, rfl, hc24⟩ := id hO24.val
 obtain rfl : c24 = 1 := by simp only [List.length_cons, List.length_nil] at hc24; omega
 replace hX := hX.tr E9
 replace B78 := Zx B78 E9; replace B5 := Zx B5 E9; replace B6 := Zx B6 E9; replace B8 := Zx B8 E9; replace B9 := Zx B9 E9; replace B11 := Zx B11 E9
 replace hXn := hXn.tr E9
 refine ZT z_27 ?_; intro b12 w10 hb12 E10 B12
 have hn78_12 := Zn B78 hb12
 have hn5_12 := Zn B5 hb12
 have hn6_12 := Zn B6 hb12
 have hn8_12 := Zn B8 hb12
 have hn9_12 := Zn B9 hb12
 have hn11_12 := Zn B11 hb12
 have hq12 := Zq hX hb12
 have hl12 := Zl hX hb12
 have hn24 : b24 < b12 := Zlt hO24.box.lt hb12
 replace hX := hX.tr E10
 replace B78 := Zx B78 E10; replace B5 := Zx B5 E10; replace B6 := Zx B6 E10; replace B8 := Zx B8 E10; replace B9 := Zx B9 E10; replace B11 := Zx B11 E10
 replace hXn := hXn.tr E10
 replace hO24 := hO24.ext E10 id
 have Bo := B12
 refine ZN (b := b12) XT rfl (by conv => lhs; whnf) rfl rfl B12 Zbl ?_; intro w11 E11 B12 hz11
 replace hX := hX.mine E11 hl12
 replace B78 := B78.ext E11 (fun h => by omega); replace B5 := B5.ext E11 (fun h => by omega); replace B6 := B6.ext E11 (fun h => by omega); replace B8 := B8.ext E11 (fun h => by omega); replace B9 := B9.ext E11 (fun h => by omega); replace B11 := B11.ext E11 (fun h => by omega)
 replace hXn := hXn.own E11 hq12
 replace hO24 := hO24.ext E11 (fun e => by omega)
 refine Zc (Zs (ZT z_37 ?_)); intro b13 w12 hb13 E12 B13
 have hn78_13 := Zn B78 hb13
 have hn5_13 := Zn B5 hb13
 have hn6_13 := Zn B6 hb13
 have hn8_13 := Zn B8 hb13
 have hn9_13 := Zn B9 hb13
 have hn11_13 := Zn B11 hb13
 have hn12_13 := Zn B12 hb13
 have hq13 := Zq hX hb13
 replace hX := hX.tr E12
 replace B78 := Zx B78 E12; replace B5 := Zx B5 E12; replace B6 := Zx B6 E12; replace B8 := Zx B8 E12; replace B9 := Zx B9 E12; replace B11 := Zx B11 E12; replace B12 := Zx B12 E12
 replace hXn := hXn.tr E12
 replace hO24 := hO24.ext E12 id
 refine Zc (ZC (Z5 (fun j => j == 9 || j == 10) mixed ?_)); intro w13 E13
 replace hX := hX.tr E13
 replace B78 := Zx B78 E13; replace B5 := Zx B5 E13; replace B6 := Zx B6 E13; replace B8 := Zx B8 E13; replace B9 := Zx B9 E13; replace B11 := Zx B11 E13; replace B12 := Zx B12 E13; replace B13 := Zx B13 E13
 replace hXn := hXn.tr E13
 replace hO24 := hO24.ext E13 id
 have hS := Ext.refl Non w13
 refine Zt 0 [1, 2, 3, 4, 9, 10] rfl hS (Zv Jw rfl B5 rfl) (Zt 1 [2, 3, 4, 9, 10] rfl hS (Zr (Zg rfl)) (Zt 2 [3, 4, 9, 10] rfl hS (Zr (Zf Qp rfl)) (Zt 3 [4, 9, 10] rfl hS (Zr (Zf f_106_2 rfl)) (Zt 4 [9, 10] rfl hS (Zv p_92 rfl B78 rfl) (Zt 5 [9, 10] rfl hS (Zv XT rfl B12 rfl) (Zt 6 [7, 9, 10] rfl hS (Zv p_3 rfl B6 rfl) (Zt 7 [9, 10] rfl hS (Zr (ZX rfl rfl (by omega))) (Zt 8 [9, 10] rfl hS (Zr (ZL rfl)) ?_))))))))
 replace hX := hX.tr hS
 replace B78 := Zx B78 hS; replace B5 := Zx B5 hS; replace B6 := Zx B6 hS; replace B8 := Zx B8 hS; replace B9 := Zx B9 hS; replace B11 := Zx B11 hS; replace B12 := Zx B12 hS; replace B13 := Zx B13 hS
 replace hXn := hXn.tr hS
 replace hO24 := hO24.ext hS id
 refine Zo 9 rfl (ZK ?_)
 have hXc := hXn
 refine ZI zE rfl (h w13 b5 b6 b8 b9 b11 b12 b13 b24 hXn (by omega) (by omega) (by omega) (by omega) (by omega) (by omega) (by omega) hq5 B5 hq6 B6 hq8 B8 hq9 B9 hq11 B11 hq12 B12 hq13 B13 hq24 (hO24.sl (M := Non) id)) ?_; intro v34 w14 E14 hR
 replace hX := hX.wr (QD (b := b13)) E14
 refine Zz ?_
 refine Zo 10 rfl (ZK (Za ?_))
 refine Zz ?_
 refine ZZ (by kernel_rfl) ?_ _
 refine ZB ?_
 exact ⟨_, ZD (Zh rfl), hX, hR.pre (QD (b := b13)) hXc.size⟩
theorem with1_w (w : World) {S : Type} {Y : Sys S} {me : Nat} {G : Tg} {r : Out S} {b0 b1 b2 b3 b4 b5 b6 : Nat} (h : ∀ w1, Ext Non w w1 → MkS Y Tryz.prog me 62 #[.func (.func 182) #[] #[(Zpt b0), (Zpt b1), (Zpt b2)], .func (.func 183) #[] #[(Zpt b3), (Zpt b4), (Zpt b5), (Zpt b2), (Zpt b6)]] (Kx me G w) w1 r) : FnM Tryz.prog (Wr me G) 181 #[(Zpt b0), (Zpt b1), (Zpt b2), (Zpt b3), (Zpt b4), (Zpt b5), (Zpt b6)] w fun u w' => Xh Y Tryz.prog me G w r u w' := by
 have hXn := Ext.refl Non w
 have hX := Ext.refl (Wr me G) w
 refine Zfm (args := [_, _, _, _, _, _, _]) Tryz.func181 rfl rfl ?_
 refine Zs (Za ?_)
 refine Zc (Zs (Zb (ZL rfl) (Zb (ZL rfl) ?_)))
 have hXc := hXn
 refine ZI zE rfl (h w hXn) ?_; intro v10 w1 E1 hR
 replace hX := hX.wr ZW E1
 refine Za ?_
 refine Zc (ZB ?_)
 exact ⟨_, ZD (Zh rfl), hX, hR.pre ZW hXc.size⟩
theorem withF_w (w : World) {M : Nat → Prop} {Q : World → Prop} {b0 b1 b2 : Nat} {x z : Xl} {rv : Value} {f2 : FuncId} {fi2 cap2 : Array Value} (e2 : Xa Tryz.prog f2 = true) (hr1 : rv.oneCell' = true) (hM : M b2) (hB0 : Zj w b0 [.func (.func f2) fi2 cap2]) (B1 : Zj w b1 [rv]) (h : FnM Tryz.prog M f2 (fi2 ++ #[rv] ++ cap2) w fun u w1 => u = .agg x.enc.toArray ∧ Zj w1 b2 z.enc ∧ Q w1) : FnM Tryz.prog M 182 #[(Zpt b0), (Zpt b1), (Zpt b2)] w fun u w' => ∃ w1, Q w1 ∧ Ext (fun i => i = b2) w1 w' ∧ Zj w' b2 x.enc ∧ w'.heap.size = w1.heap.size := by
 have hX := Ext.refl M w
 refine Zfm (args := [_, _, _]) Tryz.func182 rfl rfl ?_
 refine ZJ (Zb (Zi p_171 rfl hB0 rfl) (Zb (Zi p_120 rfl B1 rfl) (XW (args := [rv]) rfl e2 rfl h ?_))); intro v5 w1 E1 hR
 obtain ⟨rfl, B2, hQ⟩ := hR
 replace hX := E1
 refine ZS (b := b2) s_37 rfl rfl rfl (Xl.one x) B2 rfl ?_; intro w2 E2 B2 hz2
 replace hX := hX.mine E2 (.inl hM)
 have hzz := hz2; have EE := E2
 refine Zc ?_
 exact ⟨_, rfl, hX, ⟨_, hQ, EE, B2, hzz⟩⟩
theorem with2_w (w : World) {S : Type} {Y : Sys S} {me : Nat} {G : Tg} {r : Out S} {b0 b1 b2 b3 b4 b78 : Nat} {ov : Value} {t : Int} {ep pl gp rt : Nat} {q0 q1 q2 q3 : Option Addr} {rv : Value} (B78 : Zj w b78 [.pointer (some ⟨ep, 0, none⟩), .pointer (some ⟨pl, 0, none⟩), .pointer (some ⟨gp, 0, none⟩), .pointer (some ⟨rt, 0, none⟩), .pointer q0, .pointer q1, .pointer q2, .pointer q3, rv, .int .i64 0]) (hov : ov.oneCell' = true) (ht : 0 ≤ t ∧ t ≤ 1000) (hB0 : Zj w b0 [(Zpt b78)]) (B1 : Zj w b1 [ov]) (B2 : Zj w b2 [.int .i64 t]) (h : ∀ w1, Ext Non w w1 → MkS Y Tryz.prog me 179 #[.pointer (some ⟨gp, 0, none⟩), ov, .int .i64 (t + 1), .func (.func 184) #[] #[(Zpt b3), (Zpt b4)]] (Kx me G w) w1 r) : FnM Tryz.prog (Wr me G) 183 #[(Zpt b0), (Zpt b1), (Zpt b2), (Zpt b3), (Zpt b4)] w fun u w' => Xh Y Tryz.prog me G w r u w' := by
 have hXn := Ext.refl Non w
 have hX := Ext.refl (Wr me G) w
 refine Zfm (args := [_, _, _, _, _]) Tryz.func183 rfl rfl ?_
 refine Zs (Za ?_)
 refine Zc (ZC (Z5 (fun j => j == 9 || j == 10) mixed ?_)); intro w1 E1
 replace hX := hX.tr E1
 replace hB0 := Zx hB0 E1; replace B1 := Zx B1 E1; replace B2 := Zx B2 E1; replace B78 := Zx B78 E1
 replace hXn := hXn.tr E1
 have hS := Ext.refl Non w1
 refine Zt 0 [1, 2, 3, 4, 9, 10] rfl hS (Zv Jw rfl hB0 rfl) (Zt 1 [2, 3, 4, 9, 10] rfl hS (Zr (Zg rfl)) (Zt 2 [3, 4, 9, 10] rfl hS (Zr (Zf Qp rfl)) (Zt 3 [4, 9, 10] rfl hS (Zr (Zf f_106_2 rfl)) (Zt 4 [9, 10] rfl hS (Zv p_92 rfl B78 rfl) (Zt 5 [9, 10] rfl hS (Zv XT rfl B1 rfl) (Zt 6 [7, 9, 10] rfl hS (Zv p_3 rfl B2 rfl) (Zt 7 [9, 10] rfl hS (Zr (ZX rfl rfl (by omega))) (Zt 8 [9, 10] rfl hS (Zr (ZL rfl)) ?_))))))))
 replace hX := hX.tr hS
 replace hB0 := Zx hB0 hS; replace B1 := Zx B1 hS; replace B2 := Zx B2 hS; replace B78 := Zx B78 hS
 replace hXn := hXn.tr hS
 refine Zo 9 rfl (ZK ?_)
 have hXc := hXn
 refine ZI zE rfl (h w1 hXn) ?_; intro v15 w2 E2 hR
 replace hX := hX.wr ZW E2
 refine Zz ?_
 refine Zo 10 rfl (ZK (Za ?_))
 refine Zz ?_
 refine ZZ (by kernel_rfl) ?_ _
 refine ZB ?_
 exact ⟨_, ZD (Zh rfl), hX, hR.pre ZW hXc.size⟩
theorem with21_w (w : World) {S : Type} {Y : Sys S} {me : Nat} {G : Tg} {r : Out S} {b0 b1 : Nat} {x : Xl} {nv : Value} (hn : nv.oneCell' = true) (hB0 : Zj w b0 x.enc) (B1 : Zj w b1 [nv]) (h : ∀ w1, Ext Non w w1 → MkS Y Tryz.prog me 64 #[.agg x.enc.toArray, nv] (Kx me G w) w1 r) : FnM Tryz.prog (Wr me G) 184 #[(Zpt b0), (Zpt b1)] w fun u w' => Xh Y Tryz.prog me G w r u w' := by
 have hXn := Ext.refl Non w
 have hX := Ext.refl (Wr me G) w
 refine Zfm (args := [_, _]) Tryz.func184 rfl rfl ?_
 refine Zs (Za ?_)
 refine Zc (Zs (Zb (ZR s_37 rfl rfl hB0) (Zb (Zi p_49 rfl B1 rfl) ?_)))
 have hXc := hXn
 refine ZI zE rfl (h w hXn) ?_; intro v5 w1 E1 hR
 replace hX := hX.wr ZW E1
 refine Za ?_
 refine Zc (ZB ?_)
 exact ⟨_, ZD (Zh rfl), hX, hR.pre ZW hXc.size⟩
theorem poll_w (w : World) {S : Type} {Y : Sys S} {me : Nat} {G : Tg} {r : Out S} {pc : Option Addr} {t sub : Int} {nv : Value} (h : ∀ w1, Ext Non w w1 → MkS Y Tryz.prog me 95 #[.pointer pc, .int .i64 t, .int .i64 sub, .func (.func 96) #[] #[], nv] (Kx me G w) w1 r) : FnM Tryz.prog (Wr me G) 37 #[.pointer pc, .int .i64 t, .int .i64 sub, nv] w fun u w' => Xh Y Tryz.prog me G w r u w' := by
 have hXn := Ext.refl Non w
 have hX := Ext.refl (Wr me G) w
 refine Zfm (args := [_, _, _, _]) Tryz.func37 rfl rfl ?_
 refine Zs (Za ?_)
 refine Zc (Zs (Zm (Zm (Zm (Zm ?_)))))
 have hXc := hXn
 refine ZI zE rfl (h w hXn) ?_; intro v13 w1 E1 hR
 replace hX := hX.wr ZW E1
 refine Za ?_
 refine Zc (ZB ?_)
 exact ⟨_, ZD (Zh rfl), hX, hR.pre ZW hXc.size⟩
theorem drops_w (w : World) {S : Type} {Y : Sys S} {me : Nat} {G : Tg} {r : Out S} {pc : Option Addr} {t sub : Int} {nv : Value} (h : ∀ w1, Ext Non w w1 → MkS Y Tryz.prog me 95 #[.pointer pc, .int .i64 t, .int .i64 sub, .func (.func 98) #[] #[], nv] (Kx me G w) w1 r) : FnM Tryz.prog (Wr me G) 38 #[.pointer pc, .int .i64 t, .int .i64 sub, nv] w fun u w' => Xh Y Tryz.prog me G w r u w' := by
 have hXn := Ext.refl Non w
 have hX := Ext.refl (Wr me G) w
 refine Zfm (args := [_, _, _, _]) Tryz.func38 rfl rfl ?_
 refine Zs (Za ?_)
 refine Zc (Zs (Zm (Zm (Zm (Zm ?_)))))
 have hXc := hXn
 refine ZI zE rfl (h w hXn) ?_; intro v13 w1 E1 hR
 replace hX := hX.wr ZW E1
 refine Za ?_
 refine Zc (ZB ?_)
 exact ⟨_, ZD (Zh rfl), hX, hR.pre ZW hXc.size⟩
section
section plans
variable {α : Type} (me : Nat) (ψ : α × Xl → St → Out St)
def pWith1 (F : α → St → Fo (α × Xl) St) (q : Int) (x : α) (s : St) : Out St := ⟨true, s, doP (Xp F (fun p => Qx (St.unlock ((me : Int) + 1)) [q] (ψ p)) x)⟩
def pWith (F : α → St → Fo (α × Xl) St) (q : Int) (x : α) : St → Out St := locksP St.lockB (St.lock ((me : Int) + 1)) [q] (pWith1 me ψ F q x)
def fPoll (sub : Int) (x : α) (s : St) : Fo (α × Xl) St := ⟨s.getA sub, (x, s.getR sub), s.get sub⟩
def fDrops (sub : Int) (x : α) (s : St) : Fo (α × Xl) St := ⟨s.dropA sub, (x, s.dropR sub), s⟩
end plans
def WJ {α : Type} (me b : Nat) (J : α → Tg → World → Prop) (p : α × Xl) (G : Tg) (w : World) : Prop := Jx me J b p.1 G w ∧ Bx (wrT me) G w b p.2.enc
theorem WJ.stb {α : Type} {me b : Nat} {J : α → Tg → World → Prop} : Stb me (WJ me b J) := fun p G w G' w' h hS => ⟨h.1.same hS, h.2.same hS (.inr (.inr rfl))⟩
abbrev zAns : Xl := ⟨0, 0, 0, ⟨[], [], false⟩⟩
def WJ0 {α : Type} (me b : Nat) (J : α → Tg → World → Prop) (x : α) (G : Tg) (w : World) : Prop := Jx me J b x G w ∧ Bx (wrT me) G w b zAns.enc
theorem WJ0.stb {α : Type} {me b : Nat} {J : α → Tg → World → Prop} : Stb me (WJ0 me b J) := fun p G w G' w' h hS => ⟨h.1.same hS, h.2.same hS (.inr (.inr rfl))⟩
structure DoM {α : Type} (L : Lay) (me rb : Nat) (F : α → St → Fo (α × Xl) St) (f : FuncId) : Prop where
 ent : Xa Tryz.prog f = true
 fx : ∀ x s, (F x s).x.1 = x
 call : ∀ (G : Tg) (w : World) (s : St) (x : α), CoM L G w s → (F x s).al = true → FnM Tryz.prog (Wr me G) f #[pt rb] w fun u w1 => u = .agg (F x s).x.2.enc.toArray ∧ ∃ G1, Tgs me G w G1 w1 ∧ ZV (MyT me) G w G1 w1 ∧ CoM L G1 w1 (F x s).st
section
variable {L : Lay} {me : Nat} {α : Type} {J : α → Tg → World → Prop} {ψ : α × Xl → St → Out St} {nv : Value} {G : Tg} {w : World} {s : St}
theorem rgs_set {L : Lay} {G G' : Tg} {w w' : World} {s : St} (hM : CoM L G w s) {i b sb : Nat} {q : RgD} (hb : L.rb[i]? = some b) (hsb : L.rs[i]? = some sb) (hq : s.rgs[i]? = some q) (q' : RgD) (hE : Ext (fun j => j = b ∨ j = sb) w w') (ht : ∀ j, j < w.heap.size → G' j = G j) (hR' : RgM b sb q' G' w') : RgsM L.rb L.rs (s.rgs.set i q') G' w' := by
 have hlt := (List.getElem?_eq_some_iff.1 hq).1
 refine ⟨by rw [List.length_set]; exact hM.rg.len1, by rw [List.length_set]; exact hM.rg.len2, hM.rg.nd, fun j b2 sb2 q2 g1 g2 g3 => ?_⟩
 by_cases e : i = j
 ·subst e
  rw [List.getElem?_set_self hlt] at g3; cases g3
  rw [hb] at g1; cases g1; rw [hsb] at g2; cases g2
  exact hR'
 ·rw [List.getElem?_set_ne e] at g3
  have R2 := hM.rg.ex j b2 sb2 q2 g1 g2 g3
  have hnd := hM.rg.nd
  rw [List.nodup_append] at hnd
  obtain ⟨n1, n2, n3⟩ := hnd
  have c1 : b2 ≠ b := fun h => e (Ya n1 hb (by rw [← h]; exact g1))
  have c2 : sb2 ≠ sb := fun h => e (Ya n2 hsb (by rw [← h]; exact g2))
  have c3 : b2 ≠ sb := n3 b2 (List.mem_of_getElem? g1) sb (List.mem_of_getElem? hsb)
  have c4 : b ≠ sb2 := n3 b (List.mem_of_getElem? hb) sb2 (List.mem_of_getElem? g2)
  exact ⟨⟨R2.box.1.ext hE (fun h => by rcases h with h | h; exact c1 h; exact c3 h), (ht _ R2.box.lt).trans R2.box.2⟩, R2.sl.ext hE (fun h => by rcases h with h | h; exact c4 h.symm; exact c2 h), (ht _ R2.sl.box.lt).trans R2.tag, R2.ne, R2.pos⟩
theorem JB {sub : Int} (h : St.subA sub = true) : 1 ≤ sub ∧ sub ≤ 8 := by
 unfold St.subA at h; rw [Bool.and_eq_true, decide_eq_true_eq, decide_eq_true_eq] at h; exact h
theorem get_co (hM : CoM L G w s) {sub : Int} {rb : Nat} (hrb : L.rb[(sub - 1).toNat]? = some rb) (ha : s.getA sub = true) : FnM Tryz.prog (Wr me G) 96 #[pt rb] w fun u w1 => u = .agg (s.getR sub).enc.toArray ∧ ∃ G1, Tgs me G w G1 w1 ∧ ZV (MyT me) G w G1 w1 ∧ CoM L G1 w1 (s.get sub) := by
 unfold St.getA at ha
 rw [Bool.and_eq_true] at ha
 have h1 := JB ha.1
 cases hq : s.rgs[(sub - 1).toNat]? with
 | none => rw [hq] at ha; cases ha.2
 | some q =>
  rw [hq] at ha
  have hqa : q.getA = true := ha.2
  unfold RgD.getA at hqa
  rw [Bool.and_eq_true, decide_eq_true_eq, decide_eq_true_eq] at hqa
  obtain ⟨b, sb, hb, hsb, hR, _⟩ := ring_co hM h1 hq
  rw [hrb] at hb; cases hb
  have hmod : q.gets.toNat % q.slots.length < q.slots.length := Nat.mod_lt _ (by have := hR.pos; omega)
  obtain ⟨⟨x, k⟩, hk⟩ : ∃ y, q.slots[q.gets.toNat % q.slots.length]? = some y := ⟨_, List.getElem?_eq_getElem hmod⟩
  have hgB : q.getB = decide (k = 2 * q.gets + 1) := by unfold RgD.getB RgD.slot; rw [hk]
  have hgM : q.getM = x := by unfold RgD.getM RgD.slot; rw [hk]
  have hgr : s.getR sub = q.getR := by unfold St.getR; rw [hq]
  have hgs : s.get sub = { s with rgs := s.rgs.set (sub - 1).toNat q.get } := by unfold St.get; rw [hq]
  rw [hgr, hgs]
  have hbl := hR.box.lt; have hsl := hR.sl.box.lt
  by_cases hk2 : k = 2 * q.gets + 1
  ·have e1 : q.getB = true := by rw [hgB]; exact decide_eq_true hk2
   have er : q.getR = ⟨0, 0, 0, x⟩ := by unfold RgD.getR; rw [if_pos e1, hgM]
   rw [er]
   refine (lift (me := me) (t := 6) (u := 0) (R' := fun u G1 w1 => u = .agg (⟨0, 0, 0, x⟩ : Xl).enc.toArray ∧ CoM L G1 w1 { s with rgs := s.rgs.set (sub - 1).toNat q.get }) (pollF_ok w (M := fun i => i = rb ∨ i = sb) (Q := fun w1 => Zj w1 rb [.slice (some ⟨sb, 0, none⟩) q.slots.length q.slots.length, .int .i64 q.puts, .int .i64 (q.gets + 1), .int .i64 q.drops] ∧ Ow w1 (.slice (some ⟨sb, 0, none⟩) q.slots.length q.slots.length) sb 4 ((q.slots.set (q.gets.toNat % q.slots.length) (⟨[], [], false⟩, 2 * (q.gets + (q.slots.length : Nat)))).map Qk) []) (fun i hi => by rcases hi with rfl | rfl; exact hbl; exact hsl) (fun A B hE h => ⟨h.1.ext hE (by omega), h.2.ext hE (by omega)⟩) fun w1 hE => rget_ok w1 (hR.box.1.ext hE id) hR.pos hR.ne rfl (hR.sl.ext hE id) hqa hk hk2) (fun j hj => by rcases hj with rfl | rfl; exact hR.box.2; exact hR.tag) (by decide) (by decide) ?_).mono ?_
   ·rintro u w1 hE ⟨rfl, hB, hO⟩ S1
    refine ⟨rfl, hM.rgT S1 (rgs_set hM hrb hsb hq _ hE (fun i hi => Xf hi) ?_)⟩
    unfold RgD.get; rw [if_pos e1]
    exact ⟨⟨by simp only [List.length_set]; exact hB, (Xf hR.box.lt).trans hR.box.2⟩, by simp only [List.length_set]; exact hO, (Xf hR.sl.box.lt).trans hR.tag, hR.ne, by simp only [List.length_set]; exact hR.pos⟩
   ·rintro u w1 hE ⟨G1, t1, t2, rfl, t3⟩; exact ⟨rfl, G1, t1, t2, t3⟩
  ·have e1 : q.getB = false := by rw [hgB]; exact decide_eq_false hk2
   have er : q.getR = ⟨7, 0, 0, ⟨[], [], false⟩⟩ := by unfold RgD.getR; rw [if_neg (by rw [e1]; simp)]
   have eg : q.get = q := by unfold RgD.get; rw [if_neg (by rw [e1]; simp)]
   have es : s.rgs.set (sub - 1).toNat q.get = s.rgs := by
    rw [eg]
    apply List.ext_getElem?; intro j
    by_cases e : (sub - 1).toNat = j
    ·subst e; rw [List.getElem?_set_self (List.getElem?_eq_some_iff.1 hq).1, hq]
    ·rw [List.getElem?_set_ne e]
   rw [er, es]
   refine FnM.sub (M := Non) (FnM.mono (pollF_no w fun w1 hE => rget_no w1 (hR.box.1.ext hE id) hR.pos hR.ne rfl (hR.sl.ext hE id) hqa hk hk2) ?_) (fun _ h => h.elim)
   rintro u w1 hE rfl
   exact ⟨rfl, Kx me G w, ZW, ZA hE, hM.same (ZA hE)⟩
theorem drop_co (hM : CoM L G w s) {sub : Int} {rb : Nat} (hrb : L.rb[(sub - 1).toNat]? = some rb) (ha : s.dropA sub = true) : FnM Tryz.prog (Wr me G) 98 #[pt rb] w fun u w1 => u = .agg (s.dropR sub).enc.toArray ∧ ∃ G1, Tgs me G w G1 w1 ∧ ZV (MyT me) G w G1 w1 ∧ CoM L G1 w1 s := by
 unfold St.dropA at ha
 rw [Bool.and_eq_true] at ha
 have h1 := JB ha.1
 obtain ⟨q, hq⟩ := Option.isSome_iff_exists.1 ha.2
 obtain ⟨b, sb, hb, hsb, hR, _⟩ := ring_co hM h1 hq
 rw [hrb] at hb; cases hb
 have hdr : s.dropR sub = ⟨0, q.drops, 0, ⟨[], [], false⟩⟩ := by unfold St.dropR; rw [hq]
 rw [hdr]
 refine FnM.sub (M := Non) (FnM.mono (dropsF_ok w hR.box.1) ?_) (fun _ h => h.elim)
 rintro u w1 hE rfl
 exact ⟨rfl, Kx me G w, ZW, ZA hE, hM.same (ZA hE)⟩
theorem n_hand {b0 b1 : Nat} (hs : Stb me J) (hn : X1 (coY L) Tryz.prog me (fun p : α × Xl => J p.1) (fun p => #[.agg p.2.enc.toArray]) ψ G w nv) (B1 : Bx (kpT me) G w b1 [nv]) :
  X5 (coY L) Tryz.prog me (WJ me b0 J) ψ G w (.func (.func 184) #[] #[pt b0, pt b1]) := by
 refine ⟨_, #[], _, rfl, zE, fun p G' w' s hS hM ha hJ => ?_⟩
 rw [Q6]
 refine with21_w (Y := coY L) (r := ψ p s) w' (JN hn) hJ.2.1 (B1.same hS (.inr rfl)).1 fun w1 hE => ?_
 obtain ⟨f, fi, cap, e1, e2, h⟩ := hn
 subst e1
 refine hand_ok w1 e2 p.2 fun w2 E2 => ?_
 have SS := (hS.trans (ZA (T := MyI me) (me := me) (G := G') hE)).trans (ZA (me := me) E2)
 exact h p _ w2 s SS ((coY L).same hM ((ZA hE).trans (ZA E2))) ha (hs _ _ _ _ _ (hJ.1.get hs) ((ZA hE).trans (ZA E2)))
theorem with_mk {F : α → St → Fo (α × Xl) St} {f : FuncId} {x : α} {sub : Int} {rb : Nat} {q : RgD} (hs : Stb me J) (hme : me ≤ 1000) (hsub : 1 ≤ sub ∧ sub ≤ 8) (hr : s.rgs[(sub - 1).toNat]? = some q) (hrb : L.rb[(sub - 1).toNat]? = some rb) (hdo : DoM L me rb F f)
  (hn : X1 (coY L) Tryz.prog me (fun p : α × Xl => J p.1) (fun p => #[.agg p.2.enc.toArray]) ψ G w nv) (hM : (coY L).SM G w s) (hJ : J x G w) :
  MkS (coY L) Tryz.prog me 95 #[pt L.c, .int .i64 (me : Nat), .int .i64 sub, .func (.func f) #[] #[], nv] G w (pWith me ψ F (Xr sub) x s) := by
 obtain ⟨fn, fi, cap, hnv, e, h⟩ := hn.call
 have hM' : CoM L G w s := hM
 obtain ⟨b, sb, hb, _, _, hRg⟩ := ring_co hM' hsub hr
 rw [hrb] at hb; cases hb
 have hqi : ∀ i ∈ [Xr sub], 0 ≤ i ∧ i < 12 := fun i hi => by
  rw [List.mem_singleton] at hi; subst hi
  unfold Xr; rw [if_neg (by omega)]; omega
 rw [hnv]
 refine with_w (Y := coY L) (r := pWith me ψ F (Xr sub) x s) w rfl (Qo hM).core.1 (by omega) hRg fun w1 b5 b6 b8 b9 b11 b12 b13 b24 hE n5 n6 n8 n9 n11 n12 n24 q5 B5 q6 B6 q8 B8 q9 B9 q11 B11 q12 B12 q13 B13 q24 hSl => ?_
 rw [← hnv] at B9
 have S1 : ∀ T : Nat → Prop, ZV T G w (Kw me G w b13) w1 := fun T => XU hE
 have k5 : Bx (kpT me) (Kw me G w b13) w1 b5 [pt L.c] := ⟨B5, QW q5 n5⟩
 have k6 : Bx (kpT me) (Kw me G w b13) w1 b6 [.int .i64 (me : Nat)] := ⟨B6, QW q6 n6⟩
 have k8 : Bx (kpT me) (Kw me G w b13) w1 b8 [.func (.func f) #[] #[]] := ⟨B8, QW q8 n8⟩
 have k9 : Bx (kpT me) (Kw me G w b13) w1 b9 [nv] := ⟨B9, QW q9 n9⟩
 have k11 : Bx (kpT me) (Kw me G w b13) w1 b11 [pt rb] := ⟨B11, QW q11 n11⟩
 have k12 : Bx (kpT me) (Kw me G w b13) w1 b12 [.slice (some ⟨b24, 0, none⟩) 1 1] := ⟨B12, QW q12 n12⟩
 have kSl : Sl (fun i => ¬ MyI me (Kw me G w b13 i)) w1 (.slice (some ⟨b24, 0, none⟩) [Xr sub].length 1) 1 ([Xr sub].map eI) := by
  obtain ⟨⟨a, c, e1, e2, e3, e4⟩, e5⟩ := hSl
  refine ⟨⟨a, c, e1, e2, e3, ?_⟩, e5⟩
  rcases e4 with e4 | ⟨bb, o, ha, hb2, hn2, hc⟩
  ·exact .inl e4
  ·refine .inr ⟨bb, o, ha, hb2, ?_, hc⟩
   simp only [Value.slice.injEq] at e1
   obtain ⟨h1, _, _⟩ := e1
   rw [ha] at h1
   have : bb = b24 := by
    simp only [Option.some.injEq, Addr.mk.injEq] at h1; exact h1.1.symm
   subst this
   exact fun hn => hn (.inr (QW q24 n24))
 have hJ0 : WJ0 me b13 J x (Kw me G w b13) w1 := ⟨Jx.here hJ (S1 _) q13, B13, kw_b q13⟩
 have hn1 := hn.same (S1 (MyI me))
 refine locks_mk (Y := coY L) (lvf := lvf L) (okf := St.lockB) (stf := St.lock ((me : Int) + 1)) (o := (me : Int) + 1) (gv := pt L.gp) (J := WJ0 me b13 J) (φ := pWith1 me ψ F (Xr sub)) WJ0.stb [Xr sub] (Kw me G w b13) w1 s x (some ⟨b24, 0, none⟩) 1 ((coY L).same hM (S1 _)) (grp_co ((Qo hM).same (S1 Cor) (by unfold Cor; omega)) hqi (by omega)) kSl
  ⟨_, #[], _, rfl, zE, fun x' G' w' s' hS hM2 ha hJ2 => ?_⟩ hJ0 rfl
 rw [Q6]
 refine with1_w (Y := coY L) (r := pWith1 me ψ F (Xr sub) x' s') w' fun w2 E2 => ?_
 refine Jp (J := WJ0 me b13 J) (J' := WJ me b13 J) (F := F) (ψ := fun p => Qx (St.unlock ((me : Int) + 1)) [Xr sub] (ψ p)) (x := x') ((coY L).same hM2 (ZA E2)) ⟨_, #[], _, rfl, zE, fun x3 G3 w3 s3 S3 M3 ha3 hJ3 => ?_⟩ ⟨_, #[], _, rfl, zE, fun p G3 w3 s3 S3 M3 ha3 hJ3 => ?_⟩ (WJ0.stb _ _ _ _ _ hJ2 (ZA E2)) WJ0.stb
 ·have hM3' : CoM L G3 w3 s3 := M3
  have SS : ZV (MyI me) (Kw me G w b13) w1 G3 w3 := (hS.trans (ZA E2)).trans S3
  rw [cap1]
  refine (withF_w (M := Wr me G3) (x := (F x3 s3).x.2) (z := zAns) (fi2 := #[]) (cap2 := #[]) (Q := fun w5 => ∃ G5, Tgs me G3 w3 G5 w5 ∧ ZV (MyT me) G3 w3 G5 w5 ∧ CoM L G5 w5 (F x3 s3).st) w3 hdo.ent rfl (.inr hJ3.2.2) (k8.same SS (.inr rfl)).1 (k11.same SS (.inr rfl)).1 ?_).mono ?_
  ·have := hdo.call G3 w3 s3 x3 hM3' ha3
   have e9 : (#[] ++ #[pt rb] ++ #[] : Array Value) = #[pt rb] := by simp
   rw [e9]
   refine this.mono ?_
   rintro u w5 E5 ⟨rfl, G5, t1, t2, t3⟩
   exact ⟨rfl, (hJ3.2.same t2 (.inr (.inr rfl))).1, G5, t1, t2, t3⟩
  ·rintro u w6 hX ⟨w5, ⟨G5, t1, t2, t3⟩, E5, hB5', hz⟩
   have hb := hJ3.2.same t2 (.inr (.inr rfl))
   refine ⟨G5, t1.sized hz, t3.same (Q8 E5 hb.2 JP), ?_, hB5', hb.2⟩
   have hjx := (hJ3.1.same t2).write E5
   rw [hdo.fx x3 s3]; exact hjx
 ·have hM3' : CoM L G3 w3 s3 := M3
  have SS : ZV (MyI me) (Kw me G w b13) w1 G3 w3 := (hS.trans (ZA E2)).trans S3
  rw [Q6]
  refine with2_w (Y := coY L) (r := Qx (St.unlock ((me : Int) + 1)) [Xr sub] (ψ p) s3) w3 hM3'.frz.core.1 rfl (by omega) (k5.same SS (.inr rfl)).1 (k12.same SS (.inr rfl)).1 (k6.same SS (.inr rfl)).1 fun w4 E4 => ?_
  have S4 : ZV (MyI me) (Kw me G w b13) w1 (Kx me G3 w3) w4 := SS.trans (ZA E4)
  exact free_mk (stf := St.unlock ((me : Int) + 1)) (lvf := lvf L) (J := WJ me b13 J) (φ := ψ) WJ.stb [Xr sub] _ w4 s3 p (some ⟨b24, 0, none⟩) 1 ((coY L).same M3 (ZA E4)) (freeM_co ((Qo M3).same (ZA (T := Cor) (me := me) E4) (by unfold Cor; omega)) hqi (by omega)) (S4.sl kSl) (n_hand hs (hn1.same S4) (k9.same S4 (.inr rfl))) (WJ.stb _ _ _ _ _ hJ3 (ZA E4)) ha3
theorem poll_mk {x : α} {sub : Int} {a : Bool} (hs : Stb me J) (hme : me ≤ 1000) (ha : s.dropA sub = true) (hn : X1 (coY L) Tryz.prog me (fun p : α × Xl => J p.1) (fun p => #[.agg p.2.enc.toArray]) ψ G w nv) (hM : (coY L).SM G w s) (hJ : J x G w) :
  MkS (coY L) Tryz.prog me 37 #[pt L.c, .int .i64 (me : Nat), .int .i64 sub, nv] G w ⟨a, (pWith me ψ (fPoll sub) (Xr sub) x s).st, (pWith me ψ (fPoll sub) (Xr sub) x s).pl⟩ := by
 have ha' := ha
 unfold St.dropA at ha'
 rw [Bool.and_eq_true] at ha'
 obtain ⟨q, hq⟩ := Option.isSome_iff_exists.1 ha'.2
 obtain ⟨b, _, hb, _⟩ := ring_co (show CoM L G w s from hM) (JB ha'.1) hq
 refine poll_w (Y := coY L) w fun w1 hE => ?_
 exact with_mk (f := 96) hs hme (JB ha'.1) hq hb ⟨zE, fun _ _ => rfl, fun G w s x hM ha => get_co hM hb ha⟩ (hn.same (ZA hE)) ((coY L).same hM (ZA hE)) (hs _ _ _ _ _ hJ (ZA hE))
theorem drops_mk {x : α} {sub : Int} {a : Bool} (hs : Stb me J) (hme : me ≤ 1000) (ha : s.dropA sub = true) (hn : X1 (coY L) Tryz.prog me (fun p : α × Xl => J p.1) (fun p => #[.agg p.2.enc.toArray]) ψ G w nv) (hM : (coY L).SM G w s) (hJ : J x G w) :
  MkS (coY L) Tryz.prog me 38 #[pt L.c, .int .i64 (me : Nat), .int .i64 sub, nv] G w ⟨a, (pWith me ψ (fDrops sub) (Xr sub) x s).st, (pWith me ψ (fDrops sub) (Xr sub) x s).pl⟩ := by
 have ha' := ha
 unfold St.dropA at ha'
 rw [Bool.and_eq_true] at ha'
 obtain ⟨q, hq⟩ := Option.isSome_iff_exists.1 ha'.2
 obtain ⟨b, _, hb, _⟩ := ring_co (show CoM L G w s from hM) (JB ha'.1) hq
 refine drops_w (Y := coY L) w fun w1 hE => ?_
 exact with_mk (f := 98) hs hme (JB ha'.1) hq hb ⟨zE, fun _ _ => rfl, fun G w s x hM ha => drop_co hM hb ha⟩ (hn.same (ZA hE)) ((coY L).same hM (ZA hE)) (hs _ _ _ _ _ hJ (ZA hE))
end
end
section
def subA (o : OpD) (s : St) : Bool := decide (o.text.length ≤ 100000) && (XJ o.text && ((decide (Xk 47 o.text = [43]) || decide (Xk 47 o.text = [35])) && (decide (1 ≤ o.sub) && (decide (o.sub ≤ 8) && (s.rgs[(o.sub - 1).toNat]?).isSome))))
def pubA (o : OpD) : Bool := !o.keep && (decide (o.text.length ≤ 1000000) && (decide (o.payload.length ≤ 1000000) && decide (kErr o.text o.payload = 0)))
section plans
variable {α : Type} (me : Nat)
def pDo (ψ : α × Xl → St → Out St) (o : OpD) (x : α) (s : St) : Out St :=
 if o.kind = 1 then ⟨subA o s && (qSub me ψ (sb0 o.sub o.text) x s).al, (qSub me ψ (sb0 o.sub o.text) x s).st, (qSub me ψ (sb0 o.sub o.text) x s).pl⟩
 else if o.kind = 3 then ⟨pubA o, (pPub me ψ o x s).st, (pPub me ψ o x s).pl⟩
 else if o.kind = 4 then ⟨s.dropA o.sub, (pWith me ψ (fPoll o.sub) (Xr o.sub) x s).st, (pWith me ψ (fPoll o.sub) (Xr o.sub) x s).pl⟩
 else if o.kind = 5 then ⟨s.dropA o.sub, (pWith me ψ (fDrops o.sub) (Xr o.sub) x s).st, (pWith me ψ (fDrops o.sub) (Xr o.sub) x s).pl⟩ else ⟨false, s, .done⟩
def Jj (o : OpD) (x : Unit) (s : St) : Fo Nat St := ⟨s.beginA, s.log.length + 1, s.begin (me : Nat) o⟩
def QM : List OpD → St → Out St
 | [] => fun s => ⟨true, s, .done⟩
 | o :: ops => fun s => ⟨true, s, doP (Xp (Jj me o) (pDo me (fun (p : Nat × Xl) (s : St) => (⟨s.endA p.1 && (QM ops (s.end_ p.1 p.2)).al, (QM ops (s.end_ p.1 p.2)).st, (QM ops (s.end_ p.1 p.2)).pl⟩ : Out St)) o) ())⟩
def Qw (ops : List OpD) (p : Nat × Xl) (s : St) : Out St := ⟨s.endA p.1 && (QM me ops (s.end_ p.1 p.2)).al, (QM me ops (s.end_ p.1 p.2)).st, (QM me ops (s.end_ p.1 p.2)).pl⟩
theorem pThr_cons (o : OpD) (ops : List OpD) (s : St) : QM me (o :: ops) s = ⟨true, s, doP (Xp (Jj me o) (pDo me (Qw me ops) o) ())⟩ := rfl
end plans
theorem small_one {ls : List Str} {sub : Int} (h : 1 ≤ sub ∧ sub ≤ 8) : Jr (Tr.bare.put ls sub) := by
 refine ⟨1, wgt ls, Tr.Ok.put sub ls (Tr.Ok.bare (n := 0)) (Nat.le_refl _), by omega, fun p s hp => ?_⟩
 have this : s = sub := by
  rcases (at_put sub ls (Tr.Ok.bare (n := 0) (m := wgt ls)) p s).1 hp with ⟨_, h2⟩ | h2
  ·exact h2
  ·exact absurd h2 (bare_at _ _)
 subst this
 simp only [List.mem_cons, List.not_mem_nil, or_false]; omega
theorem sl_tail5 {M : Nat → Prop} {w : World} {a : Addr} {c : Nat} {o : OpD} {l : List OpD} (hL : Sl M w (.slice (some a) (l.length + 1) c) 5 ((o :: l).map OpD.enc)) : Sl M w (.slice (if c = 1 then some a else (some a).map (·.add (1 * 5))) l.length (c - 1)) 5 (l.map OpD.enc) ∧ l.length + 1 ≤ c := by
 obtain ⟨a', c', e1, e2, e3, e4⟩ := hL.ex
 simp only [Value.slice.injEq, List.length_map, List.length_cons] at e1 e2
 obtain ⟨_, _, rfl⟩ := e1
 have := hL.cut (l := 1) (h := l.length + 1) (m := c) (by omega) (Nat.le_refl _) (by omega) (Nat.le_refl _)
 simp only [Nat.add_sub_cancel, List.map_cons, List.drop_succ_cons, List.drop_zero] at this
 rw [List.take_of_length_le (by simp)] at this
 exact ⟨this, by omega⟩
def IJ (me b : Nat) (cid : Nat) (G : Tg) (w : World) : Prop := Bx (wrT me) G w b [.int .i64 (cid : Nat)]
theorem IJ.stb {me b : Nat} : Stb me (IJ me b) := fun x G w G' w' h hS => Bx.same h hS (.inr (.inr rfl))
structure LayOk (L : Lay) : Prop where
 kd : L.k0 ≠ L.k1 ∧ L.k0 ≠ L.k2 ∧ L.k0 ≠ L.k3 ∧ L.k1 ≠ L.k2 ∧ L.k1 ≠ L.k3 ∧ L.k2 ≠ L.k3
 cp : L.c ≠ L.pl
section
variable {L : Lay} {me : Nat}
theorem pdo_mk {α : Type} {J : α → Tg → World → Prop} {ψ : α × Xl → St → Out St} {G : Tg} {w : World} {nv : Value} {x : α} {s : St} {o : OpD} (hs : Stb me J) (hme : me ≤ 1000) (hL : LayOk L)
  (hn : X1 (coY L) Tryz.prog me (fun p : α × Xl => J p.1) (fun p => #[.agg p.2.enc.toArray]) ψ G w nv) (hM : (coY L).SM G w s) (hJ : J x G w) (ha : (pDo me ψ o x s).al = true) :
  MkS (coY L) Tryz.prog me 11 #[pt L.c, .int .i64 (me : Nat), .agg o.enc.toArray, nv] G w (pDo me ψ o x s) := by
 unfold pDo at ha ⊢
 by_cases h1 : o.kind = 1
 ·rw [if_pos h1] at ha ⊢
  have ha' : (subA o s && (qSub me ψ (sb0 o.sub o.text) x s).al) = true := ha
  unfold subA at ha'
  simp only [Bool.and_eq_true, decide_eq_true_eq] at ha'
  obtain ⟨⟨a1, a2, a3, a4, a5, a6⟩, a7⟩ := ha'
  obtain ⟨rg, hr⟩ := Option.isSome_iff_exists.1 a6
  refine pdo_sub (Y := coY L) w o h1 fun w1 hE => ?_
  have := subscribe_mk (G := Kx me G w) (w := w1) (x := x) (s := s) (sub := o.sub) (fl := o.text) hs hme a1 a2 a3 (small_one ⟨a4, a5⟩) ⟨a4, a5⟩ hL.kd hL.cp hr (hn.same (ZA hE)) ((coY L).same hM (ZA hE)) (hs _ _ _ _ _ hJ (ZA hE)) a7
  exact this
 ·rw [if_neg h1] at ha ⊢
  by_cases h3 : o.kind = 3
  ·rw [if_pos h3] at ha ⊢
   have ha' : pubA o = true := ha
   unfold pubA at ha'
   simp only [Bool.and_eq_true, decide_eq_true_eq, Bool.not_eq_true'] at ha'
   obtain ⟨a1, a2, a3, a4⟩ := ha'
   refine pdo_pub (Y := coY L) w o h3 fun w1 hE => ?_
   exact publish_mk (G := Kx me G w) (w := w1) (x := x) (s := s) hs hme a1 a2 a3 a4 (hn.same (ZA hE)) ((coY L).same hM (ZA hE)) (hs _ _ _ _ _ hJ (ZA hE))
  ·rw [if_neg h3] at ha ⊢
   by_cases h4 : o.kind = 4
   ·rw [if_pos h4] at ha ⊢
    refine pdo_poll (Y := coY L) w o h4 fun w1 hE => ?_
    exact poll_mk (G := Kx me G w) (w := w1) (x := x) (s := s) hs hme ha (hn.same (ZA hE)) ((coY L).same hM (ZA hE)) (hs _ _ _ _ _ hJ (ZA hE))
   ·rw [if_neg h4] at ha ⊢
    by_cases h5 : o.kind = 5
    ·rw [if_pos h5] at ha ⊢
     refine pdo_drops (Y := coY L) w o h5 fun w1 hE => ?_
     exact drops_mk (G := Kx me G w) (w := w1) (x := x) (s := s) hs hme ha (hn.same (ZA hE)) ((coY L).same hM (ZA hE)) (hs _ _ _ _ _ hJ (ZA hE))
    ·rw [if_neg h5] at ha; cases ha
abbrev ThrOk (L : Lay) (me : Nat) (ops : List OpD) : Prop := ∀ (G : Tg) (w : World) (s : St) (a : Option Addr) (c : Nat), CoM L G w s → Sl (fun i => ¬ MyI me (G i)) w (.slice a ops.length c) 5 (ops.map OpD.enc) → (QM me ops s).al = true →
 MkS (coY L) Tryz.prog me 47 #[pt L.c, .int .i64 (me : Nat), .slice a ops.length c, pt L.lg] G w (QM me ops s)
theorem n_end {ops : List OpD} {o : OpD} (ih : ThrOk L me ops) {b4 b5 b6 b7 b9 : Nat} {a : Addr} {c : Nat} {G : Tg} {w : World} (h4 : Bx (kpT me) G w b4 [pt L.c]) (h5 : Bx (kpT me) G w b5 [.int .i64 (me : Nat)]) (h6 : Bx (kpT me) G w b6 [.slice (some a) (ops.length + 1) c]) (h7 : Bx (kpT me) G w b7 [pt L.lg]) (hO : Sl (fun i => ¬ MyI me (G i)) w (.slice (some a) (ops.length + 1) c) 5 ((o :: ops).map OpD.enc)) :
  X1 (coY L) Tryz.prog me (fun p : Nat × Xl => IJ me b9 p.1) (fun p => #[.agg p.2.enc.toArray]) (Qw me ops) G w (.func (.func 104) #[] #[pt b7, pt b9, pt b4, pt b5, pt b6]) := by
 refine ⟨_, #[], _, rfl, zE, fun p G' w' s hS hM ha hJ => ?_⟩
 have hM' : CoM L G' w' s := hM
 have ha' : (s.endA p.1 && (QM me ops (s.end_ p.1 p.2)).al) = true := ha
 rw [Bool.and_eq_true] at ha'
 have k4 := h4.same hS (.inr rfl); have k5 := h5.same hS (.inr rfl); have k6 := h6.same hS (.inr rfl); have k7 := h7.same hS (.inr rfl)
 have kO := hS.sl hO
 have key := thrE_w (Y := coY L) (me := me) (G := G') (r := Qw me ops p s) w' (sl_tail5 kO).2 p.2 (fun G2 w2 => ZV (MyI me) G' w' G2 w2 ∧ CoM L G2 w2 (s.end_ p.1 p.2)) k7.1 hJ.1 k4.1 k5.1 k6.1 (fun w1 hE => ?_) (fun G2 w2 w3 ht hm hE => ?_)
 ·unfold MkS; simpa using key
 ·refine ((end_co (me := me) (cid := p.1) (x := p.2) (hM'.same (ZA (me := me) hE)) ha'.1).sub (fun i => wr_kx)).mono ?_
  rintro u w2 E2 ⟨G2, t1, t2, t3⟩
  have hS2 : ZV (MyI me) G' w' G2 w2 := (ZA hE).trans t2.myI
  exact ⟨G2, ZW.trans hE.size t1, ⟨hS2, t3⟩, (k7.same hS2 (.inr rfl)).1, (k4.same hS2 (.inr rfl)).1, (k5.same hS2 (.inr rfl)).1, (k6.same hS2 (.inr rfl)).1⟩
 ·have S3 : ZV (MyI me) G' w' (Kx me G2 w2) w3 := hm.1.trans (ZA hE)
  exact ih (Kx me G2 w2) w3 (s.end_ p.1 p.2) _ _ (hm.2.same (ZA hE)) (S3.sl (sl_tail5 kO).1) ha'.2
theorem thread_mk (hme : me ≤ 1000) (hL : LayOk L) : ∀ ops : List OpD, ThrOk L me ops
 | [] => fun G w s a c hM hO ha => by
  have := pthr_nil w (pc := some ⟨L.c, 0, none⟩) (lg := some ⟨L.lg, 0, none⟩) (sa := a) (t := (me : Nat)) (sc := c)
  refine FnM.sub (M := Non) (FnM.mono this ?_) (fun _ h => h.elim)
  rintro u w1 hE' rfl
  exact ⟨Kx me G w, ZW, hM.same (ZA hE'), rfl⟩
 | o :: ops => fun G w s a c hM hO ha => by
  have ih := thread_mk hme hL ops
  obtain ⟨b, oo, rfl⟩ := hO.base (by simp)
  rw [pThr_cons]
  refine pthr_cons (Y := coY L) w (by simp) fun w1 b4 b5 b6 b7 b9 hE n4 n5 n6 n7 q4 B4 q5 B5 q6 B6 q7 B7 q9 B9 => ?_
  have S1 : ∀ T : Nat → Prop, ZV T G w (Kw me G w b9) w1 := fun T => XU hE
  have k4 : Bx (kpT me) (Kw me G w b9) w1 b4 [pt L.c] := ⟨B4, QW q4 n4⟩
  have k5 : Bx (kpT me) (Kw me G w b9) w1 b5 [.int .i64 (me : Nat)] := ⟨B5, QW q5 n5⟩
  have k6 : Bx (kpT me) (Kw me G w b9) w1 b6 [.slice (some ⟨b, oo, none⟩) (ops.length + 1) c] := ⟨B6, QW q6 n6⟩
  have k7 : Bx (kpT me) (Kw me G w b9) w1 b7 [pt L.lg] := ⟨B7, QW q7 n7⟩
  have kO : Sl (fun i => ¬ MyI me (Kw me G w b9 i)) w1 (.slice (some ⟨b, oo, none⟩) (ops.length + 1) c) 5 ((o :: ops).map OpD.enc) := (S1 _).sl hO
  refine Jp (J := fun (_ : Unit) G w => Bx (wrT me) G w b9 [.int .i64 0]) (J' := IJ me b9) (F := Jj me o) (ψ := pDo me (Qw me ops) o) (x := ()) (hM.same (S1 _)) ⟨_, #[], _, rfl, zE, fun x3 G3 w3 s3 S3 M3 ha3 hJ3 => ?_⟩ ⟨_, #[], _, rfl, zE, fun cid G3 w3 s3 S3 M3 ha3 hJ3 => ?_⟩ ⟨B9, kw_b q9⟩ (fun x G w G' w' h hS => h.same hS (.inr (.inr rfl)))
  ·have hM3' : CoM L G3 w3 s3 := M3
   rw [cap1]
   refine (thrB_w (M := Wr me G3) (o := o) (ops := ops) (Q := fun w5 => ∃ G5, Tgs me G3 w3 G5 w5 ∧ ZV (MyT me) G3 w3 G5 w5 ∧ CoM L G5 w5 (s3.begin (me : Nat) o)) w3 ((s3.log.length + 1 : Nat) : Int) rfl (S3.sl kO) (.inr hJ3.2) (k7.same S3 (.inr rfl)).1 (k5.same S3 (.inr rfl)).1 (k6.same S3 (.inr rfl)).1 fun w4 E4 => ?_).mono ?_
   ·have S4 : ZV (MyT me) G3 w3 (Kx me G3 w3) w4 := ZA E4
    refine ((begin_co (me := me) (t := (me : Nat)) (x := o) (hM3'.same (ZA (me := me) E4)) ha3).sub (fun i => wr_kx)).mono ?_
    rintro u w5 E5 ⟨rfl, G5, t1, t2, t3⟩
    exact ⟨rfl, (hJ3.same (S4.trans t2) (.inr (.inr rfl))).1, G5, ZW.trans E4.size t1, S4.trans t2, t3⟩
   ·rintro u w6 hX ⟨w5, ⟨G5, t1, t2, t3⟩, E5, hB5', hz⟩
    have hb := hJ3.same t2 (.inr (.inr rfl))
    exact ⟨G5, t1.sized hz, t3.same (Q8 E5 hb.2 JP), hB5', hb.2⟩
  ·rw [Q6]
   have kO3 := S3.sl kO
   refine thrD_w (Y := coY L) (o := o) (ops := ops) (r := pDo me (Qw me ops) o cid s3) w3 rfl kO3 (k4.same S3 (.inr rfl)).1 (k5.same S3 (.inr rfl)).1 (k6.same S3 (.inr rfl)).1 fun w4 E4 => ?_
   have SI : ZV (MyI me) (Kw me G w b9) w1 (Kx me G3 w3) w4 := S3.trans (ZA E4)
   exact pdo_mk (J := IJ me b9) IJ.stb hme hL (n_end ih (k4.same SI (.inr rfl)) (k5.same SI (.inr rfl)) (k6.same SI (.inr rfl)) (k7.same SI (.inr rfl)) (SI.sl kO)) ((coY L).same M3 (ZA E4)) (IJ.stb _ _ _ _ _ hJ3 (ZA E4)) ha3
end
end
section
section
variable {P : Program} {σ : Env} {w : World} {dst : Option Nat} {ty : TypeId} {pos : String} {af : Array Edge} {g : Option (Nat × Bool)}
theorem J8 {t u : TypeId} {x y : Operand} {k : IntKind} {a b : Int} (hx : ev σ x = .int k a) (hy : ev σ y = .int k b) : Rn P σ w ⟨dst, .call ⟨.builtin .min, #[x, y], #[t, u]⟩, ty, pos, af, g⟩ (.int k (if b < a then b else a)) := by
 show (execOp (ev σ) _).run P w = _
 by_cases h : b < a <;> simp [execOp, resolve, invoke, builtin, hx, hy, Builtin.min_, Builtin.min2, h]
end
theorem OwO.one2 {w : World} {v : Value} {o : Option Nat} {k : Nat} {rows : List (List Value)} (h : OwO w v o k rows) : v.oneCell' = true ∧ v.cells = #[v] := by obtain ⟨a, c, rfl⟩ := h.len; exact ⟨rfl, rfl⟩
theorem rep_snoc {α : Type} (i : Nat) (x : α) : List.replicate i x ++ [x] = List.replicate (i + 1) x := by rw [List.replicate_succ']
theorem hnew_ok (w : World)  : Fn Tryz.prog 46 #[] w fun u w' => ∃ b, u = pt b ∧ w.heap.size ≤ b ∧ Zj w' b [XV, .int .i64 0, .map none] := by
 have hX := Ext.refl Non w
 refine Zfw (args := []) Tryz.func46 rfl rfl ?_
 refine Zs (Za ?_)
 refine Zc (Zs (Zb (Z2 b_197 rfl rfl (cs := _) rfl) (ZY rfl ?_))); intro b2 w1 hb2 E1 B2
 have hq2 := Zq hX hb2
 replace hX := hX.tr E1
 refine Za ?_
 refine Zc (ZB ?_)
 exact ⟨_, ZD (Zh rfl), hX, ⟨b2, rfl, hq2, B2⟩⟩
theorem plnew_ok (w : World)  : Fn Tryz.prog 40 #[.int .i64 65536] w fun u w' => ∃ b, u = pt b ∧ w.heap.size ≤ b ∧ Zj w' b [XV, XV, .int .i64 65536] := by
 have hX := Ext.refl Non w
 refine Zfw (args := [_]) Tryz.func40 rfl rfl ?_
 refine Zs (Za ?_)
 refine Zc (Zs (Zm ?_))
 refine Zb (Rn.cast (J8 rfl rfl) (show _ = Value.int .i64 65536 by first | rfl | (rw [if_neg (by omega)]) | (rw [if_pos (by omega)]))) ?_
 refine Zb (Rn.cast (rn_max2 rfl rfl) (show _ = Value.int .i64 65536 by first | rfl | (rw [if_neg (by omega)]) | (rw [if_pos (by omega)]))) ?_
 refine Zb (Z2 b_178 rfl rfl (cs := _) rfl) (ZY rfl ?_); intro b7 w1 hb7 E1 B7
 have hq7 := Zq hX hb7
 replace hX := hX.tr E1
 refine Za ?_
 refine Zc (ZB ?_)
 exact ⟨_, ZD (Zh rfl), hX, ⟨b7, rfl, hq7, B7⟩⟩
theorem crnew_ok (w : World) (v : Int × Int) : Fn Tryz.prog 43 #[.agg #[.int .i64 v.1, .int .i64 v.2]] w fun u w' => ∃ b, u = pt b ∧ w.heap.size ≤ b ∧ Zj w' b [.int .i64 v.1, .int .i64 v.2, .int .i64 0] := by
 have hX := Ext.refl Non w
 refine Zfw (args := [_]) Tryz.func43 rfl rfl ?_
 refine Zs (ZY rfl ?_); intro b1 w1 hb1 E1 B1
 have hq1 := Zq hX hb1
 replace hX := hX.tr E1
 refine Za ?_
 refine Zc (Zs (Zb (ZR Qv rfl rfl B1) (Zb (Z2 b_187 rfl rfl (cs := _) rfl) (ZY rfl ?_)))); intro b5 w2 hb5 E2 B5
 have hn1_5 := Zn B1 hb5
 have hq5 := Zq hX hb5
 replace hX := hX.tr E2
 replace B1 := Zx B1 E2
 refine Za ?_
 refine Zc (ZB ?_)
 exact ⟨_, ZD (Zh rfl), hX, ⟨b5, rfl, hq5, B5⟩⟩
theorem cknew_ok (w : World) {q : Option Addr} : Fn Tryz.prog 44 #[.pointer q] w fun u w' => ∃ b, u = pt b ∧ w.heap.size ≤ b ∧ Zj w' b [.pointer q, .int .i64 0] := by
 have hX := Ext.refl Non w
 refine Zfw (args := [_]) Tryz.func44 rfl rfl ?_
 refine Zs (Za ?_)
 refine Zc (Zs (Zm ?_))
 refine Zb (Z2 b_189 rfl rfl (cs := _) rfl) (ZY rfl ?_); intro b5 w1 hb5 E1 B5
 have hq5 := Zq hX hb5
 replace hX := hX.tr E1
 refine Za ?_
 refine Zc (ZB ?_)
 exact ⟨_, ZD (Zh rfl), hX, ⟨b5, rfl, hq5, B5⟩⟩
theorem lknew_ok (w : World)  : Fn Tryz.prog 41 #[.int .i64 12] w fun u w' => ∃ b lk, u = pt b ∧ w.heap.size ≤ b ∧ w.heap.size ≤ lk ∧ b ≠ lk ∧ Zj w' b [.slice (some ⟨lk, 0, none⟩) 12 12] ∧ Zj w' lk (List.replicate 36 (.int .i64 0)) := by
 have hX := Ext.refl Non w
 refine Zfw (args := [_]) Tryz.func41 rfl rfl ?_
 refine Zs (Za ?_)
 refine Zc (ZC (Zs (Zm ?_)))
 refine Zb (Xj rfl rfl) (Zm ?_)
 refine Zu rfl rfl (Zm ?_)
 refine Zu rfl rfl (Zb (Ja rfl rfl) (Zb (ZQ rfl (by conv => lhs; whnf)) ?_))
 refine Zc ?_
 refine ZE rfl (fun hc0 => ?_) (fun hc0 => ?_)
 ·exact absurd hc0 (by decide)
 ·refine ZF (Zs (Zm ?_))
  refine JR sl_179 rfl (m := 12) rfl rfl (by decide) (by decide) ?_; intro w1 lk hlk E1 hO12
  have hl12 : w.heap.size ≤ lk := Zle hX.size hlk
  have B12 := hO12.box
  replace hX := hX.tr E1
  refine Zb (Z2 b_181 rfl rfl (cs := _) rfl) (ZY rfl ?_); intro b14 w2 hb14 E2 hB14
  have hq14 := Zq hX hb14
  replace hX := hX.tr E2
  replace B12 := Zx B12 E2
  refine Za ?_
  refine Zc (ZB ?_)
  exact ⟨_, ZD (Zh rfl), hX, ⟨b14, lk, rfl, hq14, hl12, by have := hO12.box.lt; omega, hB14, B12⟩⟩
theorem epnew_ok (w : World)  : Fn Tryz.prog 39 #[.int .i64 64] w fun u w' => ∃ b pn c spare, u = pt b ∧ w.heap.size ≤ b ∧ w.heap.size ≤ pn ∧ b ≠ pn ∧ Zj w' b [.int .i64 0, .slice (some ⟨pn, 0, none⟩) 64 c, XV, XV, XV] ∧ Ow w' (.slice (some ⟨pn, 0, none⟩) 64 c) pn 1 ((List.replicate 64 (-1 : Int)).map eI) spare := by
 have hX := Ext.refl Non w
 refine Zfw (args := [_]) Tryz.func39 rfl rfl ?_
 refine Zs (Za ?_)
 refine Zc (Zs (Zb (Z2 b_175 rfl rfl (cs := _) rfl) (ZY rfl ?_))); intro b5 w1 hb5 E1 B5
 have hq5 := Zq hX hb5
 have hl5 := Zl hX hb5
 replace hX := hX.tr E1
 refine Za ?_
 refine Zc (ZC (Zs (Zm ?_)))
 refine Zb (Rn.cast (J8 rfl rfl) (show _ = Value.int .i64 64 by first | rfl | (rw [if_neg (by omega)]) | (rw [if_pos (by omega)]))) ?_
 refine Zb (Rn.cast (rn_max2 rfl rfl) (show _ = Value.int .i64 64 by first | rfl | (rw [if_neg (by omega)]) | (rw [if_pos (by omega)]))) ?_
 refine Zm ?_
 refine Zc (ZO (Xt (S := Nat × Value × Option Nat) [3, 5, 8, 9] (fun ⟨i, v, o⟩ => [(Zpt b5), (Zpt b5), .int .i64 64, .int .i64 (i : Nat)]) (fun ⟨i, v, o⟩ A => (Ext Non w A) ∧ (Zj A b5 [.int .i64 0, v, XV, XV, XV]) ∧ (Xo Non w b5) ∧ (i ≤ 64 ∧ OwO A v o 1 ((List.replicate i (-1 : Int)).map eI) ∧ v.oneCell' = true ∧ v.cells = #[v] ∧ ∀ j, o = some j → w.heap.size ≤ j ∧ j ≠ b5)) (fun ⟨i, v, o⟩ => 64 - i) (0, XV, none) ⟨rfl, rfl, rfl, rfl, trivial⟩ ⟨hX, B5, hl5, ⟨by omega, OwO.nil, rfl, rfl, fun j h => by cases h⟩⟩ ?_))
 rintro τ0 ⟨i, v, o⟩ A0 ⟨hX, B5, hl5, I0⟩
 obtain ⟨hi64, hO, hv1, hv2, ho⟩ := I0
 obtain ⟨va, vc, rfl⟩ := id hO.len
 refine Zs (Zb (Xj rfl rfl) (Zc (ZC ?_)))
 refine ZE rfl (fun hc0 => ?_) (fun hc0 => ?_)
 ·have hi64 : i + 1 ≤ 64 := by have := of_decide_eq_true hc0; omega
  refine ZF (ZC (ZO (ZJ (Zm (Zm ?_)))))
  refine Zb (Zg rfl) (Zb (Zf JU rfl) (Zb (Zi XT rfl B5 rfl) (Xz (r := eI (-1)) Xe rfl rfl rfl rfl (by decide) ?_))); intro v16 w2 b16 hb16 E2 hO16
  replace hX := hX.tr E2
  replace B5 := Zx B5 E2
  replace hO := hO.ext E2 (fun _ _ h => h)
  have hXo := hX
  have hB5l := B5.lt
  refine Qm Xe rfl rfl rfl hO (hO16.sl (M := Non) id) (fun r hr => by simp only [List.mem_singleton] at hr; subst hr; exact J1 rfl) (by simp only [List.length_map, List.length_replicate, List.length_cons, List.length_nil]; omega) (by simp only [List.length_map, List.length_replicate, List.length_cons, List.length_nil, big]; omega) ?_; intro v17 w3 o17 E3 hO17 hf17
  replace hX := hX.mineO E3 (fun i hi => .inr (ho i hi).1)
  replace B5 := B5.ext E3 (fun h => (ho _ h).2 rfl)
  have ho17 : ∀ j, o17 = some j → w.heap.size ≤ j ∧ j ≠ b5 := fun j hj => by
   rcases hf17 j hj with h | h
   ·exact ho j h
   ·exact ⟨Zle hXo.size h, by omega⟩
  obtain ⟨va17, vc17, rfl⟩ := id hO17.len
  refine Zb (Zg rfl) (Zb (Zf JU rfl) ?_)
  have Bo := B5
  refine ZN (b := b5) XT rfl (by conv => lhs; whnf) rfl rfl B5 Zbl ?_; intro w4 E4 B5 hz4
  replace hX := hX.mine E4 hl5
  replace hO17 := hO17.ext E4 (fun i hi e => (ho17 i hi).2 e)
  refine Zc (ZJ (Zb (ZX rfl rfl (by omega)) (Zm ?_)))
  refine Zc ?_
  exact ⟨rfl, (i + 1, _, o17), ⟨rfl, rfl, rfl, rfl, trivial⟩, ⟨hX, B5, hl5, ⟨hi64, by rw [← rep_snoc, List.map_append]; exact hO17, hO17.one2.1, hO17.one2.2, ho17⟩⟩, by show 64 - (i + 1) < 64 - i; omega⟩
 ·have hie : i = 64 := by have := of_decide_eq_false hc0; omega
  subst hie
  obtain ⟨pn, spare, ho5, hOw⟩ := hO.resolve_left (fun h => by have := h.2.1; simp at this)
  have hp := ho _ ho5
  obtain ⟨cc, e1⟩ : ∃ c, Value.slice va ((List.replicate 64 (-1 : Int)).map eI).length vc = .slice (some ⟨pn, 0, none⟩) 64 c := by obtain ⟨⟨c, h1, h2⟩, _⟩ := id hOw; exact ⟨c, by rw [h1]; simp⟩
  refine XL ?_
  refine Zs (Zm (Za ?_))
  refine Zc (ZB ?_)
  exact ⟨_, ZD (Zh rfl), hX, ⟨b5, pn, cc, spare, rfl, hq5, hp.1, fun e => hp.2 e.symm, by rw [← e1]; exact B5, by rw [← e1]; exact hOw⟩⟩
end
section
variable {ro : Option Nat} {P : Program} {n : Nat} {Q : QH} {σ : Env} {D : List Deferred} {w : World} {S : World → Prop} {K : Ops} {ex : Nat → Bool}
structure BehL (ops : List Oper) (ex : Nat → Bool) (i : Nat) (D : List Nat) (listed : Array Bool) : Prop where
 inc : ∀ j oj, ops[j]? = some oj → ex j = true → listed.getD j true = false → j ∈ D
 cls : ∀ j oj, ops[j]? = some oj → j ∈ D → ∃ e ∈ oj.after, Region.binds .any e = true ∧ (e.on = i ∨ e.on ∈ D)
 non : ∀ j, j ∈ D → listed.getD j true = false
theorem wx_firstL {ops : List Oper} {i : Nat} {oi : Oper} {v : Value} {DL : List Nat} (hi : ops[i]? = some oi) (hsel : Region.noSelect ops.toArray = true) : ∀ (f : Nat) (listed : Array Bool) (σ : Env) (w : World),
  BehL ops ex i DL listed →
  (∀ j oj, ops.toArray[j]? = some oj → j ≠ i → listed.getD j true = false → (∀ e ∈ oj.after, Region.binds .any e = true → e.on ≠ i) → oi.apart ops.toArray oj = true) →
  i ∈ Region.ready .any ops.toArray listed → Yd P ops S oi v σ → S w →
  wx P ops ex S K f (listed.setIfInBounds i true) (put σ oi.dst v) w → wx P ops ex S K (f + 1) listed σ w
 | 0, listed, σ, w, _, _, hr, hy, hS, H => by
  refine ⟨fun h => (by rw [h] at hr; cases hr), fun j hj o ho => ?_⟩
  by_cases hji : j = i
  ·subst hji; rw [hi] at ho; cases ho; exact hy.step hS ⟨fun _ => hS, H⟩
  ·have := ready_mono hj hji
   rw [H.1] at this; cases this
 | f + 1, listed, σ, w, hB, hfree, hr, hy, hS, H => by
  refine ⟨fun h => (by rw [h] at hr; cases hr), fun j hj oj hoj => ?_⟩
  by_cases hji : j = i
  ·subst hji; rw [hi] at hoj; cases hoj; exact hy.step hS ⟨fun _ => hS, H⟩
  ·have hoj' : ops.toArray[j]? = some oj := by simpa using hoj
   have h1 := H.2 j (ready_mono hj hji) oj hoj
   obtain ⟨hjun, oj', hoj2, hall⟩ := mem_ready.1 hj
   rw [hoj'] at hoj2; cases hoj2
   have lst : ∀ k, listed.getD k true = false → ∀ e ∈ oj.after, Region.binds .any e = true → e.on ≠ k := fun k h0 e he hb heq => by
    have h1 := hall e he hb
    rw [heq] at h1
    rcases Nat.lt_or_ge k listed.size with h' | h'
    ·simp [h'] at h0 h1; rw [h0] at h1; cases h1
    ·simp [Array.getElem?_eq_none h'] at h1
   have hnot : ∀ e ∈ oj.after, Region.binds .any e = true → e.on ≠ i := lst i (mem_ready.1 hr).1
   have hjD : ¬ j ∈ DL := fun hm => by
    obtain ⟨e, he, hb, h⟩ := hB.cls j oj hoj hm
    rcases h with h | h
    ·exact hnot e he hb h
    ·exact lst e.on (hB.non _ h) e he hb rfl
   have hex : ex j = false := by
    cases hx : ex j with
    | false => rfl
    | true => exact absurd (hB.inc j oj hoj hx hjun) hjD
   have h2 := step1_swap (hfree j oj hoj' hji hjun hnot) (fun cs b => Region.noSelect_spec hsel i oi cs b (by simpa using hi)) (fun cs b => Region.noSelect_spec hsel j oj cs b hoj') hy h1
   have hfree' : ∀ k ok, ops.toArray[k]? = some ok → k ≠ i → (listed.setIfInBounds j true).getD k true = false →
     (∀ e ∈ ok.after, Region.binds .any e = true → e.on ≠ i) → oi.apart ops.toArray ok = true := fun k ok hk hki hun hno => by
    refine hfree k ok hk hki ?_ hno
    by_cases hjk : j = k
    ·subst hjk; exact hjun
    ·rw [getD_set_ne true hjk] at hun; exact hun
   have hB' : BehL ops ex i DL (listed.setIfInBounds j true) := ⟨fun k ok hk hx hun => hB.inc k ok hk hx (by by_cases hjk : j = k; (subst hjk; exact hjun); (rw [getD_set_ne true hjk] at hun; exact hun)), hB.cls, fun k hk => by rw [getD_set_ne true (show j ≠ k from fun e => hjD (by rw [e]; exact hk))]; exact hB.non k hk⟩
   refine step1_mono (fun σ' w' h3 => ⟨h3.2.1, wx_firstL hi hsel f (listed.setIfInBounds j true) σ' w' hB' hfree' (ready_mono hr (Ne.symm hji)) h3.1 (h3.2.1 hex) ?_⟩) h2
   rw [Array.setIfInBounds_comm _ _ hji]
   exact h3.2.2
def behBL (ops : List Oper) (ex : Nat → Bool) (i : Nat) (D : List Nat) (listed : Array Bool) : Bool :=
 ((List.range ops.length).all fun j => (!ex j || D.contains j || listed.getD j true) && (!D.contains j || match ops[j]? with | some o => o.after.any (fun e => Region.binds .any e && (e.on == i || D.contains e.on)) | none => true)) && D.all fun j => listed.getD j true == false
theorem BehL.of {ops : List Oper} {i : Nat} {D : List Nat} {listed : Array Bool} (h : behBL ops ex i D listed = true) : BehL ops ex i D listed := by
 unfold behBL at h
 rw [Bool.and_eq_true, List.all_eq_true, List.all_eq_true] at h
 have key : ∀ j oj, ops[j]? = some oj → ((!ex j || D.contains j || listed.getD j true) && (!D.contains j || oj.after.any (fun e => Region.binds .any e && (e.on == i || D.contains e.on)))) = true := fun j oj hj => by
  have := h.1 j (List.mem_range.2 (List.getElem?_eq_some_iff.1 hj).1)
  rw [hj] at this; exact this
 refine ⟨fun j oj hj hx hun => ?_, fun j oj hj hm => ?_, fun j hj => by simpa using h.2 j hj⟩
 ·have := key j oj hj
  rw [hx, hun] at this; simp at this; exact this.1
 ·have := key j oj hj
  have hc : D.contains j = true := by simpa using hm
  rw [hc] at this
  simp only [Bool.and_eq_true, Bool.not_true, Bool.false_or] at this
  obtain ⟨k, hk, h2⟩ := Array.any_eq_true.1 this.2
  rw [Bool.and_eq_true, Bool.or_eq_true] at h2
  exact ⟨_, Array.getElem_mem hk, h2.1, h2.2.imp (fun h => by simpa using h) (fun h => by simpa using h)⟩
theorem Qg {ops : List Oper} {f : Nat} {listed : Array Bool} (i : Nat) (DL : List Nat) (oi : Oper) (v : Value) (hi : ops[i]? = some oi)
  (side : (Region.noSelect ops.toArray && Region.free .any ops.toArray listed i && (Region.ready .any ops.toArray listed).contains i && behBL ops ex i DL listed) = true)
  (hS : S w) (hy : Yd P ops S oi v σ) (h : wx P ops ex S K f (listed.setIfInBounds i true) (put σ oi.dst v) w) : wx P ops ex S K (f + 1) listed σ w := by
 simp only [Bool.and_eq_true] at side
 exact wx_firstL hi side.1.1.1 f listed σ w (BehL.of side.2) (Region.free_spec (by simpa using hi) side.1.1.2) (by simpa using side.1.2) hy hS h
end
end Go.Proofs.YtjklgohpminefaaGreatDoorC
