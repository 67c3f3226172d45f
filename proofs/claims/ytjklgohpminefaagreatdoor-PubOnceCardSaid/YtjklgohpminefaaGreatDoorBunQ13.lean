/- Publishing: more walks. -/
import Derived.Test.YtjklgohpminefaaGreatDoorBunQ12
import Derived.Test.YtjklgohpminefaaGreatDoorBunQ5
import Derived.Test.YtjklgohpminefaaGreatDoorBunQ3
import Derived.Test.YtjklgohpminefaaGreatDoorBunQ10
import Derived.Test.YtjklgohpminefaaGreatDoorBunQ11

set_option linter.unusedVariables false
set_option linter.unusedSimpArgs false
set_option maxRecDepth 1000000
namespace Go.Proofs.YtjklgohpminefaaGreatDoorC
open Go.RowKit
theorem look212_w (w : World) {S : Type} {Y : Sys S} {me : Nat} {G : Tg} {r : Out S} {b0 b1 b2 : Nat} {v1 v2 : Value} {l : List Int} {b77 b78 : Nat} {t : Int} {o : OpD} {nv hv : Value} {x : Xl} (B77 : Zj w b77 (wkC (some ⟨b78, 0, none⟩) t o nv hv x)) {ep pl gp rt : Nat} {q0 q1 q2 q3 : Option Addr} {rv : Value} (B78 : Zj w b78 [.pointer (some ⟨ep, 0, none⟩), .pointer (some ⟨pl, 0, none⟩), .pointer (some ⟨gp, 0, none⟩), .pointer (some ⟨rt, 0, none⟩), .pointer q0, .pointer q1, .pointer q2, .pointer q3, rv, .int .i64 0]) (ht : 0 ≤ t ∧ t ≤ 1000) (hB0 : Zj w b0 [v1, v2]) (h11 : v1.oneCell' = true) (h21 : v2.oneCell' = true) (B1 : Zj w b1 [(Zpt b77)]) (hPl : ∀ w1, Ext Non w w1 → Fn Tryz.prog 80 #[XV, .agg #[v1, v2]] w1 fun u w2 => Sl (Old w1) w2 u 1 (l.map eI)) (h : ∀ (w1 : World) (b4 : Nat) (qa : Option Addr) (qc : Nat), Ext Non w w1 → w.heap.size ≤ b4 → Zj w1 b4 [.slice qa l.length qc] → Sl (fun i => i < w.heap.size) w1 (.slice qa l.length qc) 1 (l.map eI) → MkS Y Tryz.prog me 32 #[.pointer (some ⟨gp, 0, none⟩), .slice qa l.length qc, .int .i64 (t + 1), .func (.func 81) #[] #[(Zpt b1), (Zpt b2), (Zpt b0), (Zpt b4)]] (Kx me G w) w1 r) : FnM Tryz.prog (Wr me G) 79 #[(Zpt b0), (Zpt b1), (Zpt b2)] w fun u w' => Xh Y Tryz.prog me G w r u w' := by
 have hXn := Ext.refl Non w
 have hX := Ext.refl (Wr me G) w
 refine Zfm (args := [_, _, _]) Tryz.func79 rfl rfl ?_
 refine Zs (Za ?_)
 refine Zc (Zs (Zb (ZR XE rfl rfl hB0) ?_))
 have hXn0 := hXn.size
 refine Zw zE rfl (hPl w hXn) ?_; intro v6 w1 E1 R1
 replace hX := hX.tr E1
 replace hB0 := Zx hB0 E1; replace B1 := Zx B1 E1; replace B77 := Zx B77 E1; replace B78 := Zx B78 E1
 replace hXn := hXn.tr E1
 have hL6 := (R1).sub (M' := fun i => i < w.heap.size ∨ (World.heap w1).size ≤ i) (fun i hi hlt => by rcases hi with hi | hi; exact Zlt hi hXn0; omega)
 obtain ⟨a6, c6, hv6, _⟩ := id hL6.len; rw [List.length_map] at hv6; subst hv6
 refine ZT z_27 ?_; intro b4 w2 hb4 E2 B4
 have hn0_4 := Zn hB0 hb4
 have hn1_4 := Zn B1 hb4
 have hn77_4 := Zn B77 hb4
 have hn78_4 := Zn B78 hb4
 have hq4 := Zq hX hb4
 have hl4 := Zl hX hb4
 replace hX := hX.tr E2
 replace hB0 := Zx hB0 E2; replace B1 := Zx B1 E2; replace B77 := Zx B77 E2; replace B78 := Zx B78 E2
 replace hXn := hXn.tr E2
 replace hL6 := hL6.ext E2 (fun _ h => h.elim)
 have Bo := B4
 refine ZN (b := b4) XT rfl (by conv => lhs; whnf) rfl rfl B4 Zbl ?_; intro w3 E3 B4 hz3
 replace hX := hX.mine E3 hl4
 replace hB0 := hB0.ext E3 (fun h => by omega); replace B1 := B1.ext E3 (fun h => by omega); replace B77 := B77.ext E3 (fun h => by omega); replace B78 := B78.ext E3 (fun h => by omega)
 replace hXn := hXn.own E3 hq4
 replace hL6 := hL6.ext E3 (fun i e => .inr (by have h3 : i = b4 := e; omega))
 refine Zc (ZC (Z5 (fun j => j == 12 || j == 13) mixed ?_)); intro w4 E4
 replace hX := hX.tr E4
 replace hB0 := Zx hB0 E4; replace B1 := Zx B1 E4; replace B77 := Zx B77 E4; replace B78 := Zx B78 E4; replace B4 := Zx B4 E4
 replace hXn := hXn.tr E4
 replace hL6 := hL6.ext E4 (fun _ h => h.elim)
 have hS := Ext.refl Non w4
 refine Zt 0 [1, 2, 3, 4, 12, 13] rfl hS (Zv Jg rfl B1 rfl) (Zt 1 [2, 3, 4, 12, 13] rfl hS (Zr (Zg rfl)) (Zt 2 [3, 4, 12, 13] rfl hS (Zr (Zf f_90_0 rfl)) (Zt 3 [4, 12, 13] rfl hS (Zv Jw rfl B77 rfl) (Zt 5 [12, 13] rfl hS (Zv XT rfl B4 rfl) (Zt 6 [7, 8, 9, 10, 12, 13] rfl hS (Zv Jg rfl B1 rfl) (Zt 7 [8, 9, 10, 12, 13] rfl hS (Zr (Zg rfl)) (Zt 8 [9, 10, 12, 13] rfl hS (Zr (Zf f_90_1 rfl)) (Zt 9 [10, 12, 13] rfl hS (Zv p_3 rfl B77 rfl) ?_))))))))
 refine Zt 10 [12, 13] rfl hS (Zr (ZX rfl rfl (by omega))) (Zt 11 [12, 13] rfl hS (Zr (ZL rfl)) (Zo 4 rfl (ZK (Zw zE rfl (Yh w4 (B78.ext hS id)) ?_)))); intro v11 w5 E5 R5
 replace hS := hS.tr E5
 subst R5
 refine Zc ⟨fun _ => hS, ?_⟩
 replace hX := hX.tr hS
 replace hB0 := Zx hB0 hS; replace B1 := Zx B1 hS; replace B77 := Zx B77 hS; replace B78 := Zx B78 hS; replace B4 := Zx B4 hS
 replace hXn := hXn.tr hS
 replace hL6 := hL6.ext hS (fun _ h => h.elim)
 refine Zo 12 rfl (ZK ?_)
 have hXc := hXn
 refine ZI zE rfl (h w5 b4 a6 c6 hXn hq4 B4 (hL6.sub (fun i hi _ => .inl hi))) ?_; intro v19 w6 E6 hR
 replace hX := hX.wr ZW E6
 refine Zz ?_
 refine Zo 13 rfl (ZK (Za ?_))
 refine Zz ?_
 refine ZZ (by kernel_rfl) ?_ _
 refine ZB ?_
 exact ⟨_, ZD (Zh rfl), hX, hR.pre ZW hXc.size⟩
theorem look2121_w (w : World) {S : Type} {Y : Sys S} {me : Nat} {G : Tg} {r : Out S} {b0 b1 b2 b3 : Nat} {now : Int × Int} {v1 v2 : Value} {qa : Option Addr} {qn qc : Nat} {b77 : Nat} (h11 : v1.oneCell' = true) (h21 : v2.oneCell' = true) (hB0 : Zj w b0 [(Zpt b77)]) (B1 : Zj w b1 [.int .i64 now.1, .int .i64 now.2]) (B2 : Zj w b2 [v1, v2]) (B3 : Zj w b3 [.slice qa qn qc]) (h : ∀ w1, Ext Non w w1 → MkS Y Tryz.prog me 82 #[(Zpt b77), .agg #[.int .i64 now.1, .int .i64 now.2], .agg #[v1, v2], .slice qa qn qc] (Kx me G w) w1 r) : FnM Tryz.prog (Wr me G) 81 #[(Zpt b0), (Zpt b1), (Zpt b2), (Zpt b3)] w fun u w' => Xh Y Tryz.prog me G w r u w' := by
 have hXn := Ext.refl Non w
 have hX := Ext.refl (Wr me G) w
 refine Zfm (args := [_, _, _, _]) Tryz.func81 rfl rfl ?_
 refine Zs (Za ?_)
 refine Zc (Zs (Zb (Zi Jg rfl hB0 rfl) (Zb (ZR Qv rfl rfl B1) (Zb (ZR XE rfl rfl B2) (Zb (Zi XT rfl B3 rfl) ?_)))))
 have hXc := hXn
 refine ZI zE rfl (h w hXn) ?_; intro v9 w1 E1 hR
 replace hX := hX.wr ZW E1
 refine Za ?_
 refine Zc (ZB ?_)
 exact ⟨_, ZD (Zh rfl), hX, hR.pre ZW hXc.size⟩
theorem again_w (w : World) {S : Type} {Y : Sys S} {me : Nat} {G : Tg} {r : Out S} {now : Int × Int} {v1 v2 : Value} {qa : Option Addr} {qn qc : Nat} {b77 b78 : Nat} {t : Int} {o : OpD} {nv hv : Value} {x : Xl} (B77 : Zj w b77 (wkC (some ⟨b78, 0, none⟩) t o nv hv x)) {ep pl gp rt : Nat} {q0 q1 q2 q3 : Option Addr} {rv : Value} (B78 : Zj w b78 [.pointer (some ⟨ep, 0, none⟩), .pointer (some ⟨pl, 0, none⟩), .pointer (some ⟨gp, 0, none⟩), .pointer (some ⟨rt, 0, none⟩), .pointer q0, .pointer q1, .pointer q2, .pointer q3, rv, .int .i64 0]) (h : ∀ (w1 : World) (b4 : Nat) (b5 : Nat) (b6 : Nat) (b7 : Nat) , Ext Non w w1 → w.heap.size ≤ b4 → Zj w1 b4 [(Zpt b77)] → w.heap.size ≤ b5 → Zj w1 b5 [.int .i64 now.1, .int .i64 now.2] → w.heap.size ≤ b6 → Zj w1 b6 [v1, v2] → w.heap.size ≤ b7 → Zj w1 b7 [.slice qa qn qc] → MkS Y Tryz.prog me 73 #[.pointer (some ⟨rt, 0, none⟩), .func (.func 141) #[] #[(Zpt b5), (Zpt b4), (Zpt b7), (Zpt b6)]] (Kx me G w) w1 r) : FnM Tryz.prog (Wr me G) 82 #[(Zpt b77), .agg #[.int .i64 now.1, .int .i64 now.2], .agg #[v1, v2], .slice qa qn qc] w fun u w' => Xh Y Tryz.prog me G w r u w' := by
 have hXn := Ext.refl Non w
 have hX := Ext.refl (Wr me G) w
 refine Zfm (args := [_, _, _, _]) Tryz.func82 rfl rfl ?_
 refine Zs (ZP (by conv => lhs; whnf) rfl ?_); intro b4 w1 hb4 E1 B4
 have hn77_4 := Zn B77 hb4
 have hn78_4 := Zn B78 hb4
 have hq4 := Zq hX hb4
 replace hX := hX.tr E1
 replace B77 := Zx B77 E1; replace B78 := Zx B78 E1
 replace hXn := hXn.tr E1
 refine ZY rfl ?_; intro b5 w2 hb5 E2 B5
 have hn77_5 := Zn B77 hb5
 have hn78_5 := Zn B78 hb5
 have hn4_5 := Zn B4 hb5
 have hq5 := Zq hX hb5
 replace hX := hX.tr E2
 replace B77 := Zx B77 E2; replace B78 := Zx B78 E2; replace B4 := Zx B4 E2
 replace hXn := hXn.tr E2
 refine ZY rfl ?_; intro b6 w3 hb6 E3 B6
 have hn77_6 := Zn B77 hb6
 have hn78_6 := Zn B78 hb6
 have hn4_6 := Zn B4 hb6
 have hn5_6 := Zn B5 hb6
 have hq6 := Zq hX hb6
 replace hX := hX.tr E3
 replace B77 := Zx B77 E3; replace B78 := Zx B78 E3; replace B4 := Zx B4 E3; replace B5 := Zx B5 E3
 replace hXn := hXn.tr E3
 refine ZP (by conv => lhs; whnf) rfl ?_; intro b7 w4 hb7 E4 B7
 have hn77_7 := Zn B77 hb7
 have hn78_7 := Zn B78 hb7
 have hn4_7 := Zn B4 hb7
 have hn5_7 := Zn B5 hb7
 have hn6_7 := Zn B6 hb7
 have hq7 := Zq hX hb7
 replace hX := hX.tr E4
 replace B77 := Zx B77 E4; replace B78 := Zx B78 E4; replace B4 := Zx B4 E4; replace B5 := Zx B5 E4; replace B6 := Zx B6 E4
 replace hXn := hXn.tr E4
 refine Za ?_
 refine Zc (Zs (Zb (Zi Jg rfl B4 rfl) (Zb (Zg rfl) (Zb (Zf f_90_0 rfl) (Zb (Zi Jw rfl B77 rfl) (Zw zE rfl (croot_ok w4 B78) ?_)))))); intro v13 w5 E5 R5
 replace hX := hX.tr E5
 replace B77 := Zx B77 E5; replace B78 := Zx B78 E5; replace B4 := Zx B4 E5; replace B5 := Zx B5 E5; replace B6 := Zx B6 E5; replace B7 := Zx B7 E5
 replace hXn := hXn.tr E5
 subst R5
 refine Zb (ZL rfl) ?_
 have hXc := hXn
 refine ZI zE rfl (h w5 b4 b5 b6 b7 hXn hq4 B4 hq5 B5 hq6 B6 hq7 B7) ?_; intro v15 w6 E6 hR
 replace hX := hX.wr ZW E6
 refine Za ?_
 refine Zc (ZB ?_)
 exact ⟨_, ZD (Zh rfl), hX, hR.pre ZW hXc.size⟩
theorem again1_w (w : World) {S : Type} {Y : Sys S} {me : Nat} {G : Tg} {r : Out S} {b1 b2 b3 b4 : Nat} {now : Int × Int} {v1 v2 : Value} {b77 : Nat} {l : List Int} (h11 : v1.oneCell' = true) (h21 : v2.oneCell' = true) (B1 : Zj w b1 [.int .i64 now.1, .int .i64 now.2]) (B2 : Zj w b2 [(Zpt b77)]) (B4 : Zj w b4 [v1, v2]) (hAll : ∀ w1, Ext Non w w1 → Fn Tryz.prog 138 #[.agg #[v1, v2]] w1 fun u w2 => J2 Tryz.prog Non w2 u (fun x : Int => #[.int .i64 x]) l) (hl : l.length ≤ 100) (h : ∀ (w1 : World) (qa : Option Addr) (qc : Nat), Ext Non w w1 → Sl (fun i => i < w.heap.size) w1 (.slice qa l.length qc) 1 (l.map eI) → MkS Y Tryz.prog me 145 #[(Zpt b77), .slice qa l.length qc, .func (.func 146) #[] #[(Zpt b2), (Zpt b3)]] (Kx me G w) w1 r) : FnM Tryz.prog (Wr me G) 141 #[.agg #[.int .i64 now.1, .int .i64 now.2], (Zpt b1), (Zpt b2), (Zpt b3), (Zpt b4)] w fun u w' => Xh Y Tryz.prog me G w r u w' := by
 have hXn := Ext.refl Non w
 have hX := Ext.refl (Wr me G) w
 refine Zfm (args := [_, _, _, _, _]) Tryz.func141 rfl rfl ?_
 refine Zs (ZY rfl ?_); intro b5 w1 hb5 E1 B5
 have hn1_5 := Zn B1 hb5
 have hn2_5 := Zn B2 hb5
 have hn4_5 := Zn B4 hb5
 have hq5 := Zq hX hb5
 replace hX := hX.tr E1
 replace B1 := Zx B1 E1; replace B2 := Zx B2 E1; replace B4 := Zx B4 E1
 replace hXn := hXn.tr E1
 refine Za ?_
 refine Zc (ZC (Zs (Zb (ZR Qv rfl rfl B5) (Zb (ZR Qv rfl rfl B1) (Zb (rn_neqS rfl rfl eg_117 (by decide) (ref_eqs _ _ _ _)) (Zc ?_))))))
 refine ZE rfl (fun hc0 => ?_) (fun hc0 => ?_)
 ·exact absurd hc0 (by simp)
 ·refine ZF (ZC (Z5 (fun j => j == 5 || j == 6) mixed ?_)); intro w2 E2
  replace hX := hX.tr E2
  replace B1 := Zx B1 E2; replace B2 := Zx B2 E2; replace B4 := Zx B4 E2; replace B5 := Zx B5 E2
  replace hXn := hXn.tr E2
  have hS := Ext.refl Non w2
  refine Zt 0 [5, 6] rfl hS (Zv Jg rfl B2 rfl) (Zt 1 [2, 3, 5, 6] rfl hS (ZG fun A hA => ZR XE rfl rfl (B4.ext hA id)) (Zt 4 [5, 6] rfl hS (Zr (ZL rfl)) (Zo 2 rfl (ZK (Zw zE rfl (hAll w2 (hXn.tr hS)) ?_))))); intro v16 w3 E3 R3
  replace hS := hS.tr E3
  have hI16 := R3
  refine Zc ⟨fun _ => hS, ?_⟩
  have hs17 := hS.size
  refine Zo 3 rfl (ZK (Zw zE rfl (collect_ok w3 l hI16 (by omega)) ?_)); intro v17 w4 E4 R4
  replace hS := hS.tr E4
  have hL17 := (R4).sub (M' := fun i => i < w.heap.size) (fun i hi _ => Zlt hi (Zle hXn.size hs17))
  obtain ⟨a17, c17, hv17, _⟩ := id hL17.len; rw [List.length_map] at hv17; subst hv17
  refine Zc ⟨fun _ => hS, ?_⟩
  replace hX := hX.tr hS
  replace B1 := Zx B1 hS; replace B2 := Zx B2 hS; replace B4 := Zx B4 hS; replace B5 := Zx B5 hS
  replace hXn := hXn.tr hS
  refine Zo 5 rfl (ZK ?_)
  have hXc := hXn
  refine ZI zE rfl (h w4 a17 c17 hXn hL17) ?_; intro v19 w5 E5 hR
  replace hX := hX.wr ZW E5
  refine Zz ?_
  refine Zo 6 rfl (ZK (Za ?_))
  refine Zz ?_
  refine ZZ (by kernel_rfl) ?_ _
  refine ZB ?_
  exact ⟨_, ZD (Zh rfl), hX, hR.pre ZW hXc.size⟩
theorem offer_nil (w : World) {S : Type} {Y : Sys S} {me : Nat} {G : Tg} {r : Out S} {f2 : FuncId} {fi2 cap2 : Array Value} (e2 : Xa Tryz.prog f2 = true) {b77 : Nat} {a : Option Addr} {c : Nat} (h : ∀ w1, Ext Non w w1 → MkS Y Tryz.prog me f2 (fi2 ++ cap2) (Kx me G w) w1 r) : FnM Tryz.prog (Wr me G) 145 #[(Zpt b77), .slice a 0 c, .func (.func f2) fi2 cap2] w fun u w' => Xh Y Tryz.prog me G w r u w' := by
 have hXn := Ext.refl Non w
 have hX := Ext.refl (Wr me G) w
 refine Zfm (args := [_, _, _]) Tryz.func145 rfl rfl ?_
 refine Zs (ZP (by conv => lhs; whnf) rfl ?_); intro b3 w1 hb3 E1 B3
 have hq3 := Zq hX hb3
 replace hX := hX.tr E1
 replace hXn := hXn.tr E1
 refine ZP (by conv => lhs; whnf) rfl ?_; intro b4 w2 hb4 E2 B4
 have hn3_4 := Zn B3 hb4
 have hq4 := Zq hX hb4
 replace hX := hX.tr E2
 replace B3 := Zx B3 E2
 replace hXn := hXn.tr E2
 refine ZP (by conv => lhs; whnf) rfl ?_; intro b5 w3 hb5 E3 B5
 have hn3_5 := Zn B3 hb5
 have hn4_5 := Zn B4 hb5
 have hq5 := Zq hX hb5
 replace hX := hX.tr E3
 replace B3 := Zx B3 E3; replace B4 := Zx B4 E3
 replace hXn := hXn.tr E3
 refine Za ?_
 refine Zc (ZC (Zs (Zb (Zi XT rfl B4 rfl) (Zb (Z1 Xe rfl) (Zb (Xc rfl rfl) (Zc ?_))))))
 refine ZE rfl (fun hc0 => ?_) (fun hc0 => ?_)
 ·refine Zs (Zb (Zi p_94 rfl B5 rfl) ?_)
  have hXc := hXn
  refine XW (args := []) rfl e2 rfl (by have := h w3 hXn; unfold MkS at this; simpa using this) ?_; intro v11 w4 E4 hR
  replace hX := hX.wr ZW E4
  refine Za ?_
  refine Zc (ZB ?_)
  exact ⟨_, ZD (Zh rfl), hX, hR.pre ZW hXc.size⟩
 ·exact absurd hc0 (by decide)
theorem offer_cons (w : World) {S : Type} {Y : Sys S} {me : Nat} {G : Tg} {r : Out S} {f2 : FuncId} {fi2 cap2 : Array Value} {b77 : Nat} {a : Addr} {c : Nat} {l : List Int} (h : ∀ (w1 : World) (b3 : Nat) (b4 : Nat) (b5 : Nat) , Ext Non w w1 → w.heap.size ≤ b3 → Zj w1 b3 [(Zpt b77)] → w.heap.size ≤ b4 → Zj w1 b4 [.slice (some a) (l.length + 1) c] → w.heap.size ≤ b5 → Zj w1 b5 [.func (.func f2) fi2 cap2] → MkS Y Tryz.prog me 62 #[.func (.func 206) #[] #[(Zpt b3), (Zpt b4)], .func (.func 208) #[] #[(Zpt b3), (Zpt b4), (Zpt b5)]] (Kx me G w) w1 r) : FnM Tryz.prog (Wr me G) 145 #[(Zpt b77), .slice (some a) (l.length + 1) c, .func (.func f2) fi2 cap2] w fun u w' => Xh Y Tryz.prog me G w r u w' := by
 have hXn := Ext.refl Non w
 have hX := Ext.refl (Wr me G) w
 refine Zfm (args := [_, _, _]) Tryz.func145 rfl rfl ?_
 refine Zs (ZP (by conv => lhs; whnf) rfl ?_); intro b3 w1 hb3 E1 B3
 have hq3 := Zq hX hb3
 replace hX := hX.tr E1
 replace hXn := hXn.tr E1
 refine ZP (by conv => lhs; whnf) rfl ?_; intro b4 w2 hb4 E2 B4
 have hn3_4 := Zn B3 hb4
 have hq4 := Zq hX hb4
 replace hX := hX.tr E2
 replace B3 := Zx B3 E2
 replace hXn := hXn.tr E2
 refine ZP (by conv => lhs; whnf) rfl ?_; intro b5 w3 hb5 E3 B5
 have hn3_5 := Zn B3 hb5
 have hn4_5 := Zn B4 hb5
 have hq5 := Zq hX hb5
 replace hX := hX.tr E3
 replace B3 := Zx B3 E3; replace B4 := Zx B4 E3
 replace hXn := hXn.tr E3
 refine Za ?_
 refine Zc (ZC (Zs (Zb (Zi XT rfl B4 rfl) (Zb (Z1 Xe rfl) (Zb (Xc rfl rfl) (Zc ?_))))))
 refine ZE rfl (fun hc0 => ?_) (fun hc0 => ?_)
 ·exact absurd (of_decide_eq_true hc0) (by omega)
 ·refine ZF (Zs (Zb (ZL rfl) (Zb (ZL rfl) ?_)))
  have hXc := hXn
  refine ZI zE rfl (h w3 b3 b4 b5 hXn hq3 B3 hq4 B4 hq5 B5) ?_; intro v14 w4 E4 hR
  replace hX := hX.wr ZW E4
  refine Za ?_
  refine Zc (ZB ?_)
  exact ⟨_, ZD (Zh rfl), hX, hR.pre ZW hXc.size⟩
theorem offer2_w (w : World) {S : Type} {Y : Sys S} {me : Nat} {G : Tg} {r : Out S} {b0 b1 b2 : Nat} {nv : Value} {a : Addr} {n c : Nat} {b77 : Nat} (hn : nv.oneCell' = true) (hnc : n + 1 ≤ c) (hB0 : Zj w b0 [(Zpt b77)]) (B1 : Zj w b1 [.slice (some a) (n + 1) c]) (B2 : Zj w b2 [nv]) (h : ∀ w1, Ext Non w w1 → MkS Y Tryz.prog me 145 #[(Zpt b77), .slice (if c = 1 then some a else (some a).map (·.add (1 * 1))) n (c - 1), nv] (Kx me G w) w1 r) : FnM Tryz.prog (Wr me G) 208 #[(Zpt b0), (Zpt b1), (Zpt b2)] w fun u w' => Xh Y Tryz.prog me G w r u w' := by
 have hXn := Ext.refl Non w
 have hX := Ext.refl (Wr me G) w
 refine Zfm (args := [_, _, _]) Tryz.func208 rfl rfl ?_
 refine Zs (Za ?_)
 refine Zc (ZC (Z5 (fun j => j == 4 || j == 5) mixed ?_)); intro w1 E1
 replace hX := hX.tr E1
 replace hB0 := Zx hB0 E1; replace B1 := Zx B1 E1; replace B2 := Zx B2 E1
 replace hXn := hXn.tr E1
 have hS := Ext.refl Non w1
 refine Zt 0 [4, 5] rfl hS (Zv Jg rfl hB0 rfl) (Zt 1 [2, 4, 5] rfl hS (Zv XT rfl B1 rfl) (Zt 2 [4, 5] rfl hS (ZG fun A hA => Xs Xe (l := 1) (h := n + 1) (m := c) rfl ⟨_, rfl⟩ rfl rfl (by simp) (by omega) (by omega) (by omega)) ?_))
 refine Zt 3 [4, 5] rfl hS (Zv p_94 rfl B2 rfl) ?_
 replace hX := hX.tr hS
 replace hB0 := Zx hB0 hS; replace B1 := Zx B1 hS; replace B2 := Zx B2 hS
 replace hXn := hXn.tr hS
 refine Zo 4 rfl (ZK ?_)
 have hXc := hXn
 refine ZI zE rfl (h w1 hXn) ?_; intro v8 w2 E2 hR
 replace hX := hX.wr ZW E2
 refine Zz ?_
 refine Zo 5 rfl (ZK (Za ?_))
 refine Zz ?_
 refine ZZ (by kernel_rfl) ?_ _
 refine ZB ?_
 exact ⟨_, ZD (Zh rfl), hX, hR.pre ZW hXc.size⟩
theorem again12_w (w : World) {S : Type} {Y : Sys S} {me : Nat} {G : Tg} {r : Out S} {b0 b1 b77 : Nat} (hB0 : Zj w b0 [(Zpt b77)]) (h : ∀ w1, Ext Non w w1 → MkS Y Tryz.prog me 147 #[(Zpt b77), .func (.func 148) #[] #[(Zpt b0), (Zpt b1)]] (Kx me G w) w1 r) : FnM Tryz.prog (Wr me G) 146 #[(Zpt b0), (Zpt b1)] w fun u w' => Xh Y Tryz.prog me G w r u w' := by
 have hXn := Ext.refl Non w
 have hX := Ext.refl (Wr me G) w
 refine Zfm (args := [_, _]) Tryz.func146 rfl rfl ?_
 refine Zs (Za ?_)
 refine Zc (Zs (Zb (Zi Jg rfl hB0 rfl) (Zb (ZL rfl) ?_)))
 have hXc := hXn
 refine ZI zE rfl (h w hXn) ?_; intro v5 w1 E1 hR
 replace hX := hX.wr ZW E1
 refine Za ?_
 refine Zc (ZB ?_)
 exact ⟨_, ZD (Zh rfl), hX, hR.pre ZW hXc.size⟩
theorem keep_w (w : World) {S : Type} {Y : Sys S} {me : Nat} {G : Tg} {r : Out S} {f2 : FuncId} {fi2 cap2 : Array Value} (e2 : Xa Tryz.prog f2 = true) {b77 c : Nat} {t : Int} {o : OpD} {nv hv : Value} {x : Xl} (B77 : Zj w b77 (wkC (some ⟨c, 0, none⟩) t o nv hv x)) (hk : o.keep = false) (h : ∀ w1, Ext Non w w1 → MkS Y Tryz.prog me f2 (fi2 ++ cap2) (Kx me G w) w1 r) : FnM Tryz.prog (Wr me G) 147 #[(Zpt b77), .func (.func f2) fi2 cap2] w fun u w' => Xh Y Tryz.prog me G w r u w' := by
 have hXn := Ext.refl Non w
 have hX := Ext.refl (Wr me G) w
 refine Zfm (args := [_, _]) Tryz.func147 rfl rfl ?_
 refine Zs (ZP (by conv => lhs; whnf) rfl ?_); intro b2 w1 hb2 E1 B2
 have hn77_2 := Zn B77 hb2
 have hq2 := Zq hX hb2
 replace hX := hX.tr E1
 replace B77 := Zx B77 E1
 replace hXn := hXn.tr E1
 refine ZP (by conv => lhs; whnf) rfl ?_; intro b3 w2 hb3 E2 B3
 have hn77_3 := Zn B77 hb3
 have hn2_3 := Zn B2 hb3
 have hq3 := Zq hX hb3
 replace hX := hX.tr E2
 replace B77 := Zx B77 E2; replace B2 := Zx B2 E2
 replace hXn := hXn.tr E2
 refine Za ?_
 refine Zc (ZC (Zs (Zb (Zi Jg rfl B2 rfl) (Zb (Zg rfl) (Zb (Zf f_90_2 rfl) (Zb (Zf f_42_4 rfl) (Zb (Zi p_4 rfl B77 rfl) (Zb (Xy rfl) ?_))))))))
 refine Zc ?_
 refine ZE rfl (fun hc0 => ?_) (fun hc0 => ?_)
 ·refine Zs (Zb (Zi p_94 rfl B3 rfl) ?_)
  have hXc := hXn
  refine XW (args := []) rfl e2 rfl (by have := h w2 hXn; unfold MkS at this; simpa using this) ?_; intro v13 w3 E3 hR
  replace hX := hX.wr ZW E3
  refine Za ?_
  refine Zc (ZB ?_)
  exact ⟨_, ZD (Zh rfl), hX, hR.pre ZW hXc.size⟩
 ·rw [hk] at hc0; cases hc0
theorem again121_w (w : World) {S : Type} {Y : Sys S} {me : Nat} {G : Tg} {r : Out S} {b0 b1 b77 : Nat} {qv : Value} (hq1 : qv.oneCell' = true) (hB0 : Zj w b0 [(Zpt b77)]) (B1 : Zj w b1 [qv]) (h : ∀ w1, Ext Non w w1 → MkS Y Tryz.prog me 142 #[(Zpt b77), qv, .func (.func 149) #[] #[(Zpt b0)]] (Kx me G w) w1 r) : FnM Tryz.prog (Wr me G) 148 #[(Zpt b0), (Zpt b1)] w fun u w' => Xh Y Tryz.prog me G w r u w' := by
 have hXn := Ext.refl Non w
 have hX := Ext.refl (Wr me G) w
 refine Zfm (args := [_, _]) Tryz.func148 rfl rfl ?_
 refine Zs (Za ?_)
 refine Zc (Zs (Zb (Zi Jg rfl hB0 rfl) (Zb (Zi XT rfl B1 rfl) (Zb (ZL rfl) ?_))))
 have hXc := hXn
 refine ZI zE rfl (h w hXn) ?_; intro v6 w1 E1 hR
 replace hX := hX.wr ZW E1
 refine Za ?_
 refine Zc (ZB ?_)
 exact ⟨_, ZD (Zh rfl), hX, hR.pre ZW hXc.size⟩
theorem pfree_w (w : World) {S : Type} {Y : Sys S} {me : Nat} {G : Tg} {r : Out S} {fv qv : Value} {b77 b78 : Nat} {t : Int} {o : OpD} {nv hv : Value} {x : Xl} (B77 : Zj w b77 (wkC (some ⟨b78, 0, none⟩) t o nv hv x)) {ep pl gp rt : Nat} {q0 q1 q2 q3 : Option Addr} {rv : Value} (B78 : Zj w b78 [.pointer (some ⟨ep, 0, none⟩), .pointer (some ⟨pl, 0, none⟩), .pointer (some ⟨gp, 0, none⟩), .pointer (some ⟨rt, 0, none⟩), .pointer q0, .pointer q1, .pointer q2, .pointer q3, rv, .int .i64 0]) (ht : 0 ≤ t ∧ t ≤ 1000) (h : ∀ w1, Ext Non w w1 → MkS Y Tryz.prog me 179 #[.pointer (some ⟨gp, 0, none⟩), qv, .int .i64 (t + 1), fv] (Kx me G w) w1 r) : FnM Tryz.prog (Wr me G) 142 #[(Zpt b77), qv, fv] w fun u w' => Xh Y Tryz.prog me G w r u w' := by
 have hXn := Ext.refl Non w
 have hX := Ext.refl (Wr me G) w
 refine Zfm (args := [_, _, _]) Tryz.func142 rfl rfl ?_
 refine Zs (Za ?_)
 refine Zc (ZC (Z5 (fun j => j == 12 || j == 13) mixed ?_)); intro w1 E1
 replace hX := hX.tr E1
 replace B77 := Zx B77 E1; replace B78 := Zx B78 E1
 replace hXn := hXn.tr E1
 have hS := Ext.refl Non w1
 refine Zt 0 [1, 2, 3, 4, 12, 13] rfl hS Zy ?_
 refine Zt 1 [2, 3, 4, 12, 13] rfl hS (Zr (Zg rfl)) (Zt 2 [3, 4, 12, 13] rfl hS (Zr (Zf f_90_0 rfl)) (Zt 3 [4, 12, 13] rfl hS (Zv Jw rfl B77 rfl) (Zt 5 [12, 13] rfl hS Zy ?_)))
 refine Zt 6 [7, 8, 9, 10, 12, 13] rfl hS Zy ?_
 refine Zt 7 [8, 9, 10, 12, 13] rfl hS (Zr (Zg rfl)) (Zt 8 [9, 10, 12, 13] rfl hS (Zr (Zf f_90_1 rfl)) (Zt 9 [10, 12, 13] rfl hS (Zv p_3 rfl B77 rfl) (Zt 10 [12, 13] rfl hS (Zr (ZX rfl rfl (by omega))) (Zt 11 [12, 13] rfl hS Zy ?_))))
 refine Zo 4 rfl (ZK (Zw zE rfl (Yh w1 (B78.ext hS id)) ?_)); intro v11 w2 E2 R2
 replace hS := hS.tr E2
 subst R2
 refine Zc ⟨fun _ => hS, ?_⟩
 replace hX := hX.tr hS
 replace B77 := Zx B77 hS; replace B78 := Zx B78 hS
 replace hXn := hXn.tr hS
 refine Zo 12 rfl (ZK ?_)
 have hXc := hXn
 refine ZI zE rfl (h w2 hXn) ?_; intro v19 w3 E3 hR
 replace hX := hX.wr ZW E3
 refine Zz ?_
 refine Zo 13 rfl (ZK (Za ?_))
 refine Zz ?_
 refine ZZ (by kernel_rfl) ?_ _
 refine ZB ?_
 exact ⟨_, ZD (Zh rfl), hX, hR.pre ZW hXc.size⟩
theorem again1211_w (w : World) {S : Type} {Y : Sys S} {me : Nat} {G : Tg} {r : Out S} {b0 b77 : Nat} (hB0 : Zj w b0 [(Zpt b77)]) (h : ∀ w1, Ext Non w w1 → MkS Y Tryz.prog me 144 #[(Zpt b77), .func (.func 150) #[] #[(Zpt b0)]] (Kx me G w) w1 r) : FnM Tryz.prog (Wr me G) 149 #[(Zpt b0)] w fun u w' => Xh Y Tryz.prog me G w r u w' := by
 have hXn := Ext.refl Non w
 have hX := Ext.refl (Wr me G) w
 refine Zfm (args := [_]) Tryz.func149 rfl rfl ?_
 refine Zs (Za ?_)
 refine Zc (Zs (Zb (Zi Jg rfl hB0 rfl) (Zb (ZL rfl) ?_)))
 have hXc := hXn
 refine ZI zE rfl (h w hXn) ?_; intro v4 w1 E1 hR
 replace hX := hX.wr ZW E1
 refine Za ?_
 refine Zc (ZB ?_)
 exact ⟨_, ZD (Zh rfl), hX, hR.pre ZW hXc.size⟩
theorem leave_w (w : World) {S : Type} {Y : Sys S} {me : Nat} {G : Tg} {r : Out S} {b77 : Nat} {nv : Value} (hnc : nv.cells = #[nv]) (h : ∀ (w1 : World) (b2 : Nat) (b3 : Nat) , Ext Non w w1 → w.heap.size ≤ b2 → Zj w1 b2 [(Zpt b77)] → w.heap.size ≤ b3 → Zj w1 b3 [nv] → MkS Y Tryz.prog me 62 #[.func (.func 204) #[] #[(Zpt b2)], .func (.func 205) #[] #[(Zpt b2), (Zpt b3)]] (Kx me G w) w1 r) : FnM Tryz.prog (Wr me G) 144 #[(Zpt b77), nv] w fun u w' => Xh Y Tryz.prog me G w r u w' := by
 have hXn := Ext.refl Non w
 have hX := Ext.refl (Wr me G) w
 refine Zfm (args := [_, _]) Tryz.func144 rfl rfl ?_
 refine Zs (ZP (by conv => lhs; whnf) rfl ?_); intro b2 w1 hb2 E1 B2
 have hq2 := Zq hX hb2
 replace hX := hX.tr E1
 replace hXn := hXn.tr E1
 refine ZP (by conv => lhs; whnf) hnc ?_; intro b3 w2 hb3 E2 B3
 have hn2_3 := Zn B2 hb3
 have hq3 := Zq hX hb3
 replace hX := hX.tr E2
 replace B2 := Zx B2 E2
 replace hXn := hXn.tr E2
 refine Za ?_
 refine Zc (Zs (Zb (ZL rfl) (Zb (ZL rfl) ?_)))
 have hXc := hXn
 refine ZI zE rfl (h w2 b2 b3 hXn hq2 B2 hq3 B3) ?_; intro v7 w3 E3 hR
 replace hX := hX.wr ZW E3
 refine Za ?_
 refine Zc (ZB ?_)
 exact ⟨_, ZD (Zh rfl), hX, hR.pre ZW hXc.size⟩
theorem leave2_w (w : World) {S : Type} {Y : Sys S} {me : Nat} {G : Tg} {r : Out S} {b0 b1 : Nat} {fv : Value} (hn : fv.oneCell' = true) {b77 b78 : Nat} {t : Int} {o : OpD} {nv hv : Value} {x : Xl} (B77 : Zj w b77 (wkC (some ⟨b78, 0, none⟩) t o nv hv x)) (hB0 : Zj w b0 [(Zpt b77)]) (B1 : Zj w b1 [fv]) (h : ∀ w1, Ext Non w w1 → MkS Y Tryz.prog me 62 #[.func (.func 177) #[(Zpt b78)] #[], fv] (Kx me G w) w1 r) : FnM Tryz.prog (Wr me G) 205 #[(Zpt b0), (Zpt b1)] w fun u w' => Xh Y Tryz.prog me G w r u w' := by
 have hXn := Ext.refl Non w
 have hX := Ext.refl (Wr me G) w
 refine Zfm (args := [_, _]) Tryz.func205 rfl rfl ?_
 refine Zs (Za ?_)
 refine Zc (ZC (Z5 (fun j => j == 6 || j == 7) mixed ?_)); intro w1 E1
 replace hX := hX.tr E1
 replace hB0 := Zx hB0 E1; replace B1 := Zx B1 E1; replace B77 := Zx B77 E1
 replace hXn := hXn.tr E1
 have hS := Ext.refl Non w1
 refine Zt 0 [1, 2, 3, 4, 6, 7] rfl hS (Zv Jg rfl hB0 rfl) (Zt 1 [2, 3, 4, 6, 7] rfl hS (Zr (Zg rfl)) (Zt 2 [3, 4, 6, 7] rfl hS (Zr (Zf f_90_0 rfl)) (Zt 3 [4, 6, 7] rfl hS (Zv Jw rfl B77 rfl) (Zt 4 [6, 7] rfl hS (ZG fun A hA => rn_makeFuncF rfl) (Zt 5 [6, 7] rfl hS (Zv p_94 rfl B1 rfl) ?_)))))
 replace hX := hX.tr hS
 replace hB0 := Zx hB0 hS; replace B1 := Zx B1 hS; replace B77 := Zx B77 hS
 replace hXn := hXn.tr hS
 refine Zo 6 rfl (ZK ?_)
 have hXc := hXn
 refine ZI zE rfl (h w1 hXn) ?_; intro v9 w2 E2 hR
 replace hX := hX.wr ZW E2
 refine Zz ?_
 refine Zo 7 rfl (ZK (Za ?_))
 refine Zz ?_
 refine ZZ (by kernel_rfl) ?_ _
 refine ZB ?_
 exact ⟨_, ZD (Zh rfl), hX, hR.pre ZW hXc.size⟩
theorem again12111_w (w : World) {S : Type} {Y : Sys S} {me : Nat} {G : Tg} {r : Out S} {b0 : Nat} {b77 c : Nat} {t : Int} {o : OpD} {nv hv : Value} {x : Xl} (B77 : Zj w b77 (wkC (some ⟨c, 0, none⟩) t o nv hv x)) (hh : hv.oneCell' = true) (hB0 : Zj w b0 [(Zpt b77)]) (h : ∀ w1, Ext Non w w1 → MkS Y Tryz.prog me 142 #[(Zpt b77), hv, .func (.func 151) #[] #[(Zpt b0)]] (Kx me G w) w1 r) : FnM Tryz.prog (Wr me G) 150 #[(Zpt b0)] w fun u w' => Xh Y Tryz.prog me G w r u w' := by
 have hXn := Ext.refl Non w
 have hX := Ext.refl (Wr me G) w
 refine Zfm (args := [_]) Tryz.func150 rfl rfl ?_
 refine Zs (Za ?_)
 refine Zc (ZC (Z5 (fun j => j == 6 || j == 7) mixed ?_)); intro w1 E1
 replace hX := hX.tr E1
 replace hB0 := Zx hB0 E1; replace B77 := Zx B77 E1
 replace hXn := hXn.tr E1
 have hS := Ext.refl Non w1
 refine Zt 0 [6, 7] rfl hS (Zv Jg rfl hB0 rfl) (Zt 1 [2, 3, 4, 6, 7] rfl hS (Zv Jg rfl hB0 rfl) (Zt 2 [3, 4, 6, 7] rfl hS (Zr (Zg rfl)) (Zt 3 [4, 6, 7] rfl hS (Zr (Zf f_90_4 rfl)) (Zt 4 [6, 7] rfl hS (Zv XT rfl B77 rfl) (Zt 5 [6, 7] rfl hS (Zr (ZL rfl)) ?_)))))
 replace hX := hX.tr hS
 replace hB0 := Zx hB0 hS; replace B77 := Zx B77 hS
 replace hXn := hXn.tr hS
 refine Zo 6 rfl (ZK ?_)
 have hXc := hXn
 refine ZI zE rfl (h w1 hXn) ?_; intro v8 w2 E2 hR
 replace hX := hX.wr ZW E2
 refine Zz ?_
 refine Zo 7 rfl (ZK (Za ?_))
 refine Zz ?_
 refine ZZ (by kernel_rfl) ?_ _
 refine ZB ?_
 exact ⟨_, ZD (Zh rfl), hX, hR.pre ZW hXc.size⟩
theorem again121111_w (w : World) {S : Type} {Y : Sys S} {me : Nat} {G : Tg} {r : Out S} {b0 : Nat} {b77 c : Nat} {t : Int} {o : OpD} {nv hv : Value} {x : Xl} (B77 : Zj w b77 (wkC (some ⟨c, 0, none⟩) t o nv hv x)) (hn : nv.oneCell' = true) (hB0 : Zj w b0 [(Zpt b77)]) (h : ∀ w1, Ext Non w w1 → MkS Y Tryz.prog me 30 #[.agg x.enc.toArray, nv] (Kx me G w) w1 r) : FnM Tryz.prog (Wr me G) 151 #[(Zpt b0)] w fun u w' => Xh Y Tryz.prog me G w r u w' := by
 have hXn := Ext.refl Non w
 have hX := Ext.refl (Wr me G) w
 refine Zfm (args := [_]) Tryz.func151 rfl rfl ?_
 refine Zs (Za ?_)
 refine Zc (ZC (Z5 (fun j => j == 8 || j == 9) mixed ?_)); intro w1 E1
 replace hX := hX.tr E1
 replace hB0 := Zx hB0 E1; replace B77 := Zx B77 E1
 replace hXn := hXn.tr E1
 have hS := Ext.refl Non w1
 refine Zt 0 [1, 2, 3, 8, 9] rfl hS (Zv Jg rfl hB0 rfl) (Zt 1 [2, 3, 8, 9] rfl hS (Zr (Zg rfl)) (Zt 2 [3, 8, 9] rfl hS (Zr (Zf f_90_5 rfl)) (Zt 3 [8, 9] rfl hS (ZG fun A hA => XC s_37 (vs := [_, _, _, _, _, _]) rfl rfl ((B77.ext hA id).part rfl Zbl)) ?_)))
 refine Zt 4 [5, 6, 7, 8, 9] rfl hS (Zv Jg rfl hB0 rfl) (Zt 5 [6, 7, 8, 9] rfl hS (Zr (Zg rfl)) (Zt 6 [7, 8, 9] rfl hS (Zr (Zf f_90_3 rfl)) (Zt 7 [8, 9] rfl hS (Zv p_49 rfl B77 rfl) ?_)))
 replace hX := hX.tr hS
 replace hB0 := Zx hB0 hS; replace B77 := Zx B77 hS
 replace hXn := hXn.tr hS
 refine Zo 8 rfl (ZK ?_)
 have hXc := hXn
 refine ZI zE rfl (h w1 hXn) ?_; intro v10 w2 E2 hR
 replace hX := hX.wr ZW E2
 refine Zz ?_
 refine Zo 9 rfl (ZK (Za ?_))
 refine Zz ?_
 refine ZZ (by kernel_rfl) ?_ _
 refine ZB ?_
 exact ⟨_, ZD (Zh rfl), hX, hR.pre ZW hXc.size⟩
theorem dropK_no {κ : Type} [DecidableEq κ] {lt : κ → κ → Bool} {l : List κ} {x : κ} (h : XP lt l x = false) : dropK lt l x = l := by unfold dropK; rw [if_neg (by rw [h]; simp)]
theorem dropV_no {κ β : Type} [DecidableEq κ] {lt : κ → κ → Bool} {l : List κ} {x : κ} {vs : List β} (h : XP lt l x = false) : dropV lt l x vs = vs := by unfold dropV; rw [if_neg (by rw [h]; simp)]
theorem dropK_yes {κ γ : Type} [DecidableEq κ] {lt : κ → κ → Bool} {l : List κ} {x : κ} (e : κ → γ) (h : XP lt l x = true) : (dropK lt l x).map e = (l.map e).take (lb lt l x) ++ (l.map e).drop (lb lt l x + 1) := by unfold dropK; rw [if_pos h]; simp [List.map_take, List.map_drop]
theorem dropV_yes {κ β : Type} [DecidableEq κ] {lt : κ → κ → Bool} {l : List κ} {x : κ} {vs : List β} (h : XP lt l x = true) : dropV lt l x vs = vs.take (lb lt l x) ++ vs.drop (lb lt l x + 1) := by unfold dropV; rw [if_pos h]
theorem zip_take_add {α β : Type} {l : List α} {m : List β} {i : Nat} {x : α} {y : β} (hx : l[i]? = some x) (hy : m[i]? = some y) : (l.zip m)[i]? = some (x, y) := by simp [List.getElem?_zip_eq_some, hx, hy]
set_option maxHeartbeats 800000 in
theorem mdrop_se (w : World) (M : Nat → Prop) (hM : ∀ i, M i → i < w.heap.size) (ks : List Str) (vs : List (List Value)) {v1 v2 : Value} (x : Str) (hmM : Qs M w eS1 2 v1 v2 ks vs) (hord : Xi ltS ks) (hn : ks.length ≤ 1000000) (hv1 : ∀ r ∈ vs, ∀ u ∈ r, u.oneCell' = true) : Fn Tryz.prog 60 #[.agg #[v1, v2], Sv x] w fun u w' => ∃ u1 u2, u = .agg #[u1, u2] ∧ Qs M w' eS1 2 u1 u2 (dropK ltS ks x) (dropV ltS ks x vs) := by
 have hm := hmM.sub (M' := Non) (fun _ h _ => h.elim)
 obtain ⟨q1, n1, c1, rfl⟩ := hm.keys.shape; obtain ⟨q2, n2, c2, rfl⟩ := hm.vals.shape
 have hlb := lb_le (lt := ltS) ks x
 have hlen := hm.len
 have hX := Ext.refl Non w
 refine Zfw (args := [_, _]) Tryz.func60 rfl rfl ?_
 refine Zs (ZY rfl ?_); intro b2 w1 hb2 E1 B2
 have hq2 := Zq hX hb2
 replace hX := hX.tr E1
 refine ZT z_82 ?_; intro b4 w2 hb4 E2 B4
 have hn2_4 := Zn B2 hb4
 have hq4 := Zq hX hb4
 have hl4 := Zl hX hb4
 replace hX := hX.tr E2
 replace B2 := Zx B2 E2
 refine Zc (Zs (Zb (Zf f_82_0 rfl) (Zb (Zi p_28 rfl B2 rfl) (Zm ?_))))
 refine Zw zE rfl (bs_s w2 ks x (hm.keys.ext hX (fun _ h => h)) hord hn) ?_; intro v11 w3 E3 R3
 replace hX := hX.tr E3
 replace B2 := Zx B2 E3; replace B4 := Zx B4 E3
 subst R3
 refine Zm ?_
 refine Zb (ZM rfl rfl) (Zb (ZM rfl rfl) (Za (Za ?_)))
 refine Zc (ZC (Zs (Zm ?_)))
 refine Zb (Xy rfl) (Zc ?_)
 refine ZE rfl (fun hc0 => ?_) (fun hc0 => ?_)
 ·have hat : XP ltS ks x = false := by simpa using hc0
  refine Zs (Zb (ZR s_82 rfl rfl B2) (ZS s_82 rfl rfl rfl (Qc rfl rfl) B4 rfl ?_)); intro w4 E4 B4 hz4
  replace hX := hX.mine E4 hl4
  replace B2 := B2.ext E4 (fun h => by omega)
  refine Zc (ZB ?_)
  exact ⟨_, ZD (Xn s_82 rfl B4 rfl), hX, ⟨_, _, rfl, by rw [dropK_no hat, dropV_no hat]; exact hmM.ext hX (fun _ h => h.elim)⟩⟩
 ·have hat : XP ltS ks x = true := by simpa using hc0
  have hltk := X3 hat
  have hne1 : ¬ ks.map eS1 = [] := fun e => by have := congrArg List.length e; rw [List.length_map] at this; simp at this; rw [this] at hltk; simp at hltk
  have hne2 : ¬ vs = [] := fun e => by rw [e] at hlen; simp at hlen; omega
  refine ZF (ZC (Z5 (fun j => j == 15) mixed ?_)); intro w5 E5
  replace hX := hX.tr E5
  replace B2 := Zx B2 E5; replace B4 := Zx B4 E5
  have hS := Ext.refl Non w5
  have hz4 := B4.lt; have hzw := hX.size
  refine Zt 0 [1, 2, 6, 9, 13, 14, 15] rfl hS (Zr (Zf f_82_0 rfl)) (Zt 1 [2, 6, 9, 13, 14, 15] rfl hS (Zv p_28 rfl B2 rfl) (Zt 3 [6, 9, 13, 14, 15] rfl hS Zy ?_))
  refine Zt 4 [5, 6, 9, 13, 14, 15] rfl hS Zy ?_
  refine Zt 5 [6, 9, 13, 14, 15] rfl hS (Zr (ZX rfl rfl (by omega))) (Zt 7 [8, 9, 13, 14, 15] rfl hS (Zr (Zf f_82_1 rfl)) (Zt 8 [9, 13, 14, 15] rfl hS (Zv p_80 rfl B2 rfl) (Zt 10 [13, 14, 15] rfl hS Zy ?_)))
  refine Zt 11 [12, 13, 14, 15] rfl hS Zy ?_
  refine Zt 12 [13, 14, 15] rfl hS (Zr (ZX rfl rfl (by omega))) ?_
  have hsz19 := hS.size
  refine Zo 2 rfl (ZK (Zw zE rfl (clone_s w5 (ks.map eS1) (hm.keys.ext (hX.tr hS) (fun _ h => h)) (eS_one ks) (by first | (rw [List.length_map]; exact hn) | (rw [hlen]; exact hn))) ?_)); intro v19 w6 E6 R6
  replace hS := hS.tr E6
  obtain ⟨o19, hO19, ho19⟩ := R6
  rcases hO19 with ⟨_, h19, _⟩ | ⟨b19, sp19, hoe19, hO19⟩
  exact absurd h19 hne1
  have hge19 := Zle hsz19 (ho19 _ hoe19)
  have hl19_ := hO19.box.lt; have hgo19 := ho19 _ hoe19
  refine Zc ⟨fun _ => hS, ?_⟩
  refine Zo 6 rfl (ZK (ZI (M := (fun x => x = b19)) zE rfl (delete_s w6 (lb ltS ks x) (lb ltS ks x + 1) b19 (ks.map eS1) sp19 hO19 (by omega) (by first | (rw [List.length_map]; omega) | (rw [hlen]; omega)) (eS_one ks) (by first | (rw [List.length_map]; exact hn) | (rw [hlen]; exact hn))) ?_)); intro v23 w7 E7 R7
  obtain ⟨sp23, hO23⟩ := R7
  obtain ⟨a23, l23, c23, rfl⟩ := id hO23.shape
  replace hS := hS.mine E7 (.inr hge19); have hsd23 := E7.size
  refine Zc ⟨fun _ => hS, ?_⟩
  have hsz26 := hS.size
  refine Zo 9 rfl (ZK (Zw zE rfl (clone_e w7 vs (hm.vals.ext (hX.tr hS) (fun _ h => h)) hv1 (by first | (rw [List.length_map]; exact hn) | (rw [hlen]; exact hn))) ?_)); intro v26 w8 E8 hR8
  replace hS := hS.tr E8
  replace hO23 := hO23.ext E8 id
  obtain ⟨o26, O26, ho26⟩ := hR8
  rcases O26 with ⟨_, h26, _⟩ | ⟨b26, sp26, hoe26, O26⟩
  exact absurd h26 hne2
  have hge26 := Zle hsz26 (ho26 _ hoe26)
  have hl26_ := O26.box.lt; have hgo26 := ho26 _ hoe26
  refine Zc ⟨fun _ => hS, ?_⟩
  refine Zo 13 rfl (ZK (ZI (M := (fun x => x = b26)) zE rfl (delete_e w8 (lb ltS ks x) (lb ltS ks x + 1) b26 vs sp26 O26 (by omega) (by first | (rw [List.length_map]; omega) | (rw [hlen]; omega)) hv1 (by first | (rw [List.length_map]; exact hn) | (rw [hlen]; exact hn))) ?_)); intro v30 w9 E9 hR9
  obtain ⟨sp30, hO30⟩ := hR9
  obtain ⟨a30, l30, c30, rfl⟩ := id hO30.shape
  replace hS := hS.mine E9 (.inr hge26); have hsd30 := E9.size
  replace hO23 := hO23.ext E9 (fun e => by omega)
  refine Zc ⟨fun _ => hS, ?_⟩
  refine Zt 14 [15] rfl hS (ZG fun A hA => Z2 b_82 rfl rfl (cs := [.slice a23 l23 c23, .slice a30 l30 c30]) rfl) ?_
  replace hX := hX.tr hS
  replace B2 := Zx B2 hS; replace B4 := Zx B4 hS
  refine Zo 15 rfl (ZK ?_)
  have Bo := B4
  refine ZS s_82 rfl rfl rfl (Qc rfl rfl) B4 rfl ?_; intro w10 E10 B4 hz10
  replace hX := hX.mine E10 hl4
  replace B2 := B2.ext E10 (fun h => by omega)
  replace hO23 := hO23.ext E10 (fun e => by omega)
  replace hO30 := hO30.ext E10 (fun e => by omega)
  refine Zz ?_
  refine ZZ (by kernel_rfl) ?_ _
  refine ZB ?_
  exact ⟨_, ZD (Xn s_82 rfl B4 rfl), hX, ⟨_, _, rfl, ⟨by rw [dropK_yes eS1 hat]; exact hO23.sl (fun h => by have := hM _ h; omega), by rw [dropV_yes hat]; exact hO30.sl (fun h => by have := hM _ h; omega), dropV_len hm.len⟩⟩⟩
set_option maxHeartbeats 800000 in
theorem mall_iter_se (ks : List Str) (ys : List (Str × Int)) {v1 v2 : Value} (M : Nat → Prop) (w0 : World) (b1 : Nat) (hk : Sl M w0 v1 1 (ks.map eS1)) (hv : Sl M w0 v2 2 (ys.map eE1)) (hle : ys.length = ks.length) (hC1 : Zj w0 b1 [v1, v2]) (h1 : ¬ M b1) :
  J2 Tryz.prog M w0 (.func (.func 322) #[] #[(Zpt b1)]) (fun p : Str × (Str × Int) => #[Sv p.1, .agg #[Sv p.2.1, .int .i64 p.2.2]]) (ks.zip ys) := by
 refine iter_of zE fun l W J Jx hW hX hY => ?_
 obtain ⟨a, c, rfl, _⟩ := hk.len; obtain ⟨a2, c2, rfl, _⟩ := hv.len
 simp only [List.length_map] at hk hv hC1 ⊢
 have hbig : ks.length ≤ big := by obtain ⟨⟨a1, c1, e1, e2, e3, _⟩, _⟩ := hk; simp at e2; omega
 have hbig2 : big = 9223372036854775807 := rfl
 have ea : (#[Value.func (.yield l) #[] #[]] ++ #[(Zpt b1)] : Array Value) = [Value.func (.yield l) #[] #[], (Zpt b1)].toArray := by simp
 rw [ea]
 refine Q2 (R := fun v W' => Tl M w0 W (J (ks.zip ys)) [] W' ∨ Tl M w0 W Jx [] W') Tryz.func322 rfl (by kernel_rfl) rfl ?_
 refine Zs (Zb (Zf f_82_0 rfl) (Zb (Zi p_28 rfl (hC1.ext hX.w0 h1) rfl) (Zb (Z1 Xq rfl) (Zm ?_))))
 refine Zc (ZO (Xt (S := Nat) [0, 1, 6, 7, 8] (fun i => [.func (.yield l) #[] #[], (Zpt b1), .slice a ks.length c, .int .i64 (ks.length : Nat), .int .i64 (i : Nat)]) (fun i A => (Tl M w0 W (J ((ks.zip ys).take i)) [] A) ∧ (i ≤ ks.length)) (fun i => ks.length - i) 0 ⟨rfl, rfl, rfl, rfl, rfl, trivial⟩ ⟨(hX.less (by simp)), Nat.zero_le _⟩ ?_))
 rintro τ0 i A0 ⟨hX, I0⟩
 have hik := I0
 refine Zs (Zb (Xj rfl rfl) (Zc (ZC ?_)))
 refine ZE rfl (fun hc0 => ?_) (fun hc0 => ?_)
 ·have hlt := of_decide_eq_true hc0; simp only [Int.ofNat_lt] at hlt
  obtain ⟨x, hi⟩ : ∃ x, ks[i]? = some x := ⟨_, List.getElem?_eq_getElem hlt⟩
  obtain ⟨y, hj⟩ : ∃ y, ys[i]? = some y := ⟨_, List.getElem?_eq_getElem (by omega)⟩
  obtain ⟨bb, oo, ea⟩ := hk.base (by intro e; have := congrArg List.length e; simp only [List.length_map, List.length_nil] at this; omega); subst ea
  obtain ⟨bb2, oo2, ea2⟩ := hv.base (by intro e; have := congrArg List.length e; simp only [List.length_map, List.length_nil] at this; omega); subst ea2
  have hz := zip_take_add hi hj
  have htk : (ks.zip ys).take (i + 1) = (ks.zip ys).take i ++ [(x, y)] := by rw [List.take_add_one, hz]; rfl
  have hsp : (ks.zip ys) = (ks.zip ys).take i ++ (x, y) :: (ks.zip ys).drop (i + 1) := by obtain ⟨h1, h2⟩ := List.getElem?_eq_some_iff.1 hz; rw [← h2, List.getElem_cons_drop, List.take_append_drop]
  refine ZF (ZC (ZO (Zs (Zm ?_))))
  refine Zb (ZH Xq rfl rfl (by omega)) (Zb (Xb p_9 rfl ((hk.ext hX.w0 (fun _ h => h)).at0 (eS_at hi) rfl)) (Za (Za ?_)))
  refine Zc (Zs (Zm (Zm ?_)))
  refine Zb (Zf f_82_1 rfl) (Zb (Zi p_80 rfl (hC1.ext hX.w0 h1) rfl) (Zm ?_))
  refine Zb (ZH X9 rfl rfl (by omega)) (Zb (XC s_138 rfl rfl ((hv.ext hX.w0 (fun _ h => h)).all0 (eE_at hj))) ?_)
  refine J3 rfl rfl (hY _ _ _ _ _ hsp hX) ?_; rintro b20 w1 ⟨E1, hyT, hyF⟩
  refine Zb (Xy rfl) (Zc ?_)
  refine ZE rfl (fun hc1 => ?_) (fun hc1 => ?_)
  ·refine ZB ?_
   first | exact ⟨_, rfl, .inr ((hyF (by simpa using hc1)).less (by simp))⟩ | exact ⟨_, rfl, .inl (by have hge := of_decide_eq_false hc0; simp only [Int.ofNat_lt, Nat.not_lt] at hge; have hie : i = ks.length := (by omega); subst hie; rw [List.take_of_length_le (by rw [List.length_zip]; omega)] at hX; exact hX.less (by simp))⟩
  ·refine ZF (ZJ (Zb (ZX rfl rfl (by omega)) (Zm ?_)))
   refine Zc ?_
   replace hX := hyT (by simpa using hc1)
   rw [← htk] at hX
   exact ⟨rfl, i + 1, ⟨rfl, rfl, rfl, rfl, rfl, trivial⟩, ⟨(hX.less (by simp)), hlt⟩, by omega⟩
 ·refine XL ?_
  first | exact ⟨_, rfl, .inr ((hyF (by simpa using hc1)).less (by simp))⟩ | exact ⟨_, rfl, .inl (by have hge := of_decide_eq_false hc0; simp only [Int.ofNat_lt, Nat.not_lt] at hge; have hie : i = ks.length := (by omega); subst hie; rw [List.take_of_length_le (by rw [List.length_zip]; omega)] at hX; exact hX.less (by simp))⟩
theorem mall_se (w : World) (ks : List Str) (ys : List (Str × Int)) {v1 v2 : Value} (M : Nat → Prop) (hM : ∀ i, M i → i < w.heap.size) (hk : Sl M w v1 1 (ks.map eS1)) (hv : Sl M w v2 2 (ys.map eE1)) (hle : ys.length = ks.length) : Fn Tryz.prog 290 #[.agg #[v1, v2]] w fun u w' => J2 Tryz.prog M w' u (fun p : Str × (Str × Int) => #[Sv p.1, .agg #[Sv p.2.1, .int .i64 p.2.2]]) (ks.zip ys) := by
 obtain ⟨a, c, rfl, _⟩ := hk.len; obtain ⟨a2, c2, rfl, _⟩ := hv.len
 have hX := Ext.refl Non w
 refine Zfw (args := [_]) Tryz.func290 rfl rfl ?_
 refine Zs (ZY rfl ?_); intro b1 w1 hb1 E1 B1
 have hq1 := Zq hX hb1
 replace hX := hX.tr E1
 refine Za ?_
 refine Zc (Zs (Zb (ZL rfl) (Za ?_)))
 refine Zc (ZB ?_)
 exact ⟨_, ZD (Zh rfl), hX, mall_iter_se ks ys M _ b1 (hk.ext hX.of_non (fun _ h => h)) (hv.ext hX.of_non (fun _ h => h)) hle B1 (fun h => by have := hM _ h; omega)⟩
def kErr (t p : Str) : Int := if Q7 t = false then 2 else if p.length > 16 then 1 else 0
def kK (ks : List Str) (t p : Str) : List Str := if p = [] then dropK ltS ks t else XS ltS ks t
def kY (ks : List Str) (ys : List (Str × Int)) (ver : Int) (t p : Str) : List (Str × Int) := if p = [] then dropV ltS ks t ys else putW ltS ks t ys (p, ver + 1)
theorem putV_eE {ks : List Str} {x : Str} {ys : List (Str × Int)} {y : Str × Int} : putV ltS ks x (ys.map eE1) [Sv y.1, .int .i64 y.2] = (putW ltS ks x ys y).map eE1 := by
 rw [← putW_map]; rfl
set_option maxHeartbeats 800000 in
theorem kput_ok (w : World) (ks : List Str) (ys : List (Str × Int)) (ver : Int) {u1 u2 : Value} (M : Nat → Prop) (hM : ∀ i, M i → i < w.heap.size) (hmM : Qs M w eS1 2 u1 u2 ks (ys.map eE1)) (hord : Xi ltS ks) (hn : ks.length ≤ 100000) (t p : Str) (hnt : t.length ≤ 1000000) (hnp : p.length ≤ 1000000) (hv : 0 ≤ ver ∧ ver ≤ 1000000) : Fn Tryz.prog 29 #[.agg #[u1, u2, .int .i64 ver], Sv t, Sv p] w fun u w' => ∃ x1 x2, u = .tuple #[.agg #[x1, x2, .int .i64 (if kErr t p = 0 then ver + 1 else ver)], .int .i64 (kErr t p)] ∧ Qs M w' eS1 2 x1 x2 (if kErr t p = 0 then kK ks t p else ks) ((if kErr t p = 0 then kY ks ys ver t p else ys).map eE1) := by
 have hm := hmM.sub (M' := Non) (fun _ h _ => h.elim)
 obtain ⟨q1, n1, c1, rfl⟩ := hm.keys.shape; obtain ⟨q2, n2, c2, rfl⟩ := hm.vals.shape
 have hlen : ys.length = ks.length := by have := hm.len; simpa using this
 have hX := Ext.refl Non w
 refine Zfw (args := [_, _, _]) Tryz.func29 rfl rfl ?_
 refine Zs (ZY rfl ?_); intro b3 w1 hb3 E1 B3
 have hq3 := Zq hX hb3
 have hl3 := Zl hX hb3
 replace hX := hX.tr E1
 refine ZT z_84 ?_; intro b6 w2 hb6 E2 B6
 have hn3_6 := Zn B3 hb6
 have hq6 := Zq hX hb6
 have hl6 := Zl hX hb6
 replace hX := hX.tr E2
 replace B3 := Zx B3 E2
 refine Za ?_
 refine Zc (ZC (ZO (Zs (Zm ?_))))
 refine Zw zE rfl (ttopic_ok w2 t hnt) ?_; intro v10 w3 E3 R3
 replace hX := hX.tr E3
 replace B3 := Zx B3 E3; replace B6 := Zx B6 E3
 subst R3
 refine Zb (Xy rfl) (Za ?_)
 refine Zc ?_
 refine ZE rfl (fun hc0 => ?_) (fun hc0 => ?_)
 ·have he : kErr t p = 2 := by unfold kErr; rw [if_pos (by simpa using hc0)]
  refine Zs (Zb (ZR s_84 rfl rfl B3) (ZS s_84 rfl rfl rfl (JY rfl rfl rfl) B6 rfl ?_)); intro w4 E4 B6 hz4
  replace hX := hX.mine E4 hl6
  replace B3 := B3.ext E4 (fun h => by omega)
  refine Za ?_
  refine Zc (ZB ?_)
  exact ⟨_, Qd (Xn s_84 rfl B6 rfl) (Zh rfl), hX, ⟨_, _, by rw [he]; rfl, by rw [he]; exact hmM.ext hX (fun _ h => h.elim)⟩⟩
 ·have ht : Q7 t = true := by simpa using hc0
  refine Zs (Zm ?_)
  refine Zb (Qe Qj rfl) (Zb (Ja rfl rfl) (Za ?_))
  refine Zc ?_
  refine ZE rfl (fun hc1 => ?_) (fun hc1 => ?_)
  ·have he : kErr t p = 1 := by unfold kErr; rw [if_neg (by rw [ht]; simp), if_pos (by have := of_decide_eq_true hc1; omega)]
   refine Zs (Zb (ZR s_84 rfl rfl B3) (ZS s_84 rfl rfl rfl (JY rfl rfl rfl) B6 rfl ?_)); intro w5 E5 B6 hz5
   replace hX := hX.mine E5 hl6
   replace B3 := B3.ext E5 (fun h => by omega)
   refine Za ?_
   refine Zc (ZB ?_)
   exact ⟨_, Qd (Xn s_84 rfl B6 rfl) (Zh rfl), hX, ⟨_, _, by rw [he]; rfl, by rw [he]; exact hmM.ext hX (fun _ h => h.elim)⟩⟩
  ·have he : kErr t p = 0 := by unfold kErr; rw [if_neg (by rw [ht]; simp), if_neg (by have := of_decide_eq_false hc1; omega)]
   refine ZF (Zs ?_)
   have hm3 : Qs (fun i => M i ∨ i = b3 ∨ i = b6) w eS1 2 _ _ ks (ys.map eE1) := hmM.sub (fun i h hi => by rcases h with h | h | h; exact h; omega; omega)
   refine Zb (Zf f_84_1 rfl) (Zb (Zi p_3 rfl B3 rfl) (Zb (ZX rfl rfl (by omega)) (Zb (Zf f_84_1 rfl) (ZN (b := b3) p_3 rfl (by conv => lhs; whnf) rfl rfl B3 Zbl ?_)))); intro w6 E6 B3 hz6
   replace hX := hX.mine E6 hl3
   replace B6 := B6.ext E6 (fun h => by omega)
   refine Zc (ZC (Zs (Zm ?_)))
   refine Zb (Jv rfl rfl) (Zc ?_)
   refine ZE rfl (fun hc2 => ?_) (fun hc2 => ?_)
   ·have hpe : p = [] := of_decide_eq_true hc2
    refine ZJ (Zb (Zf f_84_0 rfl) (Zb (XC s_82 (vs := [_, _]) rfl rfl (B3.part rfl Zbl)) (Zm ?_)))
    have hsz := hX.size; have hz3 := B3.lt; have hz6 := B6.lt
    refine Zw zE rfl (mdrop_se w6 (fun i => M i ∨ i = b3 ∨ i = b6) (fun i h => by rcases h with h | h | h; exact Zlt (hM i h) hX.size; rw [h]; exact B3.lt; rw [h]; exact B6.lt) ks (ys.map eE1) t (hm3.ext hX (fun _ h => h.elim)) hord (by omega) (eE_one ys)) ?_; intro v27 w7 E7 R7
    replace hX := hX.tr E7
    replace B3 := Zx B3 E7; replace B6 := Zx B6 E7
    obtain ⟨x1, x2, rfl, hM27⟩ := R7; obtain ⟨e1, l1, g1, rfl⟩ := id hM27.keys.shape; obtain ⟨e2, l2, g2, rfl⟩ := id hM27.vals.shape
    refine Zb (Zf f_84_0 rfl) ?_
    have Bo := B3
    refine J4 (b := b3) s_82 rfl rfl rfl (Qc rfl rfl) B3 Zbl ?_; intro w8 E8 B3 hz8
    replace hX := hX.mine E8 hl3
    replace B6 := B6.ext E8 (fun h => by omega)
    replace hM27 := hM27.ext E8 (fun i e => by first | exact .inr (.inl e) | exact .inr (.inr e))
    refine Zc (Zs (Zb (ZR s_84 rfl rfl B3) ?_))
    have Bo := B6
    refine ZS s_84 rfl rfl rfl (JY rfl rfl rfl) B6 rfl ?_; intro w9 E9 B6 hz9
    replace hX := hX.mine E9 hl6
    replace B3 := B3.ext E9 (fun h => by omega)
    replace hM27 := hM27.ext E9 (fun i e => by first | exact .inr (.inl e) | exact .inr (.inr e))
    refine Za ?_
    refine Zc (ZB ?_)
    exact ⟨_, Qd (Xn s_84 rfl B6 rfl) (Zh rfl), hX, ⟨_, _, by rw [he]; rfl, by rw [he]; show Qs M _ eS1 2 _ _ (kK ks t p) ((kY ks ys ver t p).map eE1); unfold kK kY; rw [if_pos hpe, if_pos hpe, ← dropV_map]; exact hM27.sub (fun i h _ => .inl h)⟩⟩
   ·have hpe : ¬ p = [] := of_decide_eq_false hc2
    refine ZJ (Zb (Zf f_84_0 rfl) (Zb (XC s_82 (vs := [_, _]) rfl rfl (B3.part rfl Zbl)) (Zm (Zm ?_))))
    refine Zb (Zf f_84_1 rfl) (Zb (Zi p_3 rfl B3 rfl) (Zb (Z2 b_138 rfl rfl (cs := _) rfl) ?_))
    have hsz := hX.size; have hz3 := B3.lt; have hz6 := B6.lt
    refine Zw zE rfl (mput_se w6 ks (ys.map eE1) t (hm.ext hX (fun _ h => h)) hord (by omega) (eE_one ys) (Sv p) (.int .i64 (ver + 1)) rfl rfl) ?_; intro v36 w10 E10 hR10
    replace hX := hX.tr E10
    replace B3 := Zx B3 E10; replace B6 := Zx B6 E10
    obtain ⟨x1, x2, rfl, hM36⟩ := hR10; obtain ⟨e1, l1, g1, rfl⟩ := id hM36.keys.shape; obtain ⟨e2, l2, g2, rfl⟩ := id hM36.vals.shape
    replace hM36 := hM36.sub (M' := (fun i => M i ∨ i = b3 ∨ i = b6)) (fun i h _ => by show i < _; rcases h with h | h | h; have := hM i h; omega; omega; omega)
    refine Zb (Zf f_84_0 rfl) ?_
    have Bo := B3
    refine J4 (b := b3) s_82 rfl rfl rfl (Qc rfl rfl) B3 Zbl ?_; intro w11 E11 B3 hz11
    replace hX := hX.mine E11 hl3
    replace B6 := B6.ext E11 (fun h => by omega)
    replace hM36 := hM36.ext E11 (fun i e => by first | exact .inr (.inl e) | exact .inr (.inr e))
    refine Zc (Zs (Zb (ZR s_84 rfl rfl B3) ?_))
    have Bo := B6
    refine ZS s_84 rfl rfl rfl (JY rfl rfl rfl) B6 rfl ?_; intro w12 E12 B6 hz12
    replace hX := hX.mine E12 hl6
    replace B3 := B3.ext E12 (fun h => by omega)
    replace hM36 := hM36.ext E12 (fun i e => by first | exact .inr (.inl e) | exact .inr (.inr e))
    refine Za ?_
    refine Zc (ZB ?_)
    exact ⟨_, Qd (Xn s_84 rfl B6 rfl) (Zh rfl), hX, ⟨_, _, by rw [he]; rfl, by rw [he]; show Qs M _ eS1 2 _ _ (kK ks t p) ((kY ks ys ver t p).map eE1); unfold kK kY; rw [if_neg hpe, if_neg hpe, ← putV_eE]; exact hM36.sub (fun i h _ => .inl h)⟩⟩
theorem Ts.grow0 {M : Nat → Prop} {w0 W A : World} {J : (Nat → Prop) → World → Prop} {S : Nat → Prop} (h : Ts M w0 W J S A) : Ts M w0 W J (fun i => S i ∨ (A.heap.size ≤ i ∧ i < A.heap.size)) A := h.less fun i hi => hi.elim id (fun e => absurd e.1 (by omega))
theorem Ts.grow {M F : Nat → Prop} {w0 W A B C : World} {J : (Nat → Prop) → World → Prop} {S : Nat → Prop} (h : Ts M w0 W J (fun i => S i ∨ (A.heap.size ≤ i ∧ i < B.heap.size)) B) (hE : Ext F B C) (hF : ∀ i, F i → S i ∨ (A.heap.size ≤ i ∧ i < B.heap.size)) :
  Ts M w0 W J (fun i => S i ∨ (A.heap.size ≤ i ∧ i < C.heap.size)) C := (h.add hE hF).less fun i hi => by
 rcases hi with hi | hi
 ·exact .inl (.inl hi)
 ·rcases Nat.lt_or_ge i B.heap.size with h' | h'
  ·exact .inl (.inr ⟨hi.1, h'⟩)
  ·exact .inr ⟨h', hi.2⟩
def TellsM (M : Nat → Prop) (fk : FuncId) (cap : Array Value) (w : World) (p : Str → Bool) : Prop := Xa Tryz.prog fk = true ∧ ∀ (A : World) (x : Str), x.length ≤ 1000000 → Ext M w A → Fn Tryz.prog fk (#[Sv x] ++ cap) A fun u _ => u = .bool (p x)
def eM1 (p : Str × (Str × Int)) : List Value := [Sv p.1, Sv p.2.1, .bool true]
set_option maxHeartbeats 1600000 in
theorem some_iter (ks : List Str) (ys : List (Str × Int)) (ver : Int) {u1 u2 : Value} (fk : FuncId) (cap : Array Value) (p : Str → Bool) (M : Nat → Prop) (w0 : World) (b1 b2 : Nat) (hm0 : Qs M w0 eS1 2 u1 u2 ks (ys.map eE1)) (hn : ks.length ≤ 100000) (hkl : ∀ y ∈ ks, y.length ≤ 1000000) (hC1 : Zj w0 b1 [u1, u2, .int .i64 ver]) (hC2 : Zj w0 b2 [.func (.func fk) #[] cap]) (h1 : ¬ M b1) (h2 : ¬ M b2) (hp : TellsM M fk cap w0 p) :
  J2 Tryz.prog M w0 (.func (.func 289) #[] #[(Zpt b1), (Zpt b2)]) (fun p : Str × (Str × Int) => #[.agg (eM1 p).toArray]) ((ks.zip ys).filter fun q => p q.1) := by
 refine iter_ofS zE fun l W J Jx hW hT hY => ?_
 replace hT := hT.all0
 obtain ⟨q1, n1, c1, rfl⟩ := hm0.keys.shape; obtain ⟨q2, n2, c2, rfl⟩ := hm0.vals.shape
 have hlen : ys.length = ks.length := by have := hm0.len; simpa using this
 have ea : (#[Value.func (.yield l) #[] #[]] ++ #[(Zpt b1), (Zpt b2)] : Array Value) = [Value.func (.yield l) #[] #[], (Zpt b1), (Zpt b2)].toArray := by simp
 rw [ea]
 have hX := Ext.refl Tru W
 have B1 := hC1.ext hW h1; have B2 := hC2.ext hW h2
 have hl1 : Xo Tru W b1 := .inl trivial; have hl2 : Xo Tru W b2 := .inl trivial
 refine Q2 (R := fun v W' => Ts M w0 W (J ((ks.zip ys).filter fun q => p q.1)) Non W' ∨ Ts M w0 W Jx Non W') Tryz.func289 rfl (by kernel_rfl) rfl ?_
 refine Zs (ZP (by conv => lhs; whnf) rfl ?_); intro b3 w1 hb3 E1 B3
 have hn1_3 := Zn B1 hb3
 have hn2_3 := Zn B2 hb3
 have hq3 : W.heap.size ≤ b3 := Zle hX.size hb3
 replace hX := hX.tr E1
 replace B1 := Zx B1 E1; replace B2 := Zx B2 E1
 replace hT := hT.allT E1
 refine Zc (Zs ?_)
 have hz3 := B3.lt; have hW2 := hX.size; have hzC2 := hC2.lt
 have hkk : Sl (fun i => (M i ∨ w0.heap.size ≤ i) ∧ i < w1.heap.size) w1 _ 1 (ks.map eS1) := (((hm0.keys.sub (M' := fun i => M i ∨ w0.heap.size ≤ i) (fun i h hi => h.resolve_right (by omega))).ext hW (fun i h => .inl h)).ext E1 (fun _ h => h.elim)).sub (fun i h _ => h.1)
 have hvv : Sl (fun i => (M i ∨ w0.heap.size ≤ i) ∧ i < w1.heap.size) w1 _ 2 (ys.map eE1) := (((hm0.vals.sub (M' := fun i => M i ∨ w0.heap.size ≤ i) (fun i h hi => h.resolve_right (by omega))).ext hW (fun i h => .inl h)).ext E1 (fun _ h => h.elim)).sub (fun i h _ => h.1)
 refine Zb (Zf f_84_0 rfl) (Zb (XC s_82 (vs := [_, _]) rfl rfl (B1.part rfl Zbl)) (Zw zE rfl (mall_se w1 ks ys (fun i => (M i ∨ w0.heap.size ≤ i) ∧ i < w1.heap.size) (fun i h => h.2) hkk hvv hlen) ?_)); intro v8 w2 E2 R2
 replace hX := hX.tr E2
 replace B1 := Zx B1 E2; replace B2 := Zx B2 E2; replace B3 := Zx B3 E2
 replace hT := hT.allT E2
 have It := R2; obtain ⟨fi, ci, hfi, _⟩ := id It; subst hfi
 have hz38 := E2.size
 refine Zc (ZO ?_)
 have hszr := hX.size
 refine Qb (M := fun i => (M i ∨ w0.heap.size ≤ i) ∧ i < w1.heap.size) (w0 := w2) (I := fun pre N A => Box N A b2 [.func (.func fk) #[] cap] ∧ Box N A b3 [.func (.yield l) #[] #[]] ∧ Ext Tru W A ∧ MkN W [] N A ∧ (Ts M w0 W (J (pre.filter fun q => p q.1)) (fun i => Al W w2 i ∨ N i) A) ∧ (True)) (X := fun c N A => c = .ret ∧ Ext Tru W A ∧ MkN W [] N A ∧ (Ts M w0 W Jx (fun i => Al W w2 i ∨ N i) A) ∧ (True)) (encs := fun q : Str × (Str × Int) => [Sv q.1, .agg #[Sv q.2.1, .int .i64 q.2.2]]) (xs := ks.zip ys) rfl (It) (Ext.refl _ w2) (fun _ => rfl) (fun pre => (Z6.box _ _).and ((Z6.box _ _).and ((Z6.oldM hX.size).and ((Z6.mk _ _).and ((Ts.stabS _ _ _ _ _).and ((Z6.pure _))))))) (fun c => (Z6.pure _).and ((Z6.oldM hX.size).and ((Z6.mk _ _).and ((Ts.stabS _ _ _ _ _).and ((Z6.pure _)))))) ⟨⟨B2, id⟩, ⟨B3, id⟩, hX, ⟨Mk.nil, fun r h => by cases h⟩, hT.less (fun i hi => hi.elim id (fun h => h.elim)), trivial⟩ ?_ ?_ ?_
 ·rintro l N pre x A hl hN hA hst ⟨hK2, K3, hXo, Dk, hT, Ir⟩ ⟨post, hpre⟩
  have B2 := hK2.1
  have B3 := K3.1
  have hX := Ext.refl (Yc (fun i => (M i ∨ w0.heap.size ≤ i) ∧ i < w1.heap.size) w2 N) A
  replace hT := Ts.grow0 hT
  refine Zs (Za ?_)
  refine Zc (ZJ (ZT z_138 ?_)); intro b5 w3 hb5 E3 B5
  have hn2_5 := Zn B2 hb5
  have hn3_5 := Zn B3 hb5
  have hq5 : A.heap.size ≤ b5 := Zle hX.size hb5
  have hl5 : Xo (Yc (fun i => (M i ∨ w0.heap.size ≤ i) ∧ i < w1.heap.size) w2 N) A b5 := .inr hq5
  have ho5 : W.heap.size ≤ b5 := Zle hXo.size hb5
  replace hX := hX.tr E3
  replace B2 := Zx B2 E3; replace B3 := Zx B3 E3
  replace hXo := hXo.tr E3
  replace Dk := Dk.non E3
  replace hT := hT.grow E3 (fun _ h => h.elim)
  have Bo := B5
  refine ZS s_138 rfl rfl rfl (Qc rfl rfl) B5 rfl ?_; intro w4 E4 B5 hz4
  replace hX := hX.mine E4 hl5
  replace B2 := B2.ext E4 (fun h => by omega); replace B3 := B3.ext E4 (fun h => by omega)
  replace hXo := hXo.mine E4 (.inl trivial)
  replace Dk := Dk.box E4 Bo
  replace hT := hT.grow E4 (fun i e => .inr (by rw [e]; exact ⟨hq5, Bo.lt⟩))
  refine Zc ?_
  refine ⟨rfl, hX, fun A2 E2r hz2r hst2 => ?_⟩
  have hNl := (hN l hl).2
  replace B2 := B2.ext E2r (fun e => hK2.2 (by rw [e]; exact hl))
  replace B3 := B3.ext E2r (fun e => K3.2 (by rw [e]; exact hl))
  replace B5 := B5.ext E2r (fun e => by omega)
  replace hXo := hXo.mine E2r (.inr (Zle hszr (hN l hl).1)); replace Dk := Dk.lp E2r hl
  replace hT := hT.grow E2r (fun i e => .inl (.inr (by rw [e]; exact hl)))
  have hl5 : Xo (Yc (fun i => (M i ∨ w0.heap.size ≤ i) ∧ i < w1.heap.size) w2 N) A2 b5 := .inl ⟨fun h => by have := (hN _ h).2; omega, .inr (by omega)⟩
  have hX := Ext.refl (Yc (fun i => (M i ∨ w0.heap.size ≤ i) ∧ i < w1.heap.size) w2 N) A2
  have hxl : x.1.length ≤ 1000000 := hkl _ (List.of_mem_zip (by rw [hpre]; simp : (x.1, x.2) ∈ ks.zip ys)).1
  refine ZO ?_
  refine Zs (Zb (Zi p_70 rfl B2 rfl) (Zm ?_))
  refine wl_tell (s := x.1) rfl hp.1 rfl (hp.2 A2 x.1 hxl hT.w0) ?_; intro w5 E5
  replace hX := hX.tr E5
  replace B2 := Zx B2 E5; replace B3 := Zx B3 E5; replace B5 := Zx B5 E5
  replace hXo := hXo.tr E5
  replace Dk := Dk.non E5
  replace hT := hT.grow E5 (fun _ h => h.elim)
  refine Zm ?_
  refine Z3 (d := 14) rfl (fun hg14 => ?_) (fun hg14 => ?_)
  ·refine Zu rfl (Zcb hg14) (Zb (Zi p_306 rfl B3 rfl) (Zu rfl (Zcb hg14) (Zm ?_)))
   refine Zu rfl (Zcb hg14) (Zb (Zf f_138_0 rfl) (Zu rfl (Zcb hg14) (Zb (Zi p_9 rfl B5 rfl) (Zu rfl (Zcb hg14) (Zb (Z2 b_35 rfl rfl (cs := _) rfl) (Zu rfl (Zcb hg14) (J3 rfl rfl (hY (pre.filter fun q => p q.1) x (post.filter fun q => p q.1) _ w5 (by rw [hpre, List.filter_append, List.filter_cons_of_pos (by exact hg14)]) hT) ?_))))))); intro y20 w6 ⟨E6, hyT, hyF⟩
   replace hX := hX.trans (E6.mono fun i h => ⟨fun hn => h.1 (.inl (.inr hn)), (Nat.lt_or_ge i w2.heap.size).elim (fun h4 => .inl ⟨h.2, (Nat.lt_or_ge i w1.heap.size).elim id (fun h3 => absurd (Or.inl (Or.inl ⟨Zle hW2 h3, h4⟩)) h.1)⟩) .inr⟩)
   replace hXo := hXo.trans (E6.mono fun _ _ => trivial); replace Dk : MkN W [] N w6 := ⟨Mk.nil, fun r h => by cases h⟩
   replace B2 := B2.ext E6 (fun h => h.2.elim h2 (fun e => by omega)); replace B3 := B3.ext E6 (fun h => h.1 (.inl (.inl ⟨hq3, by omega⟩)))
   refine Zu rfl (Zcb hg14) (Zb (Xy rfl) (Zb (Z8 (Zcb hg14) (by conv => lhs; whnf)) ?_))
   refine Zc ?_
   refine ZE rfl (fun hc0 => ?_) (fun hc0 => ?_)
   ·have hTx := (hyF (by simpa using hc0)).less (S' := fun i => Al W w2 i ∨ N i) (fun i h => .inl h)
    refine ZB ?_
    exact ⟨hX, rfl, hXo, Dk, hTx, trivial⟩
   ·replace hT := hyT (by simpa using hc0)
    refine ZF ?_
    exact ⟨hX, ⟨B2, hK2.2⟩, ⟨B3, K3.2⟩, hXo, Dk, (by rw [List.filter_append, List.filter_cons_of_pos (by exact hg14), List.filter_nil]; exact hT.less (fun i h => .inl h)), trivial⟩
  ·refine ZU rfl (Zcb hg14) (ZU rfl (Zcb hg14) (ZU rfl (Zcb hg14) (ZU rfl (Zcb hg14) (ZU rfl (Zcb hg14) (ZU rfl (Zcb hg14) (ZU rfl (Zcb hg14) (Zb (ZQ (Zcb hg14) (by conv => lhs; whnf)) ?_)))))))
   refine Zc (Xu rfl (ZF ?_))
   exact ⟨hX, ⟨B2, hK2.2⟩, ⟨B3, K3.2⟩, hXo, Dk, (by rw [List.filter_append, List.filter_cons_of_neg (by rw [hg14]; simp), List.filter_nil, List.append_nil]; exact hT.less (fun i h => .inl h)), trivial⟩
 ·rintro N rk w' ⟨hK2, K3, hXo, Dk, hT, Ir⟩ hN hA hr hrd
  have B2 := hK2.1
  have B3 := K3.1
  have hX := hXo; have hD := Dk.add hrd (Zle hszr (hN rk hr).1) hr
  refine hD.leave fun B hB => ?_
  have B2 := B2.ext hB (hD.ne B2)
  have B3 := B3.ext hB (hD.ne B3)
  exact ⟨_, rfl, .inl ((hT.ext hB (fun i hi => .inr (by simp only [List.mem_singleton] at hi; rw [Qi hi]; exact hr))).less (fun _ h => h.elim))⟩
 ·rintro c N rk w' ⟨rfl, hXo, Dk, hTx, Ir⟩ hN hA hr hrd
  have hX := hXo; have hD := Dk.add hrd (Zle hszr (hN rk hr).1) hr
  refine ZB (hD.leave fun B hB => ?_)
  exact ⟨_, rfl, .inr ((hTx.ext hB (fun i hi => .inr (by simp only [List.mem_singleton] at hi; rw [Qi hi]; exact hr))).less (fun _ h => h.elim))⟩
theorem offerF_w (w : World) {M : Nat → Prop} {Q : World → Prop} {b0 b1 : Nat} {tt : Bool} {a : Addr} {c : Nat} {i : Int} {l : List Int} {b77 b78 : Nat} {t : Int} {o : OpD} {nv hv : Value} {x : Xl} (B77 : Zj w b77 (wkC (some ⟨b78, 0, none⟩) t o nv hv x)) (hnv : nv.oneCell' = true) (hxa : 0 ≤ x.a ∧ x.a ≤ 1000) (hxb : 0 ≤ x.b ∧ x.b ≤ 1000) (hM77 : M b77) (hB0 : Zj w b0 [(Zpt b77)]) (B1 : Zj w b1 [.slice (some a) (l.length + 1) c]) {M2 : Nat → Prop} (hL : Sl M2 w (.slice (some a) (l.length + 1) c) 1 ((i :: l).map eI)) (h : ∀ w1, Ext Non w w1 → FnM Tryz.prog M 207 #[(Zpt b78), .int .i64 i, .agg (⟨o.text, o.payload, false⟩ : XI).enc.toArray] w1 fun u w2 => u = .bool tt ∧ Zj w2 b0 [(Zpt b77)] ∧ Zj w2 b77 (wkC (some ⟨b78, 0, none⟩) t o nv hv x) ∧ Q w2) : FnM Tryz.prog M 206 #[(Zpt b0), (Zpt b1)] w fun u w' => ∃ w1, Q w1 ∧ Ext (fun i => i = b77) w1 w' ∧ w'.heap.size = w1.heap.size ∧ (if tt = true then Zj w' b77 (wkC (some ⟨b78, 0, none⟩) t o nv hv { x with a := x.a + 1 }) else Zj w' b77 (wkC (some ⟨b78, 0, none⟩) t o nv hv { x with b := x.b + 1 })) := by
 have hXn := Ext.refl Non w
 have hX := Ext.refl M w
 refine Zfm (args := [_, _]) Tryz.func206 rfl rfl ?_
 refine ZC (Z5 (fun j => j == 18) mixed ?_); intro w1 E1
 replace hX := hX.tr E1
 replace hB0 := Zx hB0 E1; replace B1 := Zx B1 E1; replace B77 := Zx B77 E1
 replace hXn := hXn.tr E1
 have hS := Ext.refl Non w1
 refine Zt 0 [1, 2, 3, 18] rfl hS (Zv Jg rfl hB0 rfl) (Zt 1 [2, 3, 18] rfl hS (Zr (Zg rfl)) (Zt 2 [3, 18] rfl hS (Zr (Zf f_90_0 rfl)) (Zt 3 [18] rfl hS (Zv Jw rfl B77 rfl) (Zt 4 [5, 6, 18] rfl hS (Zv XT rfl B1 rfl) (Zt 5 [6, 18] rfl hS (ZG fun A hA => ZH Xe rfl rfl (by omega)) (Zt 6 [18] rfl hS (ZG fun A hA => Xb p_3 rfl (((hL.ext hXn (fun _ h => h.elim)).ext hA (fun _ h => h.elim)).at0 (show ((i :: l).map eI)[0]? = some (eI i) from rfl) rfl)) ?_))))))
 refine Zt 7 [8, 9, 10, 11, 17, 18] rfl hS (Zv Jg rfl hB0 rfl) (Zt 8 [9, 10, 11, 17, 18] rfl hS (Zr (Zg rfl)) (Zt 9 [10, 11, 17, 18] rfl hS (Zr (Zf f_90_2 rfl)) (Zt 10 [11, 17, 18] rfl hS (Zr (Zf f_42_2 rfl)) (Zt 11 [17, 18] rfl hS (Zv p_9 rfl B77 rfl) (Zt 12 [13, 14, 15, 16, 17, 18] rfl hS (Zv Jg rfl hB0 rfl) (Zt 13 [14, 15, 16, 17, 18] rfl hS (Zr (Zg rfl)) (Zt 14 [15, 16, 17, 18] rfl hS (Zr (Zf f_90_2 rfl)) (Zt 15 [16, 17, 18] rfl hS (Zr (Zf f_42_3 rfl)) ?_))))))))
 refine Zt 16 [17, 18] rfl hS (Zv p_9 rfl B77 rfl) (Zt 17 [18] rfl hS (ZG fun A hA => Z2 b_35 rfl rfl (cs := (⟨o.text, o.payload, false⟩ : XI).enc) rfl) ?_)
 replace hX := hX.tr hS
 replace hB0 := Zx hB0 hS; replace B1 := Zx B1 hS; replace B77 := Zx B77 hS
 replace hXn := hXn.tr hS
 refine Zo 18 rfl (ZK (ZI zE rfl (h w1 hXn) ?_)); intro v20 w2 E2 hR
 obtain ⟨rfl, hB0, B77, hQ⟩ := hR
 replace hX := hX.trans E2
 refine Zz ?_
 refine ZZ (by kernel_rfl) ?_ _
 refine ZE rfl (fun hc0 => ?_) (fun hc0 => ?_)
 ·refine ZJ (Zb (Zi Jg rfl hB0 rfl) (Zb (Zg rfl) (Zb (Zf f_90_5 rfl) (Zb (Zf f_37_1 rfl) (Zb (Zi p_3 rfl B77 rfl) (Zb (ZX rfl rfl (by omega)) (Zb (Zg rfl) (Zb (Zf f_90_5 rfl) ?_))))))))
  refine Zb (Zf f_37_1 rfl) (ZN (b := b77) p_3 rfl (by conv => lhs; whnf) rfl rfl B77 Zbl ?_); intro w3 E3 B77 hz3
  replace hX := hX.mine E3 (.inl hM77)
  have EE := E3; have hzz := hz3
  refine Zc ?_
  exact ⟨_, rfl, hX, ⟨_, hQ, EE, hzz, by rw [if_pos hc0]; exact B77⟩⟩
 ·refine ZJ (Zb (Zi Jg rfl hB0 rfl) (Zb (Zg rfl) (Zb (Zf f_90_5 rfl) (Zb (Zf f_37_2 rfl) (Zb (Zi p_3 rfl B77 rfl) (Zb (ZX rfl rfl (by omega)) (Zb (Zg rfl) (Zb (Zf f_90_5 rfl) ?_))))))))
  refine Zb (Zf f_37_2 rfl) (ZN (b := b77) p_3 rfl (by conv => lhs; whnf) rfl rfl B77 Zbl ?_); intro w4 E4 B77 hz4
  replace hX := hX.mine E4 (.inl hM77)
  have EE := E4; have hzz := hz4
  refine Zc ?_
  exact ⟨_, rfl, hX, ⟨_, hQ, EE, hzz, by rw [if_neg (by rw [hc0]; simp)]; exact B77⟩⟩
theorem publish_w (w : World) {S : Type} {Y : Sys S} {me : Nat} {G : Tg} {r : Out S} {b78 : Nat} (t : Int) (o : OpD) (hk : o.keep = false) (hnt : o.text.length ≤ 1000000) (hnp : o.payload.length ≤ 1000000) (he : kErr o.text o.payload = 0) {f2 : FuncId} {fi2 cap2 : Array Value} {ep pl gp rt : Nat} {q0 q1 q2 q3 : Option Addr} {rv : Value} (B78 : Zj w b78 [.pointer (some ⟨ep, 0, none⟩), .pointer (some ⟨pl, 0, none⟩), .pointer (some ⟨gp, 0, none⟩), .pointer (some ⟨rt, 0, none⟩), .pointer q0, .pointer q1, .pointer q2, .pointer q3, rv, .int .i64 0]) (ht : 0 ≤ t ∧ t ≤ 1000) (h : ∀ (w1 : World) (b36 : Nat), Ext Non w w1 → w.heap.size ≤ b36 → Zj w1 b36 (wkC (some ⟨b78, 0, none⟩) t o (.func (.func f2) fi2 cap2) XV ⟨0, 0, 0, ⟨[], [], false⟩⟩) → MkS Y Tryz.prog me 32 #[.pointer (some ⟨gp, 0, none⟩), XV, .int .i64 (t + 1), .func (.func 34) #[(Zpt b36)] #[]] (Kw me G w b36) w1 r) : FnM Tryz.prog (Wr me G) 9 #[(Zpt b78), .int .i64 t, .agg o.enc.toArray, .func (.func f2) fi2 cap2] w fun u w' => Xh Y Tryz.prog me G w r u w' := by
 have hXn := Ext.refl Non w
 have hX := Ext.refl (Wr me G) w
 refine Zfm (args := [_, _, _, _]) Tryz.func9 rfl rfl ?_
 refine Zs (ZY rfl ?_); intro b6 w1 hb6 E1 B6
 have hn78_6 := Zn B78 hb6
 have hq6 := Zq hX hb6
 replace hX := hX.tr E1
 replace B78 := Zx B78 E1
 replace hXn := hXn.tr E1
 refine Za ?_
 refine Zc (Zs (Zb (Z2 b_84 rfl rfl (cs := [XV, XV, .int .i64 0]) rfl) (Zb (Zf f_42_2 rfl) (Zb (Zi p_9 rfl B6 rfl) (Zb (Zf f_42_3 rfl) (Zb (Zi p_9 rfl B6 rfl) (Zw zE rfl (kput_ok w1 [] [] 0 Non (fun _ h => h.elim) ⟨Sl.nil _ _ _, Sl.nil _ _ _, rfl⟩ List.Pairwise.nil (by decide) o.text o.payload hnt hnp (by decide)) ?_))))))); intro v18 w2 E2 R2
 replace hX := hX.tr E2
 replace B78 := Zx B78 E2; replace B6 := Zx B6 E2
 replace hXn := hXn.tr E2
 obtain ⟨x1, x2, hv18, hMk⟩ := R2
 rw [he] at hv18
 obtain ⟨q1, n1, c1, rfl⟩ := id hMk.keys.shape; obtain ⟨q2, n2, c2, rfl⟩ := id hMk.vals.shape
 subst hv18
 refine Zm ?_
 refine Zb (ZM rfl rfl) (Zb (ZM rfl rfl) (ZT z_84 ?_)); intro b9 w3 hb9 E3 B9
 have hn78_9 := Zn B78 hb9
 have hn6_9 := Zn B6 hb9
 have hq9 := Zq hX hb9
 have hl9 := Zl hX hb9
 replace hX := hX.tr E3
 replace B78 := Zx B78 E3; replace B6 := Zx B6 E3
 replace hXn := hXn.tr E3
 have Bo := B9
 refine ZS s_84 rfl rfl rfl (JY rfl rfl rfl) B9 rfl ?_; intro w4 E4 B9 hz4
 replace hX := hX.mine E4 hl9
 replace B78 := B78.ext E4 (fun h => by omega); replace B6 := B6.ext E4 (fun h => by omega)
 replace hXn := hXn.own E4 hq9
 refine Za ?_
 refine Zc (ZC (Zs (Zm ?_)))
 refine Zb (X2 rfl rfl) (Zm ?_)
 refine Z3 (d := 23) rfl (fun hg23 => ?_) (fun hg23 => ?_)
 ·exact absurd (of_decide_eq_true hg23) (by simp)
 ·refine Zu rfl (Zcb hg23) (Zm ?_)
  refine Zu rfl (Zcb hg23) (Zb (Z9 (by kernel_rfl) rfl rfl) (Zb (ZQ (Zcb hg23) (by conv => lhs; whnf)) ?_))
  refine Zc (Xu rfl (ZF (Zs (Zm (Zm ?_)))))
  refine Zb (ZR s_42 rfl rfl B6) (Zm ?_)
  refine Zb (Z2 b_90 rfl rfl (cs := _) rfl) (ZY rfl ?_); intro b36 w5 hb36 E5 hB36
  have hn78_36 := Zn B78 hb36
  have hn6_36 := Zn B6 hb36
  have hn9_36 := Zn B9 hb36
  have hq36 := Zq hX hb36
  replace hX := hX.tr E5
  replace B78 := Zx B78 E5; replace B6 := Zx B6 E5; replace B9 := Zx B9 E5
  replace hXn := hXn.tr E5
  refine Za ?_
  refine Zc (ZC (Zs (Zb (Zf f_42_4 rfl) (Zb (Zi p_4 rfl B6 rfl) (Zc ?_)))))
  refine ZE rfl (fun hc1 => ?_) (fun hc1 => ?_)
  ·rw [hk] at hc1; cases hc1
  ·refine ZF (ZC (Z5 (fun j => j == 10 || j == 11) mixed ?_)); intro w6 E6
   replace hX := hX.tr E6
   replace B78 := Zx B78 E6; replace B6 := Zx B6 E6; replace B9 := Zx B9 E6; replace hB36 := Zx hB36 E6
   replace hXn := hXn.tr E6
   have hS := Ext.refl Non w6
   refine Zt 0 [1, 10, 11] rfl hS Zy ?_
   refine Zt 2 [3, 4, 5, 10, 11] rfl hS Zy ?_
   refine Zt 3 [4, 5, 10, 11] rfl hS (Zr (Zg rfl)) (Zt 4 [5, 10, 11] rfl hS (Zr (Zf f_90_4 rfl)) (Zt 5 [10, 11] rfl hS (Zv XT rfl hB36 rfl) (Zt 6 [7, 10, 11] rfl hS Zy ?_)))
   refine Zt 7 [10, 11] rfl hS (Zr (ZX rfl rfl (by omega))) (Zt 8 [9, 10, 11] rfl hS Zy ?_)
   refine Zt 9 [10, 11] rfl hS (ZG fun A hA => rn_makeFuncF rfl) (Zo 1 rfl (ZK (Zw zE rfl (Yh w6 (B78.ext hS id)) ?_))); intro v46 w7 E7 R7
   replace hS := hS.tr E7
   subst R7
   refine Zc ⟨fun _ => hS, ?_⟩
   replace hX := hX.tr hS
   replace B78 := Zx B78 hS; replace B6 := Zx B6 hS; replace B9 := Zx B9 hS; replace hB36 := Zx hB36 hS
   replace hXn := hXn.tr hS
   refine Zo 10 rfl (ZK ?_)
   have hXc := hXn
   refine ZI zE rfl (h w7 b36 hXn hq36 hB36) ?_; intro v55 w8 E8 hR
   replace hX := hX.wr (QD (b := b36)) E8
   refine Zz ?_
   refine Zo 11 rfl (ZK (Za ?_))
   refine Zz ?_
   refine ZZ (by kernel_rfl) ?_ _
   refine ZB ?_
   exact ⟨_, ZD (Zh rfl), hX, hR.pre (QD (b := b36)) hXc.size⟩
section
abbrev JX : XI := ⟨[], [], false⟩
def Jq (ab : Int × Int) : Xl := ⟨0, ab.1, ab.2, JX⟩
def PJ {α : Type} (me c : Nat) (o : OpD) (nv : Value) (wb : Nat) (J : α → Tg → World → Prop) (p : α × (Int × Int)) (G : Tg) (w : World) : Prop :=
 Jx me J wb p.1 G w ∧ Bx (wrT me) G w wb (wkC (some ⟨c, 0, none⟩) (me : Nat) o nv XV (Jq p.2))
theorem PJ.stb {α : Type} {me c : Nat} {o : OpD} {nv : Value} {wb : Nat} {J : α → Tg → World → Prop} : Stb me (PJ me c o nv wb J) := fun p G w G' w' h hS => ⟨h.1.same hS, h.2.same hS (.inr (.inr rfl))⟩
section plans
variable {α : Type} (me : Nat) (ψ : α × Xl → St → Out St) (o : OpD)
def pAns (p : α × (Int × Int)) (s : St) : Out St := ⟨true, s, doP (ψ (p.1, Jq p.2))⟩
def fAdv {β : Type} (p : β) (s : St) : Fo β St := ⟨s.advA, p, s.adv⟩
def fUnpin {β : Type} (p : β) (s : St) : Fo β St := ⟨s.unpinA me, p, s.unpinT me⟩
def fPin {β : Type} (p : β) (s : St) : Fo β St := ⟨s.pinA me, p, s.pinT me⟩
def pColl {β : Type} (φ : β → St → Out St) (p : β) (s : St) : Out St := ⟨true, s, doP (Xp fAdv φ p)⟩
def pLeave {β : Type} (φ : β → St → Out St) (p : β) (s : St) : Out St := ⟨true, s, doP (Xp (fUnpin me) (pColl φ) p)⟩
def pFree (qs : List Int) (p : α × (Int × Int)) : St → Out St := Qx (St.unlock ((me : Int) + 1)) qs (pLeave me (pAns ψ) p)
def offA (ab : Int × Int) : Bool := decide (0 ≤ ab.1) && decide (ab.1 ≤ 1000) && decide (0 ≤ ab.2) && decide (ab.2 ≤ 1000)
def offT (b : Bool) (ab : Int × Int) : Int × Int := if b = true then (ab.1 + 1, ab.2) else (ab.1, ab.2 + 1)
def fOff (i : Int) (p : α × (Int × Int)) (s : St) : Fo (α × (Int × Int)) St := ⟨s.putA i && offA p.2, (p.1, offT (s.putB i) p.2), s.put i ⟨o.text, o.payload, false⟩⟩
def QC (φ : α × (Int × Int) → St → Out St) : List Int → α × (Int × Int) → St → Out St
 | [], p => φ p
 | i :: l, p => fun s => ⟨true, s, doP (Xp (fOff o i) (QC φ l) p)⟩
end plans
section
variable {L : Lay} {me : Nat} {α : Type} {J : α → Tg → World → Prop} {ψ : α × Xl → St → Out St} {o : OpD} {nv : Value} {wb b0 b1 : Nat} {G : Tg} {w : World}
theorem Qo {s : St} (hM : (coY L).SM G w s) : FrzM L G w := CoM.frz hM
theorem n_ans (hs : Stb me J) (hn : X1 (coY L) Tryz.prog me (fun p : α × Xl => J p.1) (fun p => #[.agg p.2.enc.toArray]) ψ G w nv) (hB0 : Bx (kpT me) G w b0 [pt wb]) :
  X5 (coY L) Tryz.prog me (PJ me L.c o nv wb J) (pAns ψ) G w (.func (.func 151) #[] #[pt b0]) := by
 refine ⟨_, #[], _, rfl, zE, fun p G' w' s hS hM _ hJ => ?_⟩
 rw [Q6]
 refine again121111_w (Y := coY L) (r := pAns ψ p s) w' hJ.2.1 (JN hn) (hB0.same hS (.inr rfl)).1 fun w1 hE => ?_
 exact answer_mk (J := J) (x := p.1) ((coY L).same hM (ZA hE)) ((hn.same hS).same (ZA hE)) (hs _ _ _ _ _ (hJ.1.get hs) (ZA hE)) hs
theorem n_held {φ : α × (Int × Int) → St → Out St} (hB0 : Bx (kpT me) G w b0 [pt wb]) (hme : me ≤ 1000)
  (hn : ∀ G2 w2, ZV (MyI me) G w G2 w2 → Bx (kpT me) G2 w2 b0 [pt wb] → X1 (coY L) Tryz.prog me (PJ me L.c o nv wb J) (fun _ => #[]) φ G2 w2 (.func (.func 151) #[] #[pt b0])) :
  X5 (coY L) Tryz.prog me (PJ me L.c o nv wb J) φ G w (.func (.func 150) #[] #[pt b0]) := by
 refine ⟨_, #[], _, rfl, zE, fun p G' w' s hS hM ha hJ => ?_⟩
 rw [Q6]
 have hb := hB0.same hS (.inr rfl)
 refine again12111_w (Y := coY L) (r := φ p s) w' hJ.2.1 rfl hb.1 fun w1 hE => ?_
 refine pfree_w (Y := coY L) (r := φ p s) w1 (hJ.2.1.ext hE id) ((Qo hM).core.1.ext hE id) (by omega) fun w2 E2 => ?_
 have SS : ZV Cor G' w' (Kx me (Kx me G' w') w1) w2 := (ZA hE).trans (ZA E2)
 have SI : ZV (MyI me) G' w' (Kx me (Kx me G' w') w1) w2 := (ZA hE).trans (ZA E2)
 have hST : ZV (MyT me) G' w' (Kx me (Kx me G' w') w1) w2 := (ZA hE).trans (ZA E2)
 exact free_mk (stf := St.unlock ((me : Int) + 1)) (lvf := lvf L) (φ := φ) PJ.stb [] _ w2 s p none 0 ((coY L).same hM SS) (freeM_co ((Qo hM).same SS (by unfold Cor; omega)) (by simp) (by omega)) (Sl.nil _ _ _) (hn _ _ (hS.trans SI) (hb.same SI (.inr rfl))) (PJ.stb _ _ _ _ _ hJ hST) ha
theorem n_coll {β : Type} {K : β → Tg → World → Prop} (hK : Stb me K) {φ : β → St → Out St} {fv : Value} (hn : X5 (coY L) Tryz.prog me K φ G w fv) (hB0 : Bx (kpT me) G w b0 [pt wb]) (B1 : Bx (kpT me) G w b1 [fv]) {t : Int} {hv : Value} {xa : β → Xl} (hrec : ∀ p G w, K p G w → Zj w wb (wkC (some ⟨L.c, 0, none⟩) t o nv hv (xa p))) :
  X5 (coY L) Tryz.prog me K (pColl φ) G w (.func (.func 205) #[] #[pt b0, pt b1]) := by
 refine ⟨_, #[], _, rfl, zE, fun p G' w' s hS hM ha hJ => ?_⟩
 rw [Q6]
 refine leave2_w (Y := coY L) (r := pColl φ p s) w' (JN hn) (hrec _ _ _ hJ) (hB0.same hS (.inr rfl)).1 (B1.same hS (.inr rfl)).1 fun w1 hE => ?_
 refine Jp (J := K) (J' := K) (F := fAdv) (ψ := φ) (x := p) ((coY L).same hM (ZA hE)) ⟨_, #[pt L.c], #[], rfl, zE, fun x G2 w2 s2 hS2 hM2 ha2 hJ2 => ?_⟩ ((hn.same hS).same (ZA hE)) (hK _ _ _ _ _ hJ (ZA hE)) hK
 have := adv_co (me := me) (show CoM L G2 w2 s2 from hM2) ha2
 refine FnM.mono (by simpa using this) ?_
 rintro u w3 E3 ⟨G3, t1, t2, t3⟩
 exact ⟨G3, t1, t3, hK _ _ _ _ _ hJ2 t2⟩
theorem n_leave {φ : α × (Int × Int) → St → Out St} (hB0 : Bx (kpT me) G w b0 [pt wb])
  (hn : ∀ G2 w2, ZV (MyI me) G w G2 w2 → Bx (kpT me) G2 w2 b0 [pt wb] → X5 (coY L) Tryz.prog me (PJ me L.c o nv wb J) φ G2 w2 (.func (.func 150) #[] #[pt b0])) :
  X5 (coY L) Tryz.prog me (PJ me L.c o nv wb J) (pLeave me φ) G w (.func (.func 149) #[] #[pt b0]) := by
 refine ⟨_, #[], _, rfl, zE, fun p G' w' s hS hM ha hJ => ?_⟩
 rw [Q6]
 have hb := hB0.same hS (.inr rfl)
 refine again1211_w (Y := coY L) (r := pLeave me φ p s) w' hb.1 fun w1 hE => ?_
 have hb1 := hb.same (ZA (T := MyI me) (me := me) hE) (.inr rfl)
 refine leave_w (Y := coY L) (r := pLeave me φ p s) w1 rfl fun w2 b2 b3 E2 q2 B2 q3 B3 => ?_
 have S1 : ZV (MyI me) (Kx me G' w') w1 (Kx me (Kx me G' w') w1) w2 := ZA E2
 have hb2 := hb1.same S1 (.inr rfl)
 have hST : ZV (MyT me) G' w' (Kx me (Kx me G' w') w1) w2 := (ZA hE).trans (ZA E2)
 refine Jp (J := PJ me L.c o nv wb J) (J' := PJ me L.c o nv wb J) (F := fUnpin me) (ψ := pColl φ) (x := p) ((coY L).same hM ((ZA hE).trans (ZA E2))) ⟨_, #[], _, rfl, zE, fun x G3 w3 s3 S3 M3 ha3 hJ3 => ?_⟩ (n_coll PJ.stb (hn _ _ ((hS.trans (ZA hE)).trans S1) hb2) ⟨B2, Xd q2⟩ ⟨B3, Xd q3⟩ (fun p G w h => h.2.1)) (PJ.stb _ _ _ _ _ hJ hST) PJ.stb
 have hM3' : CoM L G3 w3 s3 := M3
 rw [cap1]
 refine unpC_w w3 hJ3.2.1 hM3'.frz.core.1 ((show Bx (kpT me) (Kx me (Kx me G' w') w1) w2 b2 [pt wb] from ⟨B2, Xd q2⟩).same S3 (.inr rfl)).1 fun w4 E4 => ?_
 refine ((unpin_co (me := me) ((coY L).same M3 (ZA (me := me) E4)) ha3).sub (fun i => wr_kx)).mono ?_
 rintro u w5 E5 ⟨G5, t1, t2, t3⟩
 exact ⟨G5, ZW.trans E4.size t1, t3, PJ.stb _ _ _ _ _ hJ3 ((ZA E4).trans t2)⟩
theorem n_free {φ : α × (Int × Int) → St → Out St} (hme : me ≤ 1000) {qa : Option Addr} {qc : Nat} {qs : List Int} (hqs : ∀ i ∈ qs, 0 ≤ i ∧ i < 12) (hQ : Sl (fun i => ¬ MyI me (G i)) w (.slice qa qs.length qc) 1 (qs.map eI)) (hB0 : Bx (kpT me) G w b0 [pt wb]) (B1 : Bx (kpT me) G w b1 [.slice qa qs.length qc])
  (hn : ∀ G2 w2, ZV (MyI me) G w G2 w2 → Bx (kpT me) G2 w2 b0 [pt wb] → X5 (coY L) Tryz.prog me (PJ me L.c o nv wb J) φ G2 w2 (.func (.func 149) #[] #[pt b0])) :
  X5 (coY L) Tryz.prog me (PJ me L.c o nv wb J) (fun p => Qx (St.unlock ((me : Int) + 1)) qs (φ p)) G w (.func (.func 148) #[] #[pt b0, pt b1]) := by
 refine ⟨_, #[], _, rfl, zE, fun p G' w' s hS hM ha hJ => ?_⟩
 rw [Q6]
 have hb := hB0.same hS (.inr rfl)
 refine again121_w (Y := coY L) (r := Qx (St.unlock ((me : Int) + 1)) qs (φ p) s) w' rfl hb.1 (B1.same hS (.inr rfl)).1 fun w1 hE => ?_
 refine pfree_w (Y := coY L) (r := Qx (St.unlock ((me : Int) + 1)) qs (φ p) s) w1 (hJ.2.1.ext hE id) ((Qo hM).core.1.ext hE id) (by omega) fun w2 E2 => ?_
 have SS : ZV Cor G' w' (Kx me (Kx me G' w') w1) w2 := (ZA hE).trans (ZA E2)
 have SI : ZV (MyI me) G' w' (Kx me (Kx me G' w') w1) w2 := (ZA hE).trans (ZA E2)
 have hST : ZV (MyT me) G' w' (Kx me (Kx me G' w') w1) w2 := (ZA hE).trans (ZA E2)
 exact free_mk (stf := St.unlock ((me : Int) + 1)) (lvf := lvf L) (φ := φ) PJ.stb qs _ w2 s p qa qc ((coY L).same hM SS) (freeM_co ((Qo hM).same SS (by unfold Cor; omega)) hqs (by omega)) (SI.sl (hS.sl hQ)) (hn _ _ (hS.trans SI) (hb.same SI (.inr rfl))) (PJ.stb _ _ _ _ _ hJ hST) ha
theorem n_keep {φ : α × (Int × Int) → St → Out St} (hk : o.keep = false) (hB0 : Bx (kpT me) G w b0 [pt wb])
  (hn : X5 (coY L) Tryz.prog me (PJ me L.c o nv wb J) φ G w (.func (.func 148) #[] #[pt b0, pt b1])) :
  X5 (coY L) Tryz.prog me (PJ me L.c o nv wb J) φ G w (.func (.func 146) #[] #[pt b0, pt b1]) := by
 refine ⟨_, #[], _, rfl, zE, fun p G' w' s hS hM ha hJ => ?_⟩
 rw [Q6]
 refine again12_w (Y := coY L) (r := φ p s) w' (hB0.same hS (.inr rfl)).1 fun w1 hE => ?_
 refine keep_w (Y := coY L) (r := φ p s) w1 zE (hJ.2.1.ext hE id) hk fun w2 E2 => ?_
 have SS : ZV Cor G' w' (Kx me (Kx me G' w') w1) w2 := (ZA hE).trans (ZA E2)
 have SI : ZV (MyI me) G' w' (Kx me (Kx me G' w') w1) w2 := (ZA hE).trans (ZA E2)
 have hST : ZV (MyT me) G' w' (Kx me (Kx me G' w') w1) w2 := (ZA hE).trans (ZA E2)
 obtain ⟨f, fi, cap, e1, e2, h⟩ := hn
 cases e1
 have := h p _ w2 s (hS.trans SI) ((coY L).same hM SS) ha (PJ.stb _ _ _ _ _ hJ hST)
 rw [Q6] at this; rw [cap1]; exact this
end
end
set_option maxHeartbeats 1600000 in
theorem tmatchM_ok (w : World) (t : Tr) {v : Value} (len : Int) (name : Str) (hnn : name.length ≤ 1000000) (U : List Int) (hU : U.length ≤ 1000) {n m : Nat} (hok : t.Ok n m) (hn : n ≤ 1000) (hin : t.In U) (M0 : Nat → Prop) (hM0 : ∀ i, M0 i → i < w.heap.size) (ht : TrM M0 w t v) : Fn Tryz.prog 78 #[.agg #[v, .int .i64 len], Sv name] w fun u w' => Qa M0 w' u (Js t name) := by
 obtain ⟨pa, rfl⟩ := ht.ptr
 have hX := Ext.refl Non w
 refine Zfw (args := [_, _]) Tryz.func78 rfl rfl ?_
 refine Zs (ZY rfl ?_); intro b2 w1 hb2 E1 B2
 have hq2 := Zq hX hb2
 replace hX := hX.tr E1
 refine ZT z_152 ?_; intro b4 w2 hb4 E2 B4
 have hn2_4 := Zn B2 hb4
 have hq4 := Zq hX hb4
 have hl4 := Zl hX hb4
 replace hX := hX.tr E2
 replace B2 := Zx B2 E2
 refine Zc (Zs (ZT z_152 ?_)); intro b5 w3 hb5 E3 B5
 have hn2_5 := Zn B2 hb5
 have hn4_5 := Zn B4 hb5
 have hq5 := Zq hX hb5
 have hl5 := Zl hX hb5
 replace hX := hX.tr E3
 replace B2 := Zx B2 E3; replace B4 := Zx B4 E3
 refine Zc (ZC (Zs (Zm ?_)))
 refine Zw zE rfl (ttopic_ok w3 name hnn) ?_; intro v9 w4 E4 R4
 replace hX := hX.tr E4
 replace B2 := Zx B2 E4; replace B4 := Zx B4 E4; replace B5 := Zx B5 E4
 subst R4
 refine Zb (Xy rfl) (Zc ?_)
 refine ZE rfl (fun hc0 => ?_) (fun hc0 => ?_)
 ·have htp : Q7 name = false := by simpa using hc0
  refine Zs (Zb (ZR XE rfl rfl B5) (ZS XE rfl rfl rfl (Qc rfl rfl) B4 rfl ?_)); intro w5 E5 B4 hz5
  replace hX := hX.mine E5 hl4
  replace B2 := B2.ext E5 (fun h => by omega); replace B5 := B5.ext E5 (fun h => by omega)
  refine Zc (ZB ?_)
  exact ⟨_, ZD (Xn XE rfl B4 rfl), hX, by unfold Js; rw [if_neg (by rw [htp]; simp)]; exact ⟨_, _, [], rfl, ⟨Sl.nil _ _ _, Sl.nil _ _ _, rfl⟩⟩⟩
 ·have htp : Q7 name = true := by simpa using hc0
  obtain ⟨c, hcc⟩ := topic_ne htp
  have h0n : 0 < name.length := (List.getElem?_eq_some_iff.1 hcc).1
  refine ZF (Zs (Zm ?_))
  refine Zb (Qh Qj rfl rfl (by omega) hcc) (Zb (Xc rfl rfl) (ZT z_4 ?_)); intro b6 w6 hb6 E6 B6
  have hn2_6 := Zn B2 hb6
  have hn4_6 := Zn B4 hb6
  have hn5_6 := Zn B5 hb6
  have hq6 := Zq hX hb6
  have hl6 := Zl hX hb6
  replace hX := hX.tr E6
  replace B2 := Zx B2 E6; replace B4 := Zx B4 E6; replace B5 := Zx B5 E6
  refine ZN (b := b6) p_4 rfl (by conv => lhs; whnf) rfl rfl B6 Zbl ?_; intro w7 E7 B6 hz7
  replace hX := hX.mine E7 hl6
  replace B2 := B2.ext E7 (fun h => by omega); replace B4 := B4.ext E7 (fun h => by omega); replace B5 := B5.ext E7 (fun h => by omega)
  refine Zc (Zs (ZT z_221 ?_)); intro b7 w8 hb7 E8 B7
  have hn2_7 := Zn B2 hb7
  have hn4_7 := Zn B4 hb7
  have hn5_7 := Zn B5 hb7
  have hn6_7 := Zn B6 hb7
  have hq7 := Zq hX hb7
  have hl7 := Zl hX hb7
  replace hX := hX.tr E8
  replace B2 := Zx B2 E8; replace B4 := Zx B4 E8; replace B5 := Zx B5 E8; replace B6 := Zx B6 E8
  refine Zc (Zs (Zb (ZL rfl) (ZN (b := b7) p_221 rfl (by conv => lhs; whnf) rfl rfl B7 Zbl ?_))); intro w9 E9 B7 hz9
  replace hX := hX.mine E9 hl7
  replace B2 := B2.ext E9 (fun h => by omega); replace B4 := B4.ext E9 (fun h => by omega); replace B5 := B5.ext E9 (fun h => by omega); replace B6 := B6.ext E9 (fun h => by omega)
  refine Zc (ZC (Z5 (fun j => j == 5) mixed ?_)); intro w10 E10
  replace hX := hX.tr E10
  replace B2 := Zx B2 E10; replace B4 := Zx B4 E10; replace B5 := Zx B5 E10; replace B6 := Zx B6 E10; replace B7 := Zx B7 E10
  have hS := Ext.refl Non w10
  refine Zt 0 [5] rfl hS (Zv p_221 rfl B7 rfl) (Zt 1 [2, 5] rfl hS (Zr (Zf f_103_0 rfl)) (Zt 2 [5] rfl hS (Zv p_101 rfl B2 rfl) (Zt 3 [4, 5] rfl hS Zy ?_)))
  refine Zo 4 rfl (ZK (Zw zE rfl (levelsO_ok w10 name hnn) ?_)); intro v20 w11 E11 hR11
  replace hS := hS.tr E11
  have hL20 := (hR11).sub (M' := (fun i => i = b5 ∨ i = b6 ∨ i = b7 ∨ i = b4 ∨ M0 i)) (fun i h _ => by unfold Old; have := B7.lt; have := B6.lt; have := B5.lt; have := hS.size; have := B4.lt; have := hX.size; rcases h with h | h | h | h | h; omega; omega; omega; omega; have := hM0 i h; omega)
  refine Zc ⟨fun _ => hS, ?_⟩
  replace hX := hX.tr hS
  replace B2 := Zx B2 hS; replace B4 := Zx B4 hS; replace B5 := Zx B5 hS; replace B6 := Zx B6 hS; replace B7 := Zx B7 hS
  refine Zo 5 rfl (ZK ?_)
  replace B6 := B6.cast (show [Value.bool (decide ((c.toNat : Int) = 36))] = [.bool (Ji 36 name)] by rw [headIs_at hcc]; exact congrArg (fun b => [Value.bool b]) (decide_eq_decide.2 ⟨fun h => u8_eq (d := 36) h, fun h => by rw [h]; rfl⟩))
  refine JE (args := [.pointer pa, v20, .bool true]) (cap := #[(Zpt b6), (Zpt b5), (Zpt b7)]) rfl zE rfl (mwalk_ok (Ji 36 name) U b6 b5 b7 (fun i => i = b4 ∨ M0 i) (by omega) (by omega) hn hU (spl 47 name) true w11 t [] (fun i h => by rcases h with h | h; rw [h]; exact B4.lt; exact Zlt (hM0 i h) hX.size) B6 B7 B5 ⟨_, _, [], rfl, ⟨Sl.nil _ _ _, Sl.nil _ _ _, rfl⟩⟩ JI (by simp) ((ht.sub (M' := (fun i => i = b5 ∨ i = b6 ∨ i = b7 ∨ i = b4 ∨ M0 i)) (fun i h hlt => by rcases h with h | h | h | h | h; omega; omega; omega; omega; exact h)).ext hX (fun _ h => h.elim)) hok hin hL20) ?_; rintro _ w12 ⟨v21, rfl, E12, hR12⟩; refine ⟨_, rfl, ?_⟩
  obtain ⟨z1, z2, B5, O21⟩ := hR12
  obtain ⟨_, _, us21, eo21, hMo21⟩ := id O21; cases eo21
  obtain ⟨qa, na, ca, rfl⟩ := id hMo21.keys.shape; obtain ⟨qb, nb, cb, rfl⟩ := id hMo21.vals.shape
  replace hX := hX.mine E12 hl5
  replace B2 := B2.ext E12 (fun e => by omega); replace B4 := B4.ext E12 (fun e => by omega); replace B6 := B6.ext E12 (fun e => by omega); replace B7 := B7.ext E12 (fun e => by omega)
  refine Zz ?_
  refine ZZ (by kernel_rfl) ?_ _
  refine Zs (Zb (ZR XE rfl rfl B5) ?_)
  have Bo := B4
  refine ZS XE rfl rfl rfl (Qc rfl rfl) B4 rfl ?_; intro w13 E13 B4 hz13
  replace hX := hX.mine E13 hl4
  replace B2 := B2.ext E13 (fun h => by omega); replace B5 := B5.ext E13 (fun h => by omega); replace B6 := B6.ext E13 (fun h => by omega); replace B7 := B7.ext E13 (fun h => by omega)
  replace O21 := O21.ext E13 (fun i e => .inr (.inr (.inr (.inl e))))
  refine Zc (ZB ?_)
  exact ⟨_, ZD (Xn XE rfl B4 rfl), hX, by unfold Js; rw [if_pos htp]; exact O21.sub (fun _ h _ => .inr (.inr (.inr (.inr h))))⟩
end Go.Proofs.YtjklgohpminefaaGreatDoorC
