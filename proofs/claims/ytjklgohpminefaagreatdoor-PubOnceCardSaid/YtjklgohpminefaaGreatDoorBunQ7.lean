/- Steps: Load, CAS. -/
import Derived.Test.YtjklgohpminefaaGreatDoorBunQ6
import Derived.Test.YtjklgohpminefaaGreatDoorBunQ2
import Derived.Maps.RangeRun
import Derived.MapKept
import Derived.Test.YtjklgohpminefaaGreatDoorBunQ5

set_option linter.unusedVariables false
set_option linter.unusedSimpArgs false
set_option maxRecDepth 1000000
namespace Go.Proofs.YtjklgohpminefaaGreatDoorC
open Go.RowKit
section
abbrev Kw (me : Nat) (G : Tg) (w : World) (b : Nat) : Tg := gx G w.heap.size fun i => if i = b then wrT me else kpT me
theorem QD {me : Nat} {G : Tg} {w w' : World} {b : Nat} : Tgs me G w (Kw me G w b) w' := Tgs.non fun i _ _ => by by_cases h : i = b <;> simp [h]
theorem kw_b {me : Nat} {G : Tg} {w : World} {b : Nat} (h : w.heap.size ≤ b) : Kw me G w b b = wrT me := (Xd h).trans (by simp)
theorem QW {me : Nat} {G : Tg} {w : World} {b i : Nat} (h : w.heap.size ≤ i) (hn : i ≠ b) : Kw me G w b i = kpT me := (Xd h).trans (by simp [hn])
theorem XU {T : Nat → Prop} {me : Nat} {G : Tg} {w w1 : World} {b : Nat} (hE : Ext Non w w1) : ZV T G w (Kw me G w b) w1 := ZV.gx hE
def Jx {α : Type} (me : Nat) (J : α → Tg → World → Prop) (n : Nat) (x : α) (G : Tg) (w : World) : Prop := ∃ G0 w0, J x G0 w0 ∧ ZV (MyT me) G0 w0 G w ∧ w0.heap.size ≤ n
section
variable {α : Type} {me : Nat} {J : α → Tg → World → Prop} {n : Nat} {x : α} {G G' : Tg} {w w' : World}
theorem Jx.same (h : Jx me J n x G w) (hS : ZV (MyT me) G w G' w') : Jx me J n x G' w' := by obtain ⟨G0, w0, h1, h2, h3⟩ := h; exact ⟨G0, w0, h1, h2.trans hS, h3⟩
theorem Jx.here (h : J x G w) (hS : ZV (MyT me) G w G' w') (hn : w.heap.size ≤ n) : Jx me J n x G' w' := ⟨G, w, h, hS, hn⟩
theorem Jx.write (h : Jx me J n x G w) (hE : Ext (fun i => i = n) w w') : Jx me J n x G w' := by
 obtain ⟨G0, w0, h1, h2, h3⟩ := h
 refine ⟨G0, w0, h1, ⟨⟨hE.os.trans h2.ext.os, hE.tape.trans h2.ext.tape, hE.output.trans h2.ext.output, Zle h2.ext.size hE.size, fun i hi hm => ?_⟩, h2.tag⟩, h3⟩
 exact (hE.block i (Zlt hi h2.ext.size) (fun e => by have h4 : i = n := e; omega)).trans (h2.ext.block i hi hm)
theorem Jx.get (h : Jx me J n x G w) (hs : Stb me J) : J x G w := by obtain ⟨G0, w0, h1, h2, _⟩ := h; exact hs x _ _ _ _ h1 h2
end
theorem Q8 {T : Nat → Prop} {me b : Nat} {G : Tg} {w w' : World} (hE : Ext (fun i => i = b) w w') (hb : G b = wrT me) (hT : ¬ T (wrT me)) : ZV T G w G w' := ⟨hE.mono fun i hi ht => hT (by rw [hi, hb] at ht; exact ht), fun _ _ => rfl⟩
theorem JP {me : Nat} : ¬ Cor (wrT me) := by unfold Cor; simp only [wrT]; omega
theorem myI_wr {me : Nat} : ¬ MyI me (wrT me) := by rintro (h | h) <;> simp only [wrT, kpT] at h <;> omega
theorem Tgs.sized {me : Nat} {G G1 : Tg} {w w1 w2 : World} (h : Tgs me G w G1 w1) (hs : w2.heap.size = w1.heap.size) : Tgs me G w G1 w2 := ⟨h.tag, fun i h1 h2 => h.new i h1 (by omega)⟩
def LoadM {S ρ : Type} (Y : Sys S) (me : Nat) (f : FuncId) (lv : Value) (val : S → ρ) (V : ρ → Value) (G : Tg) (w : World) : Prop :=
 lv.oneCell' = true ∧ lv.cells = #[lv] ∧ ∀ G' w' s, ZV (MyI me) G w G' w' → Y.SM G' w' s → FnM Tryz.prog (Wr me G') f #[lv] w' fun u w1 => u = V (val s) ∧ ∃ G1, Tgs me G' w' G1 w1 ∧ ZV (MyT me) G' w' G1 w1 ∧ Y.SM G1 w1 s
theorem stlR_ok (w : World) {S : Type} {Y : Sys S} {me : Nat} {G : Tg} {r : Out S} {f2 : FuncId} {fi2 cap2 : Array Value} {lv : Value} (hl : lv.cells = #[lv]) (h : ∀ (w1 : World) (b2 b3 b5 : Nat), Ext Non w w1 → b2 ≠ b5 → b3 ≠ b5 → w.heap.size ≤ b2 → Zj w1 b2 [lv] → w.heap.size ≤ b3 → Zj w1 b3 [.func (.func f2) fi2 cap2] → w.heap.size ≤ b5 → Zj w1 b5 [.int .i64 0, .int .i64 0] → MkS Y Tryz.prog me 62 #[.func (.func 128) #[] #[(Zpt b2), (Zpt b5)], .func (.func 130) #[] #[(Zpt b3), (Zpt b5)]] (Kw me G w b5) w1 r) : FnM Tryz.prog (Wr me G) 73 #[lv, .func (.func f2) fi2 cap2] w fun u w' => Xh Y Tryz.prog me G w r u w' := by
 have hXn := Ext.refl Non w
 have hX := Ext.refl (Wr me G) w
 refine Zfm (args := [_, _]) Tryz.func73 rfl rfl ?_
 refine Zs (ZP (by conv => lhs; whnf) hl ?_); intro b2 w1 hb2 E1 B2
 have hq2 := Zq hX hb2
 replace hX := hX.tr E1
 replace hXn := hXn.tr E1
 refine ZP (by conv => lhs; whnf) rfl ?_; intro b3 w2 hb3 E2 B3
 have hn2_3 := Zn B2 hb3
 have hq3 := Zq hX hb3
 replace hX := hX.tr E2
 replace B2 := Zx B2 E2
 replace hXn := hXn.tr E2
 refine Za ?_
 refine Zc (Zs (ZT z_117 ?_)); intro b5 w3 hb5 E3 B5
 have hn2_5 := Zn B2 hb5
 have hn3_5 := Zn B3 hb5
 have hq5 := Zq hX hb5
 replace hX := hX.tr E3
 replace B2 := Zx B2 E3; replace B3 := Zx B3 E3
 replace hXn := hXn.tr E3
 refine Zc (Zs (Zb (ZL rfl) (Zb (ZL rfl) ?_)))
 have hXc := hXn
 refine ZI zE rfl (h w3 b2 b3 b5 hXn (by omega) (by omega) hq2 B2 hq3 B3 hq5 B5) ?_; intro v8 w4 E4 hR
 replace hX := hX.wr (QD (b := b5)) E4
 refine Za ?_
 refine Zc (ZB ?_)
 exact ⟨_, ZD (Zh rfl), hX, hR.pre (QD (b := b5)) hXc.size⟩
theorem stlRF_ok (w : World) {M : Nat → Prop} {Q : World → Prop} {b0 b1 : Nat} {lv : Value} (v : Int × Int) (hl1 : lv.oneCell' = true) (hM : M b1) (hB0 : Zj w b0 [lv]) (h : FnM Tryz.prog M 129 #[lv] w fun u w1 => u = .agg #[.int .i64 v.1, .int .i64 v.2] ∧ Zj w1 b1 [.int .i64 0, .int .i64 0] ∧ Q w1) : FnM Tryz.prog M 128 #[(Zpt b0), (Zpt b1)] w fun u w' => ∃ w1, Q w1 ∧ Ext (fun i => i = b1) w1 w' ∧ Zj w' b1 [.int .i64 v.1, .int .i64 v.2] ∧ w'.heap.size = w1.heap.size := by
 have hX := Ext.refl M w
 refine Zfm (args := [_, _]) Tryz.func128 rfl rfl ?_
 refine ZJ (Zb (Zi p_107 rfl hB0 rfl) (ZI zE rfl h ?_)); intro v3 w1 E1 hR
 obtain ⟨rfl, B1, hQ⟩ := hR
 replace hX := E1
 refine ZS (b := b1) Qv rfl rfl rfl (Qc rfl rfl) B1 rfl ?_; intro w2 E2 B1 hz2
 replace hX := hX.mine E2 (.inl hM)
 have hzz := hz2; have EE := E2
 refine Zc ?_
 exact ⟨_, rfl, hX, ⟨_, hQ, EE, B1, hzz⟩⟩
theorem stlRN_ok (w : World) {S : Type} {Y : Sys S} {me : Nat} {G : Tg} {r : Out S} {b0 b1 : Nat} {f2 : FuncId} {fi2 cap2 : Array Value} (e2 : Xa Tryz.prog f2 = true) (v : Int × Int) (hB0 : Zj w b0 [.func (.func f2) fi2 cap2]) (B1 : Zj w b1 [.int .i64 v.1, .int .i64 v.2]) (h : MkS Y Tryz.prog me f2 (fi2 ++ #[.agg #[.int .i64 v.1, .int .i64 v.2]] ++ cap2) G w r) : FnM Tryz.prog (Wr me G) 130 #[(Zpt b0), (Zpt b1)] w fun u w' => Xh Y Tryz.prog me G w r u w' := by
 have hX := Ext.refl (Wr me G) w
 refine Zfm (args := [_, _]) Tryz.func130 rfl rfl ?_
 refine Zs (Za ?_)
 refine Zc (ZC (Zs (Zb (Zi p_157 rfl hB0 rfl) (Zb (Q3 uf_157 rfl rfl) (Zc (Xu rfl (ZF (ZC ?_))))))))
 refine ZJ (Zb (Zi p_157 rfl hB0 rfl) (Zb (ZR Qv rfl rfl B1) (XW (args := [.agg #[.int .i64 v.1, .int .i64 v.2]]) rfl e2 rfl h ?_))); intro v7 w1 E1 hR
 replace hX := E1
 refine Za ?_
 refine Zc (ZB ?_)
 exact ⟨_, ZD (Zh rfl), hX, hR⟩
section
variable {S : Type} {Y : Sys S} {me : Nat} {α : Type} {J : α → Tg → World → Prop} {ψ : α × (Int × Int) → S → Out S} {G : Tg} {lv nv : Value} {x : α} {s : S} {w : World} {val : S → Int × Int}
theorem stlR_mk (hM : Y.SM G w s) (hl : LoadM Y me 129 lv val (fun v => .agg #[.int .i64 v.1, .int .i64 v.2]) G w) (hn : X1 Y Tryz.prog me (fun p : α × (Int × Int) => J p.1) (fun p => #[(fun v => .agg #[.int .i64 v.1, .int .i64 v.2]) p.2]) ψ G w nv) (hJ : J x G w) (hs : Stb me J) {a : Bool} :
  MkS Y Tryz.prog me 73 #[lv, nv] G w ⟨a, s, doP fun s => ψ (x, val s) s⟩ := by
 obtain ⟨f, fi, cap, rfl, e, h⟩ := hn.call
 refine stlR_ok w hl.2.1 fun w1 b2 b3 b5 hE n2 n3 q2 B2 q3 B3 q5 B5 => ?_
 rw [← doP_thenO (x := x) (F := fun (x : α) s => (⟨true, (x, val s), s⟩ : Fo (α × (Int × Int)) S)) (ψ := ψ) (fun s => ψ (x, val s) s) (fun s => by simp [Xp])]
 refine Jp (J := fun x G w => Jx me J b5 x G w ∧ Bx (wrT me) G w b5 [.int .i64 0, .int .i64 0]) (J' := fun p G w => Jx me J b5 p.1 G w ∧ Bx (wrT me) G w b5 ((fun v => [.int .i64 v.1, .int .i64 v.2]) p.2)) (Y.same hM (XU hE)) ⟨_, #[], _, rfl, zE, fun x' G' w' s' hS hM' _ hJ' => ?_⟩ ⟨_, #[], _, rfl, zE, fun p G' w' s' hS hM' ha' hJ' => ?_⟩ ⟨Jx.here hJ (XU hE) q5, B5, kw_b q5⟩ ?_
 ·have k2 := hS.box B2 (.inr (QW q2 n2))
  have SS := (XU (T := MyI me) (me := me) (G := G) (b := b5) hE).trans hS
  have := stlRF_ok (M := Wr me G') (Q := fun w1 => ∃ G1, Tgs me G' w' G1 w1 ∧ ZV (MyT me) G' w' G1 w1 ∧ Y.SM G1 w1 s') w' (val s') hl.1 (.inr hJ'.2.2) k2 ((hl.2.2 G' w' s' SS hM').mono ?_)
  ·rw [cap1]
   refine this.mono ?_
   rintro u w2 hX ⟨w1', ⟨G1, t1, t2, t3⟩, E1, hB, hz⟩
   have hb5 := hJ'.2.same t2 (.inr (.inr rfl))
   exact ⟨G1, t1.sized hz, Y.same t3 (Q8 E1 hb5.2 JP), (hJ'.1.same t2).write E1, hB, hb5.2⟩
  ·rintro u w1' hX ⟨rfl, G1, t1, t2, t3⟩
   exact ⟨rfl, (hJ'.2.same t2 (.inr (.inr rfl))).1, G1, t1, t2, t3⟩
 ·have k3 := hS.box B3 (.inr (QW q3 n3))
  have SS := (XU (T := MyI me) (me := me) (G := G) (b := b5) hE).trans hS
  have := stlRN_ok (Y := Y) (me := me) (G := G') (r := ψ p s') w' e p.2 k3 hJ'.2.1 (h p G' w' s' SS hM' ha' (hJ'.1.get hs))
  rw [Q6]; exact this
 ·exact fun x G w G' w' h hS => ⟨h.1.same hS, h.2.same hS (.inr (.inr rfl))⟩
end
theorem stlK_ok (w : World) {S : Type} {Y : Sys S} {me : Nat} {G : Tg} {r : Out S} {f2 : FuncId} {fi2 cap2 : Array Value} {lv : Value} (hl : lv.cells = #[lv]) (h : ∀ (w1 : World) (b2 b3 b5 : Nat), Ext Non w w1 → b2 ≠ b5 → b3 ≠ b5 → w.heap.size ≤ b2 → Zj w1 b2 [lv] → w.heap.size ≤ b3 → Zj w1 b3 [.func (.func f2) fi2 cap2] → w.heap.size ≤ b5 → Zj w1 b5 [.pointer none] → MkS Y Tryz.prog me 62 #[.func (.func 236) #[] #[(Zpt b2), (Zpt b5)], .func (.func 238) #[] #[(Zpt b3), (Zpt b5)]] (Kw me G w b5) w1 r) : FnM Tryz.prog (Wr me G) 167 #[lv, .func (.func f2) fi2 cap2] w fun u w' => Xh Y Tryz.prog me G w r u w' := by
 have hXn := Ext.refl Non w
 have hX := Ext.refl (Wr me G) w
 refine Zfm (args := [_, _]) Tryz.func167 rfl rfl ?_
 refine Zs (ZP (by conv => lhs; whnf) hl ?_); intro b2 w1 hb2 E1 B2
 have hq2 := Zq hX hb2
 replace hX := hX.tr E1
 replace hXn := hXn.tr E1
 refine ZP (by conv => lhs; whnf) rfl ?_; intro b3 w2 hb3 E2 B3
 have hn2_3 := Zn B2 hb3
 have hq3 := Zq hX hb3
 replace hX := hX.tr E2
 replace B2 := Zx B2 E2
 replace hXn := hXn.tr E2
 refine Za ?_
 refine Zc (Zs (ZT z_119 ?_)); intro b5 w3 hb5 E3 B5
 have hn2_5 := Zn B2 hb5
 have hn3_5 := Zn B3 hb5
 have hq5 := Zq hX hb5
 replace hX := hX.tr E3
 replace B2 := Zx B2 E3; replace B3 := Zx B3 E3
 replace hXn := hXn.tr E3
 refine Zc (Zs (Zb (ZL rfl) (Zb (ZL rfl) ?_)))
 have hXc := hXn
 refine ZI zE rfl (h w3 b2 b3 b5 hXn (by omega) (by omega) hq2 B2 hq3 B3 hq5 B5) ?_; intro v8 w4 E4 hR
 replace hX := hX.wr (QD (b := b5)) E4
 refine Za ?_
 refine Zc (ZB ?_)
 exact ⟨_, ZD (Zh rfl), hX, hR.pre (QD (b := b5)) hXc.size⟩
theorem stlKF_ok (w : World) {M : Nat → Prop} {Q : World → Prop} {b0 b1 : Nat} {lv : Value} (v : Option Addr) (hl1 : lv.oneCell' = true) (hM : M b1) (hB0 : Zj w b0 [lv]) (h : FnM Tryz.prog M 237 #[lv] w fun u w1 => u = .pointer v ∧ Zj w1 b1 [.pointer none] ∧ Q w1) : FnM Tryz.prog M 236 #[(Zpt b0), (Zpt b1)] w fun u w' => ∃ w1, Q w1 ∧ Ext (fun i => i = b1) w1 w' ∧ Zj w' b1 [.pointer v] ∧ w'.heap.size = w1.heap.size := by
 have hX := Ext.refl M w
 refine Zfm (args := [_, _]) Tryz.func236 rfl rfl ?_
 refine ZJ (Zb (Zi p_108 rfl hB0 rfl) (ZI zE rfl h ?_)); intro v3 w1 E1 hR
 obtain ⟨rfl, B1, hQ⟩ := hR
 replace hX := E1
 refine ZN (b := b1) p_119 rfl (by conv => lhs; whnf) rfl rfl B1 (by simp) ?_; intro w2 E2 B1 hz2
 replace hX := hX.mine E2 (.inl hM)
 have hzz := hz2; have EE := E2
 refine Zc ?_
 exact ⟨_, rfl, hX, ⟨_, hQ, EE, B1, hzz⟩⟩
theorem stlKN_ok (w : World) {S : Type} {Y : Sys S} {me : Nat} {G : Tg} {r : Out S} {b0 b1 : Nat} {f2 : FuncId} {fi2 cap2 : Array Value} (e2 : Xa Tryz.prog f2 = true) (v : Option Addr) (hB0 : Zj w b0 [.func (.func f2) fi2 cap2]) (B1 : Zj w b1 [.pointer v]) (h : MkS Y Tryz.prog me f2 (fi2 ++ #[.pointer v] ++ cap2) G w r) : FnM Tryz.prog (Wr me G) 238 #[(Zpt b0), (Zpt b1)] w fun u w' => Xh Y Tryz.prog me G w r u w' := by
 have hX := Ext.refl (Wr me G) w
 refine Zfm (args := [_, _]) Tryz.func238 rfl rfl ?_
 refine Zs (Za ?_)
 refine Zc (ZC (Zs (Zb (Zi p_247 rfl hB0 rfl) (Zb (Q3 uf_247 rfl rfl) (Zc (Xu rfl (ZF (ZC ?_))))))))
 refine ZJ (Zb (Zi p_247 rfl hB0 rfl) (Zb (Zi p_119 rfl B1 rfl) (XW (args := [.pointer v]) rfl e2 rfl h ?_))); intro v7 w1 E1 hR
 replace hX := E1
 refine Za ?_
 refine Zc (ZB ?_)
 exact ⟨_, ZD (Zh rfl), hX, hR⟩
section
variable {S : Type} {Y : Sys S} {me : Nat} {α : Type} {J : α → Tg → World → Prop} {ψ : α × (Option Addr) → S → Out S} {G : Tg} {lv nv : Value} {x : α} {s : S} {w : World} {val : S → Option Addr}
theorem stlK_mk (hM : Y.SM G w s) (hl : LoadM Y me 237 lv val (fun v => .pointer v) G w) (hn : X1 Y Tryz.prog me (fun p : α × (Option Addr) => J p.1) (fun p => #[(fun v => .pointer v) p.2]) ψ G w nv) (hJ : J x G w) (hs : Stb me J) {a : Bool} :
  MkS Y Tryz.prog me 167 #[lv, nv] G w ⟨a, s, doP fun s => ψ (x, val s) s⟩ := by
 obtain ⟨f, fi, cap, rfl, e, h⟩ := hn.call
 refine stlK_ok w hl.2.1 fun w1 b2 b3 b5 hE n2 n3 q2 B2 q3 B3 q5 B5 => ?_
 rw [← doP_thenO (x := x) (F := fun (x : α) s => (⟨true, (x, val s), s⟩ : Fo (α × (Option Addr)) S)) (ψ := ψ) (fun s => ψ (x, val s) s) (fun s => by simp [Xp])]
 refine Jp (J := fun x G w => Jx me J b5 x G w ∧ Bx (wrT me) G w b5 [.pointer none]) (J' := fun p G w => Jx me J b5 p.1 G w ∧ Bx (wrT me) G w b5 ((fun v => [.pointer v]) p.2)) (Y.same hM (XU hE)) ⟨_, #[], _, rfl, zE, fun x' G' w' s' hS hM' _ hJ' => ?_⟩ ⟨_, #[], _, rfl, zE, fun p G' w' s' hS hM' ha' hJ' => ?_⟩ ⟨Jx.here hJ (XU hE) q5, B5, kw_b q5⟩ ?_
 ·have k2 := hS.box B2 (.inr (QW q2 n2))
  have SS := (XU (T := MyI me) (me := me) (G := G) (b := b5) hE).trans hS
  have := stlKF_ok (M := Wr me G') (Q := fun w1 => ∃ G1, Tgs me G' w' G1 w1 ∧ ZV (MyT me) G' w' G1 w1 ∧ Y.SM G1 w1 s') w' (val s') hl.1 (.inr hJ'.2.2) k2 ((hl.2.2 G' w' s' SS hM').mono ?_)
  ·rw [cap1]
   refine this.mono ?_
   rintro u w2 hX ⟨w1', ⟨G1, t1, t2, t3⟩, E1, hB, hz⟩
   have hb5 := hJ'.2.same t2 (.inr (.inr rfl))
   exact ⟨G1, t1.sized hz, Y.same t3 (Q8 E1 hb5.2 JP), (hJ'.1.same t2).write E1, hB, hb5.2⟩
  ·rintro u w1' hX ⟨rfl, G1, t1, t2, t3⟩
   exact ⟨rfl, (hJ'.2.same t2 (.inr (.inr rfl))).1, G1, t1, t2, t3⟩
 ·have k3 := hS.box B3 (.inr (QW q3 n3))
  have SS := (XU (T := MyI me) (me := me) (G := G) (b := b5) hE).trans hS
  have := stlKN_ok (Y := Y) (me := me) (G := G') (r := ψ p s') w' e p.2 k3 hJ'.2.1 (h p G' w' s' SS hM' ha' (hJ'.1.get hs))
  rw [Q6]; exact this
 ·exact fun x G w G' w' h hS => ⟨h.1.same hS, h.2.same hS (.inr (.inr rfl))⟩
end
theorem cas_ok (w : World) {S : Type} {Y : Sys S} {me : Nat} {G : Tg} {r : Out S} {f2 : FuncId} {fi2 cap2 : Array Value} {lv : Value} (hl : lv.cells = #[lv]) (o q : Int × Int) (h : ∀ (w1 : World) (b4 b5 b6 b7 b9 : Nat), Ext Non w w1 → b4 ≠ b9 → b5 ≠ b9 → b6 ≠ b9 → b7 ≠ b9 → w.heap.size ≤ b4 → Zj w1 b4 [lv] → w.heap.size ≤ b5 → Zj w1 b5 [.int .i64 o.1, .int .i64 o.2] → w.heap.size ≤ b6 → Zj w1 b6 [.int .i64 q.1, .int .i64 q.2] → w.heap.size ≤ b7 → Zj w1 b7 [.func (.func f2) fi2 cap2] → w.heap.size ≤ b9 → Zj w1 b9 [.bool false] → MkS Y Tryz.prog me 62 #[.func (.func 271) #[] #[(Zpt b4), (Zpt b5), (Zpt b6), (Zpt b9)], .func (.func 273) #[] #[(Zpt b7), (Zpt b9)]] (Kw me G w b9) w1 r) : FnM Tryz.prog (Wr me G) 219 #[lv, .agg #[.int .i64 o.1, .int .i64 o.2], .agg #[.int .i64 q.1, .int .i64 q.2], .func (.func f2) fi2 cap2] w fun u w' => Xh Y Tryz.prog me G w r u w' := by
 have hXn := Ext.refl Non w
 have hX := Ext.refl (Wr me G) w
 refine Zfm (args := [_, _, _, _]) Tryz.func219 rfl rfl ?_
 refine Zs (ZP (by conv => lhs; whnf) hl ?_); intro b4 w1 hb4 E1 B4
 have hq4 := Zq hX hb4
 replace hX := hX.tr E1
 replace hXn := hXn.tr E1
 refine ZY rfl ?_; intro b5 w2 hb5 E2 B5
 have hn4_5 := Zn B4 hb5
 have hq5 := Zq hX hb5
 replace hX := hX.tr E2
 replace B4 := Zx B4 E2
 replace hXn := hXn.tr E2
 refine ZY rfl ?_; intro b6 w3 hb6 E3 B6
 have hn4_6 := Zn B4 hb6
 have hn5_6 := Zn B5 hb6
 have hq6 := Zq hX hb6
 replace hX := hX.tr E3
 replace B4 := Zx B4 E3; replace B5 := Zx B5 E3
 replace hXn := hXn.tr E3
 refine ZP (by conv => lhs; whnf) rfl ?_; intro b7 w4 hb7 E4 B7
 have hn4_7 := Zn B4 hb7
 have hn5_7 := Zn B5 hb7
 have hn6_7 := Zn B6 hb7
 have hq7 := Zq hX hb7
 replace hX := hX.tr E4
 replace B4 := Zx B4 E4; replace B5 := Zx B5 E4; replace B6 := Zx B6 E4
 replace hXn := hXn.tr E4
 refine Za ?_
 refine Zc (Zs (ZT z_4 ?_)); intro b9 w5 hb9 E5 B9
 have hn4_9 := Zn B4 hb9
 have hn5_9 := Zn B5 hb9
 have hn6_9 := Zn B6 hb9
 have hn7_9 := Zn B7 hb9
 have hq9 := Zq hX hb9
 have hl9 := Zl hX hb9
 replace hX := hX.tr E5
 replace B4 := Zx B4 E5; replace B5 := Zx B5 E5; replace B6 := Zx B6 E5; replace B7 := Zx B7 E5
 replace hXn := hXn.tr E5
 have Bo := B9
 refine ZN (b := b9) p_4 rfl (by conv => lhs; whnf) rfl rfl B9 Zbl ?_; intro w6 E6 B9 hz6
 replace hX := hX.mine E6 hl9
 replace B4 := B4.ext E6 (fun h => by omega); replace B5 := B5.ext E6 (fun h => by omega); replace B6 := B6.ext E6 (fun h => by omega); replace B7 := B7.ext E6 (fun h => by omega)
 replace hXn := hXn.own E6 hq9
 refine Zc (Zs (Zb (ZL rfl) (Zb (ZL rfl) ?_)))
 have hXc := hXn
 refine ZI zE rfl (h w6 b4 b5 b6 b7 b9 hXn (by omega) (by omega) (by omega) (by omega) hq4 B4 hq5 B5 hq6 B6 hq7 B7 hq9 B9) ?_; intro v12 w7 E7 hR
 replace hX := hX.wr (QD (b := b9)) E7
 refine Za ?_
 refine Zc (ZB ?_)
 exact ⟨_, ZD (Zh rfl), hX, hR.pre (QD (b := b9)) hXc.size⟩
theorem casF_ok (w : World) {M : Nat → Prop} {Q : World → Prop} {b0 b1 b2 b3 : Nat} {lv : Value} {t : Bool} (o q : Int × Int) (hl1 : lv.oneCell' = true) (hM : M b3) (hB0 : Zj w b0 [lv]) (B1 : Zj w b1 [.int .i64 o.1, .int .i64 o.2]) (B2 : Zj w b2 [.int .i64 q.1, .int .i64 q.2]) (h : FnM Tryz.prog M 272 #[lv, .agg #[.int .i64 o.1, .int .i64 o.2], .agg #[.int .i64 q.1, .int .i64 q.2]] w fun u w1 => u = .bool t ∧ Zj w1 b3 [.bool false] ∧ Q w1) : FnM Tryz.prog M 271 #[(Zpt b0), (Zpt b1), (Zpt b2), (Zpt b3)] w fun u w' => ∃ w1, Q w1 ∧ Ext (fun i => i = b3) w1 w' ∧ Zj w' b3 [.bool t] ∧ w'.heap.size = w1.heap.size := by
 have hX := Ext.refl M w
 refine Zfm (args := [_, _, _, _]) Tryz.func271 rfl rfl ?_
 refine ZJ (Zb (Zi p_107 rfl hB0 rfl) (Zb (ZR Qv rfl rfl B1) (Zb (ZR Qv rfl rfl B2) (ZI zE rfl h ?_)))); intro v7 w1 E1 hR
 obtain ⟨rfl, B3, hQ⟩ := hR
 replace hX := E1
 refine ZN (b := b3) p_4 rfl (by conv => lhs; whnf) rfl rfl B3 (by simp) ?_; intro w2 E2 B3 hz2
 replace hX := hX.mine E2 (.inl hM)
 have hzz := hz2; have EE := E2
 refine Zc ?_
 exact ⟨_, rfl, hX, ⟨_, hQ, EE, B3, hzz⟩⟩
theorem casN_ok (w : World) {S : Type} {Y : Sys S} {me : Nat} {G : Tg} {r : Out S} {b0 b1 : Nat} {f2 : FuncId} {fi2 cap2 : Array Value} (e2 : Xa Tryz.prog f2 = true) (t : Bool) (hB0 : Zj w b0 [.func (.func f2) fi2 cap2]) (B1 : Zj w b1 [.bool t]) (h : MkS Y Tryz.prog me f2 (fi2 ++ #[.bool t] ++ cap2) G w r) : FnM Tryz.prog (Wr me G) 273 #[(Zpt b0), (Zpt b1)] w fun u w' => Xh Y Tryz.prog me G w r u w' := by
 have hX := Ext.refl (Wr me G) w
 refine Zfm (args := [_, _]) Tryz.func273 rfl rfl ?_
 refine Zs (Za ?_)
 refine Zc (ZC (Zs (Zb (Zi p_279 rfl hB0 rfl) (Zb (Q3 uf_279 rfl rfl) (Zc (Xu rfl (ZF (ZC ?_))))))))
 refine ZJ (Zb (Zi p_279 rfl hB0 rfl) (Zb (Zi p_4 rfl B1 rfl) (XW (args := [.bool t]) rfl e2 rfl h ?_))); intro v7 w1 E1 hR
 replace hX := E1
 refine Za ?_
 refine Zc (ZB ?_)
 exact ⟨_, ZD (Zh rfl), hX, hR⟩
def CasM {S : Type} (Y : Sys S) (me : Nat) (lv : Value) (o q : Int × Int) (okf : S → Bool) (stf : S → S) (G : Tg) (w : World) : Prop :=
 lv.oneCell' = true ∧ lv.cells = #[lv] ∧ ∀ G' w' s, ZV (MyI me) G w G' w' → Y.SM G' w' s → FnM Tryz.prog (Wr me G') 272 #[lv, .agg #[.int .i64 o.1, .int .i64 o.2], .agg #[.int .i64 q.1, .int .i64 q.2]] w' fun u w1 => u = .bool (okf s) ∧ ∃ G1, Tgs me G' w' G1 w1 ∧ ZV (MyT me) G' w' G1 w1 ∧ Y.SM G1 w1 (stf s)
section
variable {S : Type} {Y : Sys S} {me : Nat} {α : Type} {J : α → Tg → World → Prop} {ψ : α × Bool → S → Out S} {G : Tg} {lv nv : Value} {x : α} {s : S} {w : World} {okf : S → Bool} {stf : S → S} {o q : Int × Int}
theorem cas_mk (hM : Y.SM G w s) (hl : CasM Y me lv o q okf stf G w) (hn : X1 Y Tryz.prog me (fun p : α × Bool => J p.1) (fun p => #[.bool p.2]) ψ G w nv) (hJ : J x G w) (hs : Stb me J) {a : Bool} :
  MkS Y Tryz.prog me 219 #[lv, .agg #[.int .i64 o.1, .int .i64 o.2], .agg #[.int .i64 q.1, .int .i64 q.2], nv] G w ⟨a, s, doP fun s => ψ (x, okf s) (stf s)⟩ := by
 obtain ⟨f, fi, cap, rfl, e, h⟩ := hn.call
 refine cas_ok w hl.2.1 o q fun w1 b4 b5 b6 b7 b9 hE n4 n5 n6 n7 q4 B4 q5 B5 q6 B6 q7 B7 q9 B9 => ?_
 rw [← doP_thenO (x := x) (F := fun (x : α) s => (⟨true, (x, okf s), stf s⟩ : Fo (α × Bool) S)) (ψ := ψ) (fun s => ψ (x, okf s) (stf s)) (fun s => by simp [Xp])]
 refine Jp (J := fun x G w => Jx me J b9 x G w ∧ Bx (wrT me) G w b9 [.bool false]) (J' := fun p G w => Jx me J b9 p.1 G w ∧ Bx (wrT me) G w b9 [.bool p.2]) (Y.same hM (XU hE)) ⟨_, #[], _, rfl, zE, fun x' G' w' s' hS hM' _ hJ' => ?_⟩ ⟨_, #[], _, rfl, zE, fun p G' w' s' hS hM' ha' hJ' => ?_⟩ ⟨Jx.here hJ (XU hE) q9, B9, kw_b q9⟩ ?_
 ·have k4 := hS.box B4 (.inr (QW q4 n4)); have k5 := hS.box B5 (.inr (QW q5 n5)); have k6 := hS.box B6 (.inr (QW q6 n6))
  have SS := (XU (T := MyI me) (me := me) (G := G) (b := b9) hE).trans hS
  have := casF_ok (t := okf s') (M := Wr me G') (Q := fun w1 => ∃ G1, Tgs me G' w' G1 w1 ∧ ZV (MyT me) G' w' G1 w1 ∧ Y.SM G1 w1 (stf s')) w' o q hl.1 (.inr hJ'.2.2) k4 k5 k6 ((hl.2.2 G' w' s' SS hM').mono ?_)
  ·rw [cap1]
   refine this.mono ?_
   rintro u w2 hX ⟨w1', ⟨G1, t1, t2, t3⟩, E1, hB, hz⟩
   have hb5 := hJ'.2.same t2 (.inr (.inr rfl))
   exact ⟨G1, t1.sized hz, Y.same t3 (Q8 E1 hb5.2 JP), (hJ'.1.same t2).write E1, hB, hb5.2⟩
  ·rintro u w1' hX ⟨rfl, G1, t1, t2, t3⟩
   exact ⟨rfl, (hJ'.2.same t2 (.inr (.inr rfl))).1, G1, t1, t2, t3⟩
 ·have k7 := hS.box B7 (.inr (QW q7 n7))
  have SS := (XU (T := MyI me) (me := me) (G := G) (b := b9) hE).trans hS
  have := casN_ok (Y := Y) (me := me) (G := G') (r := ψ p s') w' e p.2 k7 hJ'.2.1 (h p G' w' s' SS hM' ha' (hJ'.1.get hs))
  rw [Q6]; exact this
 ·exact fun x G w G' w' h hS => ⟨h.1.same hS, h.2.same hS (.inr (.inr rfl))⟩
end
end
section
variable {ro : Option Nat} {P : Program} {n : Nat} {Q : QH} {σ : Env} {D : List Deferred} {w : World} {dst : Option Nat} {ty : TypeId} {pos : String} {af : Array Edge} {g : Option (Nat × Bool)}
variable {ops rest : List Oper} {K : Ops}
structure MapI (P : Program) (t key elem : TypeId) (z : Value) : Prop where
 under : P.underlying t = some (.map key elem)
 key : P.underlying key = some (.int .i64)
 zero : (P.info? elem).bind (·.zero) = some z
theorem MapI.run_zero {t key elem : TypeId} {z : Value} (h : MapI P t key elem z) (w : World) : (zeroValue elem).run P w = .ok z w := by
 have := h.zero
 cases hi : P.info? elem with
 | none => simp [hi] at this
 | some i => simp [hi] at this; simp [zeroValue, typeInfo, hi, this]
structure Mi (es : List MapEntry) (clock : Nat) (kvs : List (Int × Value)) : Prop where
 kv : es.map (fun e => (e.key, e.val)) = kvs.map (fun p => (.int .i64 p.1, p.2))
 nodup : (es.map (·.born)).Nodup
 old : ∀ e ∈ es, e.born < clock
def Yj (w : World) (b : Nat) (kvs : List (Int × Value)) : Prop := ∃ es clock, w.heap[b]? = some (.map es clock) ∧ Mi es.toList clock kvs
theorem Yj.lt {b : Nat} {kvs : List (Int × Value)} (h : Yj w b kvs) : b < w.heap.size := by obtain ⟨_, _, h, _⟩ := h; exact (Array.getElem?_eq_some_iff.1 h).1
theorem Yj.ext {M : Nat → Prop} {w' : World} {b : Nat} {kvs : List (Int × Value)} (h : Yj w b kvs) (hE : Ext M w w') (hm : ¬ M b) : Yj w' b kvs := by
 obtain ⟨es, c, h1, h2⟩ := h; exact ⟨es, c, hE.obj h1 hm, h2⟩
def ifind (k : Int) : List (Int × Value) → Nat → Option (Nat × Value)
 | [], _ => none
 | p :: l, i => if k = p.1 then some (i, p.2) else ifind k l (i + 1)
def iget (k : Int) : List (Int × Value) → Option Value
 | [] => none
 | p :: l => if k = p.1 then some p.2 else iget k l
def iput (k : Int) (v : Value) : List (Int × Value) → List (Int × Value)
 | [] => [(k, v)]
 | p :: l => if k = p.1 then (k, v) :: l else p :: iput k v l
theorem findNow_int (k : Int) : ∀ (es : List MapEntry) (kvs : List (Int × Value)) (i : Nat), es.map (fun e => (e.key, e.val)) = kvs.map (fun p => (.int .i64 p.1, p.2)) → Instr.findNow (.int .i64) (.int .i64 k) es i = some (ifind k kvs i)
 | [], [], _, _ => rfl
 | [], _ :: _, _, h => by simp at h
 | _ :: _, [], _, h => by simp at h
 | e :: es, p :: kvs, i, h => by
  simp only [List.map_cons, List.cons.injEq, Prod.mk.injEq] at h
  obtain ⟨⟨h1, h2⟩, h3⟩ := h
  have ih := findNow_int k es kvs (i + 1) h3
  simp only [Instr.findNow, h1, Instr.sameNow, ifind, ih, h2]
  by_cases hk : k = p.1
  ·simp [hk]
  ·have hb : (k == p.1) = false := by simp [hk]
   simp [hk, hb]
theorem ifind_get (k : Int) : ∀ (kvs : List (Int × Value)) (i : Nat), (ifind k kvs i).map (·.2) = iget k kvs
 | [], _ => rfl
 | p :: l, i => by
  unfold ifind iget; split
  ·rfl
  ·exact ifind_get k l (i + 1)
theorem ifind_none {k : Int} {v : Value} : ∀ {kvs : List (Int × Value)} {i : Nat}, ifind k kvs i = none → iput k v kvs = kvs ++ [(k, v)]
 | [], _, _ => rfl
 | p :: l, i, h => by
  unfold ifind at h; unfold iput
  split at h
  ·cases h
  ·rename_i hk; rw [if_neg hk, ifind_none (kvs := l) h]; rfl
theorem ifind_some {k : Int} {v : Value} : ∀ {kvs : List (Int × Value)} {i j : Nat} {u : Value}, ifind k kvs i = some (j, u) → ∃ d, j = i + d ∧ d < kvs.length ∧ iput k v kvs = kvs.set d (k, v) ∧ kvs[d]?.map (·.1) = some k
 | [], _, _, _, h => by cases h
 | p :: l, i, j, u, h => by
  unfold ifind at h; unfold iput
  split at h
  ·rename_i hk
   simp only [Option.some.injEq, Prod.mk.injEq] at h
   exact ⟨0, by omega, by simp, by rw [if_pos hk]; rfl, by simp [hk]⟩
  ·rename_i hk
   obtain ⟨d, h1, h2, h3, h4⟩ := ifind_some (v := v) h
   exact ⟨d + 1, by omega, by simpa using h2, by rw [if_neg hk, h3]; rfl, by simpa using h4⟩
theorem isKeyI (k : Int) : MapKept.IsKey (.int .i64) (.int .i64 k) := rfl
section
variable {t key elem : TypeId} {z : Value} {x y m : Operand} {b : Nat} {kvs : List (Int × Value)} {k : Int}
theorem rn_lookupI1 (hT : MapI P t key elem z) (hx : ev σ x = .map (some b)) (hy : ev σ y = .int .i64 k) (hb : Yj w b kvs) {o : Option Value} (ho : iget k kvs = o) :
  Rn P σ w ⟨dst, .lookup t x y false, ty, pos, af, g⟩ (o.getD z) := by
 obtain ⟨es, clock, h1, h2⟩ := hb
 have hf := findNow_int k es.toList kvs 0 h2.kv
 subst ho
 have hg := ifind_get k kvs 0
 show (execOp (ev σ) _).run P w = _
 cases hm : ifind k kvs 0 with
 | none =>
  rw [hm] at hf hg
  simp only [Option.map_none] at hg
  simp [execOp, hx, hy, Instr.lookup, run_underlying hT.under, MapKept.run_getObj_map h1, MapKept.run_checkKey hT.key (isKeyI k), MapKept.run_findKey hT.key hf, hT.run_zero, Result.andThen, ← hg]
 | some p =>
  obtain ⟨j, u⟩ := p
  rw [hm] at hf hg
  simp only [Option.map_some] at hg
  simp [execOp, hx, hy, Instr.lookup, run_underlying hT.under, MapKept.run_getObj_map h1, MapKept.run_checkKey hT.key (isKeyI k), MapKept.run_findKey hT.key hf, hT.run_zero, Result.andThen, ← hg]
theorem run_mapUpdate_mi (hT : MapI P t key elem z) (hb : Yj w b kvs) (v : Value) :
  ∃ w', (Instr.mapUpdate t (.map (some b)) (.int .i64 k) v).run P w = .ok () w' ∧ Ext (fun i => i = b) w w' ∧ Yj w' b (iput k v kvs) ∧ w'.heap.size = w.heap.size := by
 obtain ⟨es, clock, h1, h2⟩ := hb
 have hf := findNow_int k es.toList kvs 0 h2.kv
 have hlt := (Array.getElem?_eq_some_iff.1 h1).1
 cases hm : ifind k kvs 0 with
 | none =>
  rw [hm] at hf
  refine ⟨w.putObj b (.map (es.push ⟨.int .i64 k, v, clock⟩) (clock + 1)), ?_, Ext.putObj _ _ _ _ rfl, ⟨_, _, World.putObj_heap_same hlt, ?_, ?_, ?_⟩, by simp [World.putObj]⟩
  ·simp [Instr.mapUpdate, run_underlying hT.under, MapKept.run_getObj_map h1, MapKept.run_checkKey hT.key (isKeyI k), MapKept.run_findKey hT.key hf, MapKept.run_setObj_map _ h1, Result.andThen, World.putObj]
  ·rw [ifind_none hm]; simp [h2.kv]
  ·rw [Array.toList_push, List.map_append, List.nodup_append]
   refine ⟨h2.nodup, by simp, ?_⟩
   intro a ha c hc
   simp only [List.map_cons, List.map_nil, List.mem_singleton] at hc
   obtain ⟨e, he, rfl⟩ := List.mem_map.1 ha
   have := h2.old e he; omega
  ·intro e he
   rw [Array.toList_push] at he
   rcases List.mem_append.1 he with he | he
   ·have := h2.old e he; omega
   ·simp only [List.mem_singleton] at he; subst he; exact Nat.lt_succ_self _
 | some p =>
  obtain ⟨j, u⟩ := p
  rw [hm] at hf
  obtain ⟨d, hd1, hd2, hd3, hd4⟩ := ifind_some (v := v) hm
  obtain rfl : j = d := by omega
  have hlen : es.toList.length = kvs.length := by have := congrArg List.length h2.kv; simpa using this
  have hjl : j < es.size := by rw [← Array.length_toList]; omega
  have hkeyj : es[j].key = .int .i64 k := by
   have e1 := congrArg (fun l => l[j]?) h2.kv
   simp only [List.getElem?_map] at e1
   rw [List.getElem?_eq_getElem (by omega : j < es.toList.length)] at e1
   cases hk2 : kvs[j]? with
   | none => rw [hk2] at hd4; cases hd4
   | some q => rw [hk2] at e1 hd4; simp at e1 hd4; rw [e1.1, hd4]
  have hgj : es[j]? = some es[j] := Array.getElem?_eq_getElem hjl
  have hset : (es.modify j fun e => { e with key := .int .i64 k, val := v }).toList = es.toList.set j { es[j] with key := .int .i64 k, val := v } := by
   rw [Array.toList_modify]
   exact ChangeMaps.modify_eq_set _ _ _ _ (by rw [Array.getElem?_toList]; exact hgj)
  refine ⟨w.putObj b (.map (es.modify j fun e => { e with key := .int .i64 k, val := v }) clock), ?_, Ext.putObj _ _ _ _ rfl, ⟨_, _, World.putObj_heap_same hlt, ?_, ?_, ?_⟩, by simp [World.putObj]⟩
  ·simp [Instr.mapUpdate, run_underlying hT.under, MapKept.run_getObj_map h1, MapKept.run_checkKey hT.key (isKeyI k), MapKept.run_findKey hT.key hf, hgj, hkeyj, MapKept.run_keyThatStays (isKeyI k), MapKept.run_setObj_map _ h1, Result.andThen, World.putObj]
  ·rw [hset, hd3, List.map_set, List.map_set, h2.kv]
  ·rw [hset, List.map_set]
   have : (es.toList.map (·.born)).set j es[j].born = es.toList.map (·.born) := by
    have e1 : es[j].born = (es.toList.map (·.born))[j]'(by simpa using hjl) := by simp
    rw [e1, List.set_getElem_self]
   rw [this]; exact h2.nodup
  ·rw [hset]
   intro e he
   rcases List.mem_or_eq_of_mem_set he with he | rfl
   ·exact h2.old e he
   ·exact h2.old es[j] (by simp)
theorem wl_mapUpdateI {v : Value} (hT : MapI P t key elem z) (hm : ev σ m = .map (some b)) (hx : ev σ x = .int .i64 k) (hy : ev σ y = v) (hb : Yj w b kvs)
  (kk : ∀ w', Ext (fun i => i = b) w w' → Yj w' b (iput k v kvs) → w'.heap.size = w.heap.size → wl P ops rest K σ w') : wl P ops (⟨none, .mapUpdate t m x y, ty, pos, af, none⟩ :: rest) K σ w := by
 obtain ⟨w', h1, h2, h3, h4⟩ := run_mapUpdate_mi hT hb v
 refine wl_do (w' := w') ?_ (kk w' h2 h3 h4)
 show (execOp (ev σ) _).run P w = _
 simp [execOp, hm, hx, hy, h1]
theorem mi_nil : Mi [] 0 [] := ⟨rfl, by simp, by simp⟩
theorem ismi_alloc (w : World) : Yj (w.alloc (.map #[] 0)) w.heap.size [] := ⟨#[], 0, by have := World.alloc_heap_new w (.map #[] 0); simpa using this, mi_nil⟩
theorem wl_makeMapI {t : TypeId} {d : Nat} (k : ∀ b w', w.heap.size ≤ b → Ext Non w w' → Yj w' b [] → wl P ops rest K (upd σ d (.map (some b))) w') : wl P ops (⟨some d, .makeMap t none, ty, pos, af, none⟩ :: rest) K σ w := by
 refine QR (w' := w.alloc (.map #[] 0)) (v := .map (some w.heap.size)) ?_ (k _ _ (Nat.le_refl _) (Ext.alloc _ _) (ismi_alloc w))
 show (execOp (ev σ) _).run P w = _
 simp [execOp, Instr.makeMap, newObj]; rfl
end
theorem patch_mid {X r Y vs : List Value} {d : Nat} (h : d + vs.length ≤ r.length) : XZ (X ++ (r ++ Y)) (X.length + d) vs = X ++ (XZ r d vs ++ Y) := by
 unfold XZ
 rw [List.take_append, List.take_of_length_le (Nat.le_add_right _ _), Nat.add_sub_cancel_left, List.take_append_of_le_length (by omega), Nat.add_assoc, List.drop_append, List.drop_of_length_le (Nat.le_add_right _ _), Nat.add_sub_cancel_left, List.drop_append_of_le_length (by omega)]
 simp [List.append_assoc]
theorem flat_set {k : Nat} {rows : List (List Value)} (h : ∀ r ∈ rows, r.length = k) {i d : Nat} {r vs sp : List Value} (hr : rows[i]? = some r) (hd : d + vs.length ≤ k) : XZ (rows.flatten ++ sp) (i * k + d) vs = (rows.set i (XZ r d vs)).flatten ++ sp := by
 obtain ⟨hlt, e⟩ := List.getElem?_eq_some_iff.1 hr
 have hk : r.length = k := h r (List.mem_of_getElem? hr)
 have e1 : rows = rows.take i ++ (r :: rows.drop (i + 1)) := by rw [← e, List.getElem_cons_drop, List.take_append_drop]
 have e2 : (rows.take i).flatten.length = i * k := by rw [XN (fun r hr => h r (List.mem_of_mem_take hr)), List.length_take, Nat.min_eq_left (by omega)]
 have e3 : rows.flatten ++ sp = (rows.take i).flatten ++ (r ++ ((rows.drop (i + 1)).flatten ++ sp)) := by
  conv => lhs; rw [e1]
  simp [List.append_assoc]
 rw [e3, ← e2, patch_mid (by omega), List.set_eq_take_append_cons_drop, if_pos hlt]
 simp [List.append_assoc]
theorem patch_len {r vs : List Value} {d : Nat} (h : d + vs.length ≤ r.length) : (XZ r d vs).length = r.length := by unfold XZ; simp; omega
theorem X6 {t : TypeId} {x y : Operand} {v u : Value} {b i k d : Nat} {a : Addr} {rows : List (List Value)} {spare r : List Value} (hk : (P.info? t).map (·.size) = some u.cells.size) (hx : ev σ x = .pointer (some a)) (ha : a = ⟨b, i * k + d, none⟩) (hy : ev σ y = u) (h1 : ∀ q ∈ u.cells.toList, q.oneCell' = true) (hs : Ow w v b k rows spare) (hr : rows[i]? = some r) (hd : d + u.cells.size ≤ k)
  (kk : ∀ w', Ext (fun i => i = b) w w' → w'.heap.size = w.heap.size → Ow w' v b k (rows.set i (XZ r d u.cells.toList)) spare → wl P ops rest K σ w') : wl P ops (⟨none, .store t x y, ty, pos, af, none⟩ :: rest) K σ w := by
 subst ha
 have hrl : r.length = k := hs.each r (List.mem_of_getElem? hr)
 have hlt := (List.getElem?_eq_some_iff.1 hr).1
 have hsz : u.cells.toList.length = u.cells.size := Array.length_toList
 have hfl := XN hs.each
 obtain ⟨w', h2, h3, h4, h5⟩ := rs_store (dst := none) (ty := ty) (pos := pos) (af := af) (g := none) hk hx hy h1 hs.box (by
  rw [List.length_append, hfl]
  have : (i + 1) * k ≤ rows.length * k := Nat.mul_le_mul_right _ hlt
  rw [Nat.add_mul] at this; omega)
 rw [flat_set hs.each hr (by omega)] at h4
 refine wl_do h2 (kk w' h3 h5 ⟨?_, h4, fun q hq => ?_⟩)
 ·obtain ⟨c, q1, q2, q3, q4⟩ := hs.val
  exact ⟨c, by rw [List.length_set]; exact q1, by rw [List.length_set]; exact q2, q3, by rw [List.length_set]; exact q4⟩
 ·rcases List.mem_or_eq_of_mem_set hq with hq | rfl
  ·exact hs.each q hq
  ·rw [patch_len (by omega)]; exact hrl
theorem rn_indexArr {t e : TypeId} {m k : Nat} (hT : P.underlying t = some (.array m e)) (hk : (P.info? e).map (·.size) = some k) {x y : Operand} {kk : IntKind} {a : Addr} {i : Int} (hx : ev σ x = .pointer (some a)) (hy : ev σ y = .int kk i) (h : 0 ≤ i ∧ i < m) :
  Rn P σ w ⟨dst, .indexAddr t x y, ty, pos, af, g⟩ (.pointer (some (a.add (i.toNat * k)))) := by
 show (execOp (ev σ) _).run P w = _
 cases hi : P.info? e with
 | none => simp [hi] at hk
 | some inf =>
  simp [hi] at hk
  simp [execOp, hx, hy, Instr.indexAt, asIntOf, run_underlying hT, XB hi, Instr.sureAddr, h, hk]
theorem rn_map_eql {t u : TypeId} (ht : (match P.underlying t with | some (.map ..) => true | _ => false) = true) {x y : Operand} {a : Option Nat} (hx : ev σ x = .map a) (hy : ev σ y = .map none) :
  Rn P σ w ⟨dst, .binOp .eql t x y u, ty, pos, af, g⟩ (.bool (a.isNone)) := by
 show (execOp (ev σ) _).run P w = _
 have h1' : ∀ d, (Op.equalIn (d + 1) t (.map a) (.map none)).run P w = .ok (a.isNone) w := by
  intro d
  cases hu : P.underlying t with
  | none => simp [hu] at ht
  | some d => cases d <;> simp [hu] at ht; cases a <;> simp only [Op.equalIn, Sem.run_bind, run_underlying hu, Result.andThen_ok, Sem.run_pure] <;> rfl
 have h1 := h1' 9999
 have h2 : (binOp .eql t (.map a) (.map none)).run P w = .ok (.bool (a.isNone)) w := by
  show (do pure (Value.bool (← Op.equal t (.map a) (.map none)))).run P w = _
  rw [Sem.run_bind]
  rw [show Op.equal t (.map a) (.map none) = Op.equalIn (9999 + 1) t (.map a) (.map none) from rfl, h1]
  rfl
 have h3 : (eqGuard .eql t x y (.map a) (.map none)).run P w = .ok () w := by cases a <;> rfl
 simp only [execOp, hx, hy]
 rw [Sem.run_bind, Sem.run_bind, h3, Result.andThen_ok, h2]
 rfl
end
section
structure PlD where
 tree : Tr
 len : Int
 stamp : Int
 taken : Bool
structure RgD where
 slots : List (XI × Int)
 puts : Int
 gets : Int
 drops : Int
structure St where
 own : List Int
 now : Int
 pin : List Int
 lim : List (List Int)
 pls : List PlD
 free : List Int
 root : Int × Int
 rgs : List RgD
 log : List Z4
 lnow : Int
structure Lay where
 c : Nat
 ep : Nat
 pn : Nat
 pl : Nat
 gp : Nat
 lk : Nat
 rt : Nat
 k0 : Nat
 k1 : Nat
 k2 : Nat
 k3 : Nat
 s0 : Nat
 s1 : Nat
 s2 : Nat
 s3 : Nat
 rv : Value
 rb : List Nat
 rs : List Nat
 lg : Nat
abbrev pt (b : Nat) : Value := .pointer (some ⟨b, 0, none⟩)
def coreC (L : Lay) : List Value := [pt L.ep, pt L.pl, pt L.gp, pt L.rt, pt L.k0, pt L.k1, pt L.k2, pt L.k3, L.rv, .int .i64 0]
def Qk (q : XI × Int) : List Value := [Sv q.1.topic, Sv q.1.payload, .bool q.1.kept, .int .i64 q.2]
def callC (q : Z4) (p : Int) : List Value := ({ q with place := p } : Z4).enc
structure FrzM (L : Lay) (G : Tg) (w : World) : Prop where
 core : Bx 0 G w L.c (coreC L)
 grp : Bx 0 G w L.gp [.slice (some ⟨L.lk, 0, none⟩) 12 12]
 rings : Sl (fun i => ¬ G i = 0) w L.rv 1 (L.rb.map fun b => [pt b])
structure LkM (b : Nat) (own : List Int) (G : Tg) (w : World) : Prop where
 ex : ∃ cs, Bx 3 G w b cs ∧ cs.length = 36 ∧ ∀ i x, own[i]? = some x → cs[3 * i]? = some (.int .i64 x) ∧ (∃ n, cs[3 * i + 1]? = some (.int .i64 n)) ∧ ∃ n, cs[3 * i + 2]? = some (.int .i64 n)
 len : own.length = 12
structure EpM (b pn : Nat) (now : Int) (pin : List Int) (lim : List (List Int)) (G : Tg) (w : World) : Prop where
 ex : ∃ c spare vs, Bx 1 G w b (.int .i64 now :: .slice (some ⟨pn, 0, none⟩) pin.length c :: vs) ∧ Ow w (.slice (some ⟨pn, 0, none⟩) pin.length c) pn 1 (pin.map eI) spare ∧ vs.length = 3 ∧
  ∀ (i : Nat) l, lim[i]? = some l → ∃ v, vs[i]? = some v ∧ Sl (fun i => ¬ G i = 0) w v 1 (l.map eI) ∧ (l = [] → v = .slice none 0 0)
 tag : G pn = 1
 ne : b ≠ pn
 plen : pin.length = 64
 llen : lim.length = 3
def Jr (t : Tr) : Prop := ∃ n m, t.Ok n m ∧ n ≤ 1000 ∧ ∀ p s, t.At p s → s ∈ ([1, 2, 3, 4, 5, 6, 7, 8] : List Int)
structure PlM (b : Nat) (pls : List PlD) (free : List Int) (G : Tg) (w : World) : Prop where
 ex : ∃ lv fv o rows, Bx 2 G w b [lv, fv, .int .i64 65536] ∧ OwO w lv o 4 rows ∧ (∀ j, o = some j → G j = 2 ∧ j ≠ b) ∧ rows.length = pls.length ∧
  (∀ (i : Nat) q, pls[i]? = some q → ∃ p, rows[i]? = some [.pointer p, .int .i64 q.len, .int .i64 q.stamp, .bool q.taken] ∧ TrM (fun i => ¬ G i = 0) w q.tree (.pointer p)) ∧
  Sl (fun i => ¬ G i = 0) w fv 1 (free.map eI) ∧ (free = [] → fv = .slice none 0 0)
 len : pls.length ≤ 60000
 sm : ∀ (i : Nat) q, pls[i]? = some q → Jr q.tree
def RtM (b : Nat) (r : Int × Int) (G : Tg) (w : World) : Prop := ∃ n, Bx 4 G w b [.int .i64 r.1, .int .i64 r.2, .int .i64 n]
abbrev XV : Value := .slice none 0 0
def KcM (b sb : Nat) (G : Tg) (w : World) : Prop := ∃ n, Bx 5 G w b [pt sb, .int .i64 n] ∧ Bx 0 G w sb [XV, XV, .int .i64 0]
structure RgM (b sb : Nat) (q : RgD) (G : Tg) (w : World) : Prop where
 box : Bx 6 G w b [.slice (some ⟨sb, 0, none⟩) q.slots.length q.slots.length, .int .i64 q.puts, .int .i64 q.gets, .int .i64 q.drops]
 sl : Ow w (.slice (some ⟨sb, 0, none⟩) q.slots.length q.slots.length) sb 4 (q.slots.map Qk) []
 tag : G sb = 6
 ne : b ≠ sb
 pos : 1 ≤ q.slots.length ∧ q.slots.length ≤ 16
structure RgsM (rb rs : List Nat) (rgs : List RgD) (G : Tg) (w : World) : Prop where
 len1 : rb.length = rgs.length
 len2 : rs.length = rgs.length
 nd : (rb ++ rs).Nodup
 ex : ∀ (i : Nat) b sb q, rb[i]? = some b → rs[i]? = some sb → rgs[i]? = some q → RgM b sb q G w
structure LgM (b : Nat) (log : List Z4) (lnow : Int) (G : Tg) (w : World) : Prop where
 ex : ∃ lv o rows mv, Bx 7 G w b [lv, .int .i64 lnow, mv] ∧ OwO w lv o 15 rows ∧ (∀ j, o = some j → G j = 7 ∧ j ≠ b) ∧ rows.length = log.length ∧
  (∀ (i : Nat) q, log[i]? = some q → ∃ p, rows[i]? = some (callC q p)) ∧ (∀ r ∈ rows, ∀ u ∈ r, u.oneCell' = true) ∧
  (mv = .map none ∨ ∃ mb kvs, mv = .map (some mb) ∧ G mb = 7 ∧ mb ≠ b ∧ o ≠ some mb ∧ Yj w mb kvs ∧ ∀ p ∈ kvs, ∃ n, p.2 = .int .i64 n)
 len : log.length ≤ 60000
structure CoM (L : Lay) (G : Tg) (w : World) (s : St) : Prop where
 frz : FrzM L G w
 lk : LkM L.lk s.own G w
 ep : EpM L.ep L.pn s.now s.pin s.lim G w
 pl : PlM L.pl s.pls s.free G w
 rt : RtM L.rt s.root G w
 k0 : KcM L.k0 L.s0 G w
 k1 : KcM L.k1 L.s1 G w
 k2 : KcM L.k2 L.s2 G w
 k3 : KcM L.k3 L.s3 G w
 rg : RgsM L.rb L.rs s.rgs G w
 lg : LgM L.lg s.log s.lnow G w
section
variable {T : Nat → Prop} {G G' : Tg} {w w' : World}
theorem ZV.ow (h : ZV T G w G' w') {v : Value} {b k : Nat} {rows : List (List Value)} {spare : List Value} (ho : Ow w v b k rows spare) (ht : T (G b)) : Ow w' v b k rows spare := ho.ext h.ext fun hn => hn ht
theorem ZV.owO (h : ZV T G w G' w') {v : Value} {o : Option Nat} {k : Nat} {rows : List (List Value)} (ho : OwO w v o k rows) (ht : ∀ j, o = some j → T (G j)) : OwO w' v o k rows := ho.ext h.ext fun j hj hn => hn (ht j hj)
theorem ZV.tgo (h : ZV T G w G' w') {v : Value} {o : Option Nat} {k t b : Nat} {rows : List (List Value)} (ho : OwO w v o k rows) (ht : ∀ j, o = some j → G j = t ∧ j ≠ b) : ∀ j, o = some j → G' j = t ∧ j ≠ b := fun j hj => ⟨(h.tag j (ho.lt hj)).trans (ht j hj).1, (ht j hj).2⟩
theorem ZV.sl0 (h : ZV T G w G' w') (h0 : T 0) {v : Value} {k : Nat} {rows : List (List Value)} (hs : Sl (fun i => ¬ G i = 0) w v k rows) : Sl (fun i => ¬ G' i = 0) w' v k rows := (h.mono (T' := fun t => t = 0) fun t e => by rw [e]; exact h0).sl hs
theorem ZV.tr0 (h : ZV T G w G' w') (h0 : T 0) {t : Tr} {v : Value} (ht : TrM (fun i => ¬ G i = 0) w t v) : TrM (fun i => ¬ G' i = 0) w' t v := by
 have h1 := h.mono (T' := fun t => t = 0) fun t e => by rw [e]; exact h0
 have h2 : TrM (fun i => ¬ G i = 0) w' t v := ht.ext h1.ext fun _ h => h
 have h3 : TrM (fun i => ¬ G' i = 0 ∨ w.heap.size ≤ i) w t v := ht.sub fun i hi hlt => by
  rcases hi with hi | hi
  ·rw [h.tag i hlt] at hi; exact hi
  ·omega
 refine (h3.ext (M' := fun i => ¬ G' i = 0 ∧ i < w.heap.size) ⟨h1.ext.os, h1.ext.tape, h1.ext.output, h1.ext.size, fun i hi hn => h1.ext.block i hi fun hg => hn ⟨by rw [h.tag i hi]; exact hg, hi⟩⟩ (fun i hi => .inl hi.1)).sub fun i hi _ => .inl hi
theorem FrzM.same {L : Lay} (h : FrzM L G w) (hS : ZV T G w G' w') (h0 : T 0) : FrzM L G' w' := ⟨h.core.same hS h0, h.grp.same hS h0, hS.sl0 h0 h.rings⟩
theorem LkM.same {b : Nat} {own : List Int} (h : LkM b own G w) (hS : ZV T G w G' w') (ht : T 3) : LkM b own G' w' := by
 obtain ⟨⟨cs, h1, h2⟩, h3⟩ := h; exact ⟨⟨cs, h1.same hS ht, h2⟩, h3⟩
theorem EpM.same {b pn : Nat} {now : Int} {pin : List Int} {lim : List (List Int)} (h : EpM b pn now pin lim G w) (hS : ZV T G w G' w') (h0 : T 0) (ht : T 1) : EpM b pn now pin lim G' w' := by
 obtain ⟨⟨c, spare, vs, h1, h2, h3, h4⟩, h5, h6, h7, h8⟩ := h
 exact ⟨⟨c, spare, vs, h1.same hS ht, hS.ow h2 (by rw [h5]; exact ht), h3, fun i l hl => by obtain ⟨v, k1, k2, k3⟩ := h4 i l hl; exact ⟨v, k1, hS.sl0 h0 k2, k3⟩⟩, (hS.tag _ h2.box.lt).trans h5, h6, h7, h8⟩
theorem PlM.same {b : Nat} {pls : List PlD} {free : List Int} (h : PlM b pls free G w) (hS : ZV T G w G' w') (h0 : T 0) (ht : T 2) : PlM b pls free G' w' := by
 obtain ⟨⟨lv, fv, o, rows, h1, h2, h3, h4, h5, h6, h7⟩, h8, h9⟩ := h
 exact ⟨⟨lv, fv, o, rows, h1.same hS ht, hS.owO h2 (fun j hj => by rw [(h3 j hj).1]; exact ht), hS.tgo h2 h3, h4, fun i q hq => by obtain ⟨p, k1, k2⟩ := h5 i q hq; exact ⟨p, k1, hS.tr0 h0 k2⟩, hS.sl0 h0 h6, h7⟩, h8, h9⟩
theorem RtM.same {b : Nat} {r : Int × Int} (h : RtM b r G w) (hS : ZV T G w G' w') (ht : T 4) : RtM b r G' w' := by obtain ⟨n, h⟩ := h; exact ⟨n, h.same hS ht⟩
theorem KcM.same {b sb : Nat} (h : KcM b sb G w) (hS : ZV T G w G' w') (h0 : T 0) (ht : T 5) : KcM b sb G' w' := by obtain ⟨n, h1, h2⟩ := h; exact ⟨n, h1.same hS ht, h2.same hS h0⟩
theorem RgM.same {b sb : Nat} {q : RgD} (h : RgM b sb q G w) (hS : ZV T G w G' w') (ht : T 6) : RgM b sb q G' w' := ⟨h.box.same hS ht, hS.ow h.sl (by rw [h.tag]; exact ht), (hS.tag _ h.sl.box.lt).trans h.tag, h.ne, h.pos⟩
theorem RgsM.same {rb rs : List Nat} {rgs : List RgD} (h : RgsM rb rs rgs G w) (hS : ZV T G w G' w') (ht : T 6) : RgsM rb rs rgs G' w' := ⟨h.len1, h.len2, h.nd, fun i b sb q h1 h2 h3 => (h.ex i b sb q h1 h2 h3).same hS ht⟩
theorem LgM.same {b : Nat} {log : List Z4} {lnow : Int} (h : LgM b log lnow G w) (hS : ZV T G w G' w') (ht : T 7) : LgM b log lnow G' w' := by
 obtain ⟨⟨lv, o, rows, mv, h1, h2, h3, h4, h5, h6, h7⟩, h8⟩ := h
 refine ⟨⟨lv, o, rows, mv, h1.same hS ht, hS.owO h2 (fun j hj => by rw [(h3 j hj).1]; exact ht), hS.tgo h2 h3, h4, h5, h6, ?_⟩, h8⟩
 rcases h7 with h7 | ⟨mb, kvs, k1, k2, k3, k4, k5, k6⟩
 ·exact .inl h7
 ·exact .inr ⟨mb, kvs, k1, (hS.tag _ k5.lt).trans k2, k3, k4, k5.ext hS.ext fun hn => hn (by rw [k2]; exact ht), k6⟩
theorem CoM.same {L : Lay} {s : St} (h : CoM L G w s) (hS : ZV Cor G w G' w') : CoM L G' w' s :=
 ⟨h.frz.same hS (by unfold Cor; omega), h.lk.same hS (by unfold Cor; omega), h.ep.same hS (by unfold Cor; omega) (by unfold Cor; omega), h.pl.same hS (by unfold Cor; omega) (by unfold Cor; omega), h.rt.same hS (by unfold Cor; omega), h.k0.same hS (by unfold Cor; omega) (by unfold Cor; omega), h.k1.same hS (by unfold Cor; omega) (by unfold Cor; omega), h.k2.same hS (by unfold Cor; omega) (by unfold Cor; omega), h.k3.same hS (by unfold Cor; omega) (by unfold Cor; omega), h.rg.same hS (by unfold Cor; omega), h.lg.same hS (by unfold Cor; omega)⟩
end
def coY (L : Lay) : Sys St := ⟨CoM L, fun h hS => h.same hS⟩
theorem part_eff {me t : Nat} {G : Tg} {w w' : World} {M : Nat → Prop} (hE : Ext M w w') (hM : ∀ i, M i → G i = t) (ht : 1 ≤ t ∧ t ≤ 7) (u : Nat) (hu : u ≤ 7) :
  Tgs me G w (gx G w.heap.size fun _ => u) w' ∧ Ext (Wr me G) w w' ∧ ZV (fun x => x ≠ t) G w (gx G w.heap.size fun _ => u) w' ∧ ZV (MyT me) G w (gx G w.heap.size fun _ => u) w' := by
 have h1 : ZV (fun x => x ≠ t) G w (gx G w.heap.size fun _ => u) w' := ⟨hE.mono fun i hi h => h (hM i hi), fun i hi => Xf hi⟩
 refine ⟨Tgs.non fun _ _ _ => .inl hu, hE.mono fun i hi => .inl (by rw [hM i hi]; exact ht), h1, h1.mono fun x hx e => ?_⟩
 rcases hx with h | h | h <;> (try simp only [kpT, wrT] at h) <;> omega
end
namespace St
def lockB (i : Int) (s : St) : Bool := decide (s.own[i.toNat]? = some 0)
def lock (o : Int) (i : Int) (s : St) : St := { s with own := s.own.set i.toNat o }
def unlock (o : Int) (i : Int) (s : St) : St := if s.own[i.toNat]? = some o then { s with own := s.own.set i.toNat 0 } else s
def pinA (t : Nat) (s : St) : Bool := decide (s.pin[t]? = some (-1))
def pinT (t : Nat) (s : St) : St := { s with pin := s.pin.set t s.now }
def unpinA (t : Nat) (s : St) : Bool := match s.pin[t]? with | some p => decide (0 ≤ p) | none => false
def unpinT (t : Nat) (s : St) : St := { s with pin := s.pin.set t (-1) }
def held (s : St) : Bool := s.pin.any fun p => decide (0 ≤ p ∧ p ≠ s.now)
def nowA (s : St) : Bool := decide (0 ≤ s.now) && decide (s.now ≤ 1000000000)
def give (x : Int) (s : St) : St := match s.pls[(x - 1).toNat]? with | some q => { s with pls := s.pls.set (x - 1).toNat ⟨.bare, 0, q.stamp + 1, false⟩, free := s.free ++ [x] } | none => s
def giveA (x : Int) (s : St) : Bool := decide (1 ≤ x) && (decide (s.free = []) && match s.pls[(x - 1).toNat]? with | some q => q.taken && (decide (0 ≤ q.stamp) && decide (q.stamp ≤ 1000000000)) | none => false)
def advA (s : St) : Bool := s.nowA && (s.held || match s.lim[(s.now + 1).toNat % 3]? with | some [] => true | some [x] => s.giveA x | _ => false)
def adv (s : St) : St := if s.held = true then s else match s.lim[(s.now + 1).toNat % 3]? with
 | some [x] => St.give x { s with now := s.now + 1, lim := s.lim.set ((s.now + 1).toNat % 3) [] }
 | _ => { s with now := s.now + 1, lim := s.lim.set ((s.now + 1).toNat % 3) [] }
def retA (s : St) : Bool := s.nowA && decide (s.lim[s.now.toNat % 3]? = some [])
def ret (x : Int) (s : St) : St := { s with lim := s.lim.set (s.now.toNat % 3) [x] }
def takeA (s : St) : Bool := decide (s.free = []) && decide (s.pls.length < 60000)
def take (t : Tr) (len : Int) (s : St) : St := { s with pls := s.pls ++ [⟨t, len, 0, true⟩] }
def takeR (s : St) : Int × Int := ((s.pls.length + 1 : Nat), 0)
def readA (r : Int × Int) (s : St) : Bool := decide (1 ≤ r.1) && match s.pls[(r.1 - 1).toNat]? with | some q => q.taken && decide (q.stamp = r.2) | none => false
def readT (r : Int × Int) (s : St) : Tr := match s.pls[(r.1 - 1).toNat]? with | some q => q.tree | none => .bare
def readN (r : Int × Int) (s : St) : Int := match s.pls[(r.1 - 1).toNat]? with | some q => q.len | none => 0
def casB (o : Int × Int) (s : St) : Bool := decide (s.root = o)
def cas (o q : Int × Int) (s : St) : St := if s.root = o then { s with root := q } else s
def beginA (s : St) : Bool := decide (0 ≤ s.lnow) && decide (s.lnow ≤ 1000000000) && decide (s.log.length < 60000)
def begin (t : Int) (x : OpD) (s : St) : St := { s with log := s.log ++ [⟨t, 0, x, ⟨0, 0, 0, ⟨[], [], false⟩⟩, s.lnow + 1, 0⟩], lnow := s.lnow + 1 }
def endA (id : Nat) (s : St) : Bool := decide (0 ≤ s.lnow) && decide (s.lnow ≤ 1000000001) && decide (1 ≤ id) && match s.log[id - 1]? with | some q => decide (q.to_ = 0) | none => false
def end_ (id : Nat) (a : Xl) (s : St) : St := match s.log[id - 1]? with | some q => { s with log := s.log.set (id - 1) { q with ans := a, to_ := s.lnow + 1 }, lnow := s.lnow + 1 } | none => s
end St
namespace RgD
def slot (q : RgD) (t : Int) : Option (XI × Int) := q.slots[t.toNat % q.slots.length]?
def putA (q : RgD) : Bool := decide (0 ≤ q.puts) && decide (q.puts ≤ 1000000000) && decide (0 ≤ q.drops) && decide (q.drops ≤ 1000000000)
def putB (q : RgD) : Bool := match q.slot q.puts with | some x => decide (x.2 = 2 * q.puts) | none => false
def put (m : XI) (q : RgD) : RgD := if q.putB = true then { q with slots := q.slots.set (q.puts.toNat % q.slots.length) (m, 2 * q.puts + 1), puts := q.puts + 1 } else { q with drops := q.drops + 1 }
def getA (q : RgD) : Bool := decide (0 ≤ q.gets) && decide (q.gets ≤ 1000000000)
def getB (q : RgD) : Bool := match q.slot q.gets with | some x => decide (x.2 = 2 * q.gets + 1) | none => false
def getM (q : RgD) : XI := match q.slot q.gets with | some x => x.1 | none => ⟨[], [], false⟩
def get (q : RgD) : RgD := if q.getB = true then { q with slots := q.slots.set (q.gets.toNat % q.slots.length) (⟨[], [], false⟩, 2 * (q.gets + (q.slots.length : Nat))), gets := q.gets + 1 } else q
def getR (q : RgD) : Xl := if q.getB = true then ⟨0, 0, 0, q.getM⟩ else ⟨7, 0, 0, ⟨[], [], false⟩⟩
end RgD
namespace St
def subA (sub : Int) : Bool := decide (1 ≤ sub) && decide (sub ≤ 8)
def getA (sub : Int) (s : St) : Bool := subA sub && match s.rgs[(sub - 1).toNat]? with | some q => q.getA | none => false
def getR (sub : Int) (s : St) : Xl := match s.rgs[(sub - 1).toNat]? with | some q => q.getR | none => ⟨5, 0, 0, ⟨[], [], false⟩⟩
def get (sub : Int) (s : St) : St := match s.rgs[(sub - 1).toNat]? with | some q => { s with rgs := s.rgs.set (sub - 1).toNat q.get } | none => s
def dropA (sub : Int) (s : St) : Bool := subA sub && (s.rgs[(sub - 1).toNat]?).isSome
def dropR (sub : Int) (s : St) : Xl := match s.rgs[(sub - 1).toNat]? with | some q => ⟨0, q.drops, 0, ⟨[], [], false⟩⟩ | none => ⟨5, 0, 0, ⟨[], [], false⟩⟩
def putA (sub : Int) (s : St) : Bool := decide (1 ≤ sub) && decide (sub ≤ 8) && match s.rgs[(sub - 1).toNat]? with | some q => q.putA | none => false
def putB (sub : Int) (s : St) : Bool := match s.rgs[(sub - 1).toNat]? with | some q => q.putB | none => false
def put (sub : Int) (m : XI) (s : St) : St := match s.rgs[(sub - 1).toNat]? with | some q => { s with rgs := s.rgs.set (sub - 1).toNat (q.put m) } | none => s
end St
def eV (v : Value) : List Value := [v]
def eR (r : List Value) : List Value := r
theorem clone_p (w : World) (rows : List (List Value)) {v : Value} (hs : Sl Non w v 1 rows) (h1 : ∀ r ∈ rows, ∀ u ∈ r, u.oneCell' = true) (hn : rows.length ≤ 1000000) : Fn Tryz.prog 24 #[v] w fun u w' => ∃ oo, OwO w' u oo 1 rows ∧ ∀ i, oo = some i → w.heap.size ≤ i := by
 obtain ⟨a, c, rfl, _⟩ := hs.len
 have hX := Ext.refl Non w
 refine Zfw (args := [_]) Tryz.func24 rfl rfl ?_
 refine Zs (Za ?_)
 refine Zc (ZC (Zs (Zm ?_)))
 refine Zb (Q9 JJ rfl rfl) (Zc ?_)
 refine ZE rfl (fun hc0 => ?_) (fun hc0 => ?_)
 ·have hr : rows = [] := by obtain ⟨⟨a2, c2, e1, _, _, e4⟩, _⟩ := hs; simp only [Value.slice.injEq] at e1; rcases e4 with e4 | ⟨b, o, e4, _⟩; exact e4; rw [e1.1, e4] at hc0; cases hc0
  refine Zs (Za ?_)
  refine Zc (ZB ?_)
  exact ⟨_, ZD (Zh rfl), hX, ⟨none, by rw [hr]; exact OwO.nil, by simp⟩⟩
 ·refine ZF (Zs (wl_lit (rows := []) (parts := []) JJ rfl (by decide) (by decide) rfl rfl (by simp) (by simp) rfl ?_)); intro v5 w1 b5 hb5 E1 hO5
  have hq5 := Zq hX hb5
  replace hX := hX.tr E1
  refine Zm ?_
  have hXo := hX
  refine Qm JJ rfl rfl rfl (o := some b5) (rows := []) (.inr ⟨b5, [], rfl, hO5⟩) (hs.ext hX (fun _ h => h)) h1 (by simp only [List.length_cons, List.length_nil, List.length_append, List.length_replicate, List.length_take, List.length_drop]; omega) (by simp only [List.length_cons, List.length_nil, List.length_append, List.length_replicate, big]; omega) ?_; intro v7 w2 o7 E2 hO7 hf7
  replace hX := hX.mineO E2 (fun i hi => by cases hi; exact .inr hq5)
  refine Za ?_
  refine Zc (ZB ?_)
  exact ⟨_, ZD (Zh rfl), hX, ⟨o7, by rw [List.nil_append] at hO7; exact hO7, fun i hi => by rcases hf7 i hi with h | h; cases h; exact hq5; exact Zle hXo.size h⟩⟩
theorem clone_c (w : World) (rows : List (List Value)) {v : Value} (hs : Sl Non w v 15 rows) (h1 : ∀ r ∈ rows, ∀ u ∈ r, u.oneCell' = true) (hn : rows.length ≤ 1000000) : Fn Tryz.prog 106 #[v] w fun u w' => ∃ oo, OwO w' u oo 15 rows ∧ ∀ i, oo = some i → w.heap.size ≤ i := by
 obtain ⟨a, c, rfl, _⟩ := hs.len
 have hX := Ext.refl Non w
 refine Zfw (args := [_]) Tryz.func106 rfl rfl ?_
 refine Zs (Za ?_)
 refine Zc (ZC (Zs (Zm ?_)))
 refine Zb (Q9 Qu rfl rfl) (Zc ?_)
 refine ZE rfl (fun hc0 => ?_) (fun hc0 => ?_)
 ·have hr : rows = [] := by obtain ⟨⟨a2, c2, e1, _, _, e4⟩, _⟩ := hs; simp only [Value.slice.injEq] at e1; rcases e4 with e4 | ⟨b, o, e4, _⟩; exact e4; rw [e1.1, e4] at hc0; cases hc0
  refine Zs (Za ?_)
  refine Zc (ZB ?_)
  exact ⟨_, ZD (Zh rfl), hX, ⟨none, by rw [hr]; exact OwO.nil, by simp⟩⟩
 ·refine ZF (Zs (wl_lit (rows := []) (parts := []) Qu rfl (by decide) (by decide) rfl rfl (by simp) (by simp) rfl ?_)); intro v5 w1 b5 hb5 E1 hO5
  have hq5 := Zq hX hb5
  replace hX := hX.tr E1
  refine Zm ?_
  have hXo := hX
  refine Qm Qu rfl rfl rfl (o := some b5) (rows := []) (.inr ⟨b5, [], rfl, hO5⟩) (hs.ext hX (fun _ h => h)) h1 (by simp only [List.length_cons, List.length_nil, List.length_append, List.length_replicate, List.length_take, List.length_drop]; omega) (by simp only [List.length_cons, List.length_nil, List.length_append, List.length_replicate, big]; omega) ?_; intro v7 w2 o7 E2 hO7 hf7
  replace hX := hX.mineO E2 (fun i hi => by cases hi; exact .inr hq5)
  refine Za ?_
  refine Zc (ZB ?_)
  exact ⟨_, ZD (Zh rfl), hX, ⟨o7, by rw [List.nil_append] at hO7; exact hO7, fun i hi => by rcases hf7 i hi with h | h; cases h; exact hq5; exact Zle hXo.size h⟩⟩
set_option maxHeartbeats 800000 in
theorem idx_pins (w : World) (l : List (Int)) {v : Value} (hs : Sl Non w v 1 (l.map eI)) (p : Int → Bool) {fk : FuncId} {cap : Array Value} (ef : Xa Tryz.prog fk = true) (hp : ∀ A x, Ext Non w A → x ∈ l → FnM Tryz.prog Non fk (#[.int .i64 x] ++ cap) A fun u _ => u = .bool (p x)) : Fn Tryz.prog 328 #[v, .func (.func fk) #[] cap] w fun u w' => ∃ n : Int, u = .int .i64 n ∧ decide (n ≥ 0) = l.any p := by
 obtain ⟨a, c, rfl, hbg⟩ := id hs.len
 simp only [List.length_map] at hs hbg ⊢
 have hbg2 : big = 9223372036854775807 := rfl
 have hX := Ext.refl Non w
 refine Zfw (args := [_, _]) Tryz.func328 rfl rfl ?_
 refine Zs (Za ?_)
 refine Zc (ZC (Zs (Zm ?_)))
 refine Zb (Z1 Xe rfl) (Zm ?_)
 refine Zc (ZO (Xt (S := Nat) [0, 1, 7, 8] (fun i => [.slice a l.length c, .func (.func fk) #[] cap, .int .i64 (l.length : Nat), .int .i64 (i : Nat)]) (fun i A => (Ext Non w A) ∧ (i ≤ l.length ∧ (l.take i).any p = false)) (fun i => l.length - i) 0 ⟨rfl, rfl, rfl, rfl, trivial⟩ ⟨hX, ⟨Nat.zero_le _, by simp⟩⟩ ?_))
 rintro τ0 i A0 ⟨hX, I0⟩
 obtain ⟨hil, hno⟩ := I0
 refine Zs (Zb (Xj rfl rfl) (Zc (ZC ?_)))
 refine ZE rfl (fun hc0 => ?_) (fun hc0 => ?_)
 ·have hlt := of_decide_eq_true hc0; simp only [Int.ofNat_lt] at hlt
  obtain ⟨x, hi⟩ : ∃ x, (l)[i]? = some x := ⟨_, List.getElem?_eq_getElem hlt⟩
  obtain ⟨bb, oo, ea⟩ := hs.base (by intro e; have := congrArg List.length e; simp only [List.length_map, List.length_nil] at this; omega); subst ea
  refine ZF (ZC (ZO (Zs (Zm (Za ?_)))))
  refine Zc (Zs (Zm (Zm (Zm ?_))))
  refine Zb (ZH Xe rfl rfl (by omega)) (Zb (Xb p_3 rfl ((hs.ext hX (fun _ h => h)).at0 (map_at hi) rfl)) ?_)
  refine XW (args := [.int .i64 x]) rfl ef rfl (by have := hp A0 x hX (List.mem_of_getElem? hi); simpa using this) ?_; rintro v16 w1 E1 rfl
  replace hX := hX.tr E1
  refine Zc ?_
  refine ZE rfl (fun hc1 => ?_) (fun hc1 => ?_)
  ·have hR : l.any p = true := List.any_eq_true.2 ⟨x, List.mem_of_getElem? hi, hc1⟩
   refine Zs (Zm (Za ?_))
   refine Zc (ZB ?_)
   exact ⟨_, ZD (Zh rfl), hX, ⟨_, rfl, by rw [hR]; exact decide_eq_true (by omega)⟩⟩
  ·refine ZF (ZJ (Zb (ZX rfl rfl (by omega)) (Zm ?_)))
   refine Zc ?_
   exact ⟨rfl, i + 1, ⟨rfl, rfl, rfl, rfl, trivial⟩, ⟨hX, ⟨hlt, by rw [List.take_add_one, hi]; simp [hno, hc1]⟩⟩, by omega⟩
 ·have hge := of_decide_eq_false hc0; simp only [Int.ofNat_lt, Nat.not_lt] at hge
  rw [List.take_of_length_le hge] at hno
  refine XL ?_
  refine Zs (Za ?_)
  refine Zc (ZB ?_)
  exact ⟨_, ZD (Zh rfl), hX, ⟨_, rfl, by rw [hno]; rfl⟩⟩
theorem cont_pins (w : World) (l : List (Int)) {v : Value} (hs : Sl Non w v 1 (l.map eI)) (p : Int → Bool) {fk : FuncId} {cap : Array Value} (ef : Xa Tryz.prog fk = true) (hp : ∀ A x, Ext Non w A → x ∈ l → FnM Tryz.prog Non fk (#[.int .i64 x] ++ cap) A fun u _ => u = .bool (p x)) : Fn Tryz.prog 295 #[v, .func (.func fk) #[] cap] w fun u w' => u = .bool (l.any p) := by
 have hX := Ext.refl Non w
 refine Zfw (args := [_, _]) Tryz.func295 rfl rfl ?_
 refine Zs (Za ?_)
 refine Zc (Zs (Zm (Zm ?_)))
 refine Zw zE rfl (idx_pins w l (hs.ext hX (fun _ h => h)) p ef (fun A x hA hx => hp A x (hX.tr hA) hx)) ?_; intro v7 w1 E1 R1
 replace hX := hX.tr E1
 obtain ⟨k, rfl, hk⟩ := R1
 refine Zb (X8 rfl rfl) (Za ?_)
 refine Zc (ZB ?_)
 exact ⟨_, ZD (Zh rfl), hX, by rw [← hk]; rfl⟩
set_option maxHeartbeats 800000 in
theorem idx_steps (w : World) (l : List (Value)) {v : Value} (hs : Sl Non w v 1 (l.map eV)) (p : Value → Bool) {fk : FuncId} {cap : Array Value} (ef : Xa Tryz.prog fk = true) (hp : ∀ A x, Ext Non w A → x ∈ l → FnM Tryz.prog Non fk (#[x] ++ cap) A fun u _ => u = .bool (p x)) : Fn Tryz.prog 112 #[v, .func (.func fk) #[] cap] w fun u w' => ∃ n : Int, u = .int .i64 n ∧ decide (n ≥ 0) = l.any p := by
 obtain ⟨a, c, rfl, hbg⟩ := id hs.len
 simp only [List.length_map] at hs hbg ⊢
 have hbg2 : big = 9223372036854775807 := rfl
 have hX := Ext.refl Non w
 refine Zfw (args := [_, _]) Tryz.func112 rfl rfl ?_
 refine Zs (Za ?_)
 refine Zc (ZC (Zs (Zm ?_)))
 refine Zb (Z1 JJ rfl) (Zm ?_)
 refine Zc (ZO (Xt (S := Nat) [0, 1, 7, 8] (fun i => [.slice a l.length c, .func (.func fk) #[] cap, .int .i64 (l.length : Nat), .int .i64 (i : Nat)]) (fun i A => (Ext Non w A) ∧ (i ≤ l.length ∧ (l.take i).any p = false)) (fun i => l.length - i) 0 ⟨rfl, rfl, rfl, rfl, trivial⟩ ⟨hX, ⟨Nat.zero_le _, by simp⟩⟩ ?_))
 rintro τ0 i A0 ⟨hX, I0⟩
 obtain ⟨hil, hno⟩ := I0
 refine Zs (Zb (Xj rfl rfl) (Zc (ZC ?_)))
 refine ZE rfl (fun hc0 => ?_) (fun hc0 => ?_)
 ·have hlt := of_decide_eq_true hc0; simp only [Int.ofNat_lt] at hlt
  obtain ⟨x, hi⟩ : ∃ x, (l)[i]? = some x := ⟨_, List.getElem?_eq_getElem hlt⟩
  obtain ⟨bb, oo, ea⟩ := hs.base (by intro e; have := congrArg List.length e; simp only [List.length_map, List.length_nil] at this; omega); subst ea
  refine ZF (ZC (ZO (Zs (Zm (Za ?_)))))
  refine Zc (Zs (Zm (Zm (Zm ?_))))
  refine Zb (ZH JJ rfl rfl (by omega)) (Zb (Xb p_47 rfl ((hs.ext hX (fun _ h => h)).at0 (map_at hi) rfl)) ?_)
  refine XW (args := [x]) rfl ef rfl (by have := hp A0 x hX (List.mem_of_getElem? hi); simpa using this) ?_; rintro v16 w1 E1 rfl
  replace hX := hX.tr E1
  refine Zc ?_
  refine ZE rfl (fun hc1 => ?_) (fun hc1 => ?_)
  ·have hR : l.any p = true := List.any_eq_true.2 ⟨x, List.mem_of_getElem? hi, hc1⟩
   refine Zs (Zm (Za ?_))
   refine Zc (ZB ?_)
   exact ⟨_, ZD (Zh rfl), hX, ⟨_, rfl, by rw [hR]; exact decide_eq_true (by omega)⟩⟩
  ·refine ZF (ZJ (Zb (ZX rfl rfl (by omega)) (Zm ?_)))
   refine Zc ?_
   exact ⟨rfl, i + 1, ⟨rfl, rfl, rfl, rfl, trivial⟩, ⟨hX, ⟨hlt, by rw [List.take_add_one, hi]; simp [hno, hc1]⟩⟩, by omega⟩
 ·have hge := of_decide_eq_false hc0; simp only [Int.ofNat_lt, Nat.not_lt] at hge
  rw [List.take_of_length_le hge] at hno
  refine XL ?_
  refine Zs (Za ?_)
  refine Zc (ZB ?_)
  exact ⟨_, ZD (Zh rfl), hX, ⟨_, rfl, by rw [hno]; rfl⟩⟩
theorem cont_steps (w : World) (l : List (Value)) {v : Value} (hs : Sl Non w v 1 (l.map eV)) (p : Value → Bool) {fk : FuncId} {cap : Array Value} (ef : Xa Tryz.prog fk = true) (hp : ∀ A x, Ext Non w A → x ∈ l → FnM Tryz.prog Non fk (#[x] ++ cap) A fun u _ => u = .bool (p x)) : Fn Tryz.prog 57 #[v, .func (.func fk) #[] cap] w fun u w' => u = .bool (l.any p) := by
 have hX := Ext.refl Non w
 refine Zfw (args := [_, _]) Tryz.func57 rfl rfl ?_
 refine Zs (Za ?_)
 refine Zc (Zs (Zm (Zm ?_)))
 refine Zw zE rfl (idx_steps w l (hs.ext hX (fun _ h => h)) p ef (fun A x hA hx => hp A x (hX.tr hA) hx)) ?_; intro v7 w1 E1 R1
 replace hX := hX.tr E1
 obtain ⟨k, rfl, hk⟩ := R1
 refine Zb (X8 rfl rfl) (Za ?_)
 refine Zc (ZB ?_)
 exact ⟨_, ZD (Zh rfl), hX, by rw [← hk]; rfl⟩
set_option maxHeartbeats 800000 in
theorem idx_calls (w : World) (l : List (List Value)) {v : Value} (hs : Sl Non w v 15 (l.map eR)) (hk15 : ∀ x ∈ l, x.length = 15) (p : List Value → Bool) {fk : FuncId} {cap : Array Value} (ef : Xa Tryz.prog fk = true) (hp : ∀ A x, Ext Non w A → x ∈ l → FnM Tryz.prog Non fk (#[.agg x.toArray] ++ cap) A fun u _ => u = .bool (p x)) : Fn Tryz.prog 187 #[v, .func (.func fk) #[] cap] w fun u w' => ∃ n : Int, u = .int .i64 n ∧ decide (n ≥ 0) = l.any p := by
 obtain ⟨a, c, rfl, hbg⟩ := id hs.len
 simp only [List.length_map] at hs hbg ⊢
 have hbg2 : big = 9223372036854775807 := rfl
 have hX := Ext.refl Non w
 refine Zfw (args := [_, _]) Tryz.func187 rfl rfl ?_
 refine Zs (Za ?_)
 refine Zc (ZC (Zs (Zm ?_)))
 refine Zb (Z1 Qu rfl) (Zm ?_)
 refine Zc (ZO (Xt (S := Nat) [0, 1, 7, 8] (fun i => [.slice a l.length c, .func (.func fk) #[] cap, .int .i64 (l.length : Nat), .int .i64 (i : Nat)]) (fun i A => (Ext Non w A) ∧ (i ≤ l.length ∧ (l.take i).any p = false)) (fun i => l.length - i) 0 ⟨rfl, rfl, rfl, rfl, trivial⟩ ⟨hX, ⟨Nat.zero_le _, by simp⟩⟩ ?_))
 rintro τ0 i A0 ⟨hX, I0⟩
 obtain ⟨hil, hno⟩ := I0
 refine Zs (Zb (Xj rfl rfl) (Zc (ZC ?_)))
 refine ZE rfl (fun hc0 => ?_) (fun hc0 => ?_)
 ·have hlt := of_decide_eq_true hc0; simp only [Int.ofNat_lt] at hlt
  obtain ⟨x, hi⟩ : ∃ x, (l)[i]? = some x := ⟨_, List.getElem?_eq_getElem hlt⟩
  obtain ⟨bb, oo, ea⟩ := hs.base (by intro e; have := congrArg List.length e; simp only [List.length_map, List.length_nil] at this; omega); subst ea
  refine ZF (ZC (ZO (Zs (Zm (Za ?_)))))
  refine Zc (Zs (Zm (Zm (Zm ?_))))
  refine Zb (ZH Qu rfl rfl (by omega)) (Zb (XC s_60 rfl (hk15 _ (List.mem_of_getElem? hi)) ((hs.ext hX (fun _ h => h)).all0 (map_at hi))) ?_)
  refine XW (args := [.agg x.toArray]) rfl ef rfl (by have := hp A0 x hX (List.mem_of_getElem? hi); simpa using this) ?_; rintro v16 w1 E1 rfl
  replace hX := hX.tr E1
  refine Zc ?_
  refine ZE rfl (fun hc1 => ?_) (fun hc1 => ?_)
  ·have hR : l.any p = true := List.any_eq_true.2 ⟨x, List.mem_of_getElem? hi, hc1⟩
   refine Zs (Zm (Za ?_))
   refine Zc (ZB ?_)
   exact ⟨_, ZD (Zh rfl), hX, ⟨_, rfl, by rw [hR]; exact decide_eq_true (by omega)⟩⟩
  ·refine ZF (ZJ (Zb (ZX rfl rfl (by omega)) (Zm ?_)))
   refine Zc ?_
   exact ⟨rfl, i + 1, ⟨rfl, rfl, rfl, rfl, trivial⟩, ⟨hX, ⟨hlt, by rw [List.take_add_one, hi]; simp [hno, hc1]⟩⟩, by omega⟩
 ·have hge := of_decide_eq_false hc0; simp only [Int.ofNat_lt, Nat.not_lt] at hge
  rw [List.take_of_length_le hge] at hno
  refine XL ?_
  refine Zs (Za ?_)
  refine Zc (ZB ?_)
  exact ⟨_, ZD (Zh rfl), hX, ⟨_, rfl, by rw [hno]; rfl⟩⟩
theorem cont_calls (w : World) (l : List (List Value)) {v : Value} (hs : Sl Non w v 15 (l.map eR)) (hk15 : ∀ x ∈ l, x.length = 15) (p : List Value → Bool) {fk : FuncId} {cap : Array Value} (ef : Xa Tryz.prog fk = true) (hp : ∀ A x, Ext Non w A → x ∈ l → FnM Tryz.prog Non fk (#[.agg x.toArray] ++ cap) A fun u _ => u = .bool (p x)) : Fn Tryz.prog 107 #[v, .func (.func fk) #[] cap] w fun u w' => u = .bool (l.any p) := by
 have hX := Ext.refl Non w
 refine Zfw (args := [_, _]) Tryz.func107 rfl rfl ?_
 refine Zs (Za ?_)
 refine Zc (Zs (Zm (Zm ?_)))
 refine Zw zE rfl (idx_calls w l (hs.ext hX (fun _ h => h)) hk15 p ef (fun A x hA hx => hp A x (hX.tr hA) hx)) ?_; intro v7 w1 E1 R1
 replace hX := hX.tr E1
 obtain ⟨k, rfl, hk⟩ := R1
 refine Zb (X8 rfl rfl) (Za ?_)
 refine Zc (ZB ?_)
 exact ⟨_, ZD (Zh rfl), hX, by rw [← hk]; rfl⟩
theorem left1_nil (w : World)  : Fn Tryz.prog 58 #[.nilFunc] w fun u w' => u = .bool false := by
 have hX := Ext.refl Non w
 refine Zfw (args := [_]) Tryz.func58 rfl rfl ?_
 refine Zs (Za ?_)
 refine Zc (Zs (Zm ?_))
 refine Zb (rn_nofunc_neq (by kernel_rfl) rfl rfl) (Za ?_)
 refine Zc (ZB ?_)
 exact ⟨_, ZD (Zh rfl), hX, rfl⟩
theorem left1_fun (w : World) {f : Go.Fn} {fi cap : Array Value} : Fn Tryz.prog 58 #[.func f fi cap] w fun u w' => u = .bool true := by
 have hX := Ext.refl Non w
 refine Zfw (args := [_]) Tryz.func58 rfl rfl ?_
 refine Zs (Za ?_)
 refine Zc (Zs (Zm ?_))
 refine Zb (rn_func_neq uf_47 rfl rfl) (Za ?_)
 refine Zc (ZB ?_)
 exact ⟨_, ZD (Zh rfl), hX, rfl⟩
theorem calls1_ok (w : World) (q : Z4) : Fn Tryz.prog 108 #[.agg q.enc.toArray] w fun u w' => u = .bool (decide (q.to_ = 0)) := by
 have hX := Ext.refl Non w
 refine Zfw (args := [_]) Tryz.func108 rfl rfl ?_
 refine Zs (ZY rfl ?_); intro b1 w1 hb1 E1 B1
 have hq1 := Zq hX hb1
 replace hX := hX.tr E1
 refine Za ?_
 refine Zc (Zs (Zb (Zf f_60_5 rfl) (Zb (Zi p_3 rfl B1 rfl) (Zb (Xc rfl rfl) (Za ?_)))))
 refine Zc (ZB ?_)
 exact ⟨_, ZD (Zh rfl), hX, rfl⟩
theorem adv1_ok (w : World) {b1 b77 : Nat} {now : Int} {vs : List Value} (p : Int) (B1 : Zj w b1 [(Zpt b77)]) (B77 : Zj w b77 (.int .i64 now :: vs)) : Fn Tryz.prog 296 #[.int .i64 p, (Zpt b1)] w fun u w' => u = .bool (decide (0 ≤ p ∧ p ≠ now)) := by
 have hX := Ext.refl Non w
 refine Zfw (args := [_, _]) Tryz.func296 rfl rfl ?_
 refine Zs (Za ?_)
 refine Zc (Zs (Zm ?_))
 refine Zb (X8 rfl rfl) (Zm ?_)
 refine Z3 (d := 6) rfl (fun hg6 => ?_) (fun hg6 => ?_)
 ·have q := of_decide_eq_true hg6
  refine Zu rfl (Zcb hg6) (Zm ?_)
  refine Zu rfl (Zcb hg6) (Zb (Zi p_97 rfl B1 rfl) (Zu rfl (Zcb hg6) (Zb (Zg rfl) (Zu rfl (Zcb hg6) (Zb (Zf f_175_0 rfl) (Zu rfl (Zcb hg6) (Zb (Zi p_3 rfl B77 rfl) (Zu rfl (Zcb hg6) ?_))))))))
  refine Zb (X2 rfl rfl) (Zb (Z8 (Zcb hg6) (by conv => lhs; whnf)) ?_)
  refine Za ?_
  refine Zc (ZB ?_)
  first | exact ⟨_, ZD (Zh rfl), hX, congrArg Value.bool (decide_eq_decide.2 ⟨fun h => ⟨q, h⟩, fun h => h.2⟩)⟩ | exact ⟨_, ZD (Zh rfl), hX, congrArg Value.bool (decide_eq_false (fun h => q h.1)).symm⟩
 ·have q := of_decide_eq_false hg6
  refine ZU rfl (Zcb hg6) (ZU rfl (Zcb hg6) (ZU rfl (Zcb hg6) (ZU rfl (Zcb hg6) (ZU rfl (Zcb hg6) (ZU rfl (Zcb hg6) (Zb (ZQ (Zcb hg6) (by conv => lhs; whnf)) ?_))))))
  refine Za ?_
  refine Zc (ZB ?_)
  first | exact ⟨_, ZD (Zh rfl), hX, congrArg Value.bool (decide_eq_decide.2 ⟨fun h => ⟨q, h⟩, fun h => h.2⟩)⟩ | exact ⟨_, ZD (Zh rfl), hX, congrArg Value.bool (decide_eq_false (fun h => q h.1)).symm⟩
theorem ethere_ok (w : World) {b77 pn c : Nat} {now : Int} {pin : List Int} {vs : List Value} {spare : List Value} (B77 : Zj w b77 (.int .i64 now :: .slice (some ⟨pn, 0, none⟩) pin.length c :: vs)) (hO : Ow w (.slice (some ⟨pn, 0, none⟩) pin.length c) pn 1 (pin.map eI) spare) {t p : Int} (ht : 0 ≤ t) (hp : pin[t.toNat]? = some p)  : Fn Tryz.prog 126 #[(Zpt b77), .int .i64 t] w fun u w' => u = .bool true := by
 have htl : t.toNat < pin.length := (List.getElem?_eq_some_iff.1 hp).1
 have hX := Ext.refl Non w
 refine Zfw (args := [_, _]) Tryz.func126 rfl rfl ?_
 refine Zs (Za ?_)
 refine Zc (Zs (Zm ?_))
 refine Zb (JL (by kernel_rfl) rfl rfl) (Zm ?_)
 refine Zu rfl rfl (Zm ?_)
 refine Zu rfl rfl (Zb (X8 rfl rfl) (Zb (Z8 rfl (by conv => lhs; whnf)) ?_))
 refine Zm ?_
 refine Z3 (d := 11) rfl (fun hg11 => ?_) (fun hg11 => ?_)
 ·refine Zu rfl (Zcb hg11) (Zm ?_)
  refine Zu rfl (Zcb hg11) (Zm ?_)
  refine Zu rfl (Zcb hg11) (Zb (Zg rfl) (Zu rfl (Zcb hg11) (Zb (Zf JU rfl) (Zu rfl (Zcb hg11) (Zb (Zi XT rfl B77 rfl) (Zu rfl (Zcb hg11) (Zb (Z1 Xe rfl) (Zu rfl (Zcb hg11) ?_))))))))
  refine Zb (Xj rfl rfl) (Zb (Z8 (Zcb hg11) (by conv => lhs; whnf)) ?_)
  refine Za ?_
  refine Zc (ZB ?_)
  exact ⟨_, ZD (Zh rfl), hX, congrArg Value.bool (decide_eq_true (by omega))⟩
 ·exact absurd (of_decide_eq_false hg11) (by omega)
theorem epinned_ok (w : World) {b77 pn c : Nat} {now : Int} {pin : List Int} {vs : List Value} {spare : List Value} (B77 : Zj w b77 (.int .i64 now :: .slice (some ⟨pn, 0, none⟩) pin.length c :: vs)) (hO : Ow w (.slice (some ⟨pn, 0, none⟩) pin.length c) pn 1 (pin.map eI) spare) {t p : Int} (ht : 0 ≤ t) (hp : pin[t.toNat]? = some p)  : Fn Tryz.prog 127 #[(Zpt b77), .int .i64 t] w fun u w' => u = .bool (decide (0 ≤ p)) := by
 have htl : t.toNat < pin.length := (List.getElem?_eq_some_iff.1 hp).1
 have hX := Ext.refl Non w
 refine Zfw (args := [_, _]) Tryz.func127 rfl rfl ?_
 refine Zs (Za ?_)
 refine Zc (Zs (Zm (Zm ?_)))
 refine Zw zE rfl (ethere_ok w B77 hO ht hp) ?_; intro v7 w1 E1 R1
 replace hX := hX.tr E1
 replace B77 := Zx B77 E1
 subst R1
 replace hO := hO.ext E1 (fun h => h)
 refine Zm ?_
 refine Zu rfl rfl (Zm ?_)
 refine Zu rfl rfl (Zb (Zg rfl) (Zu rfl rfl (Zb (Zf JU rfl) (Zu rfl rfl (Zb (Zi XT rfl B77 rfl) (Zu rfl rfl (Zm ?_)))))))
 refine Zu rfl rfl (Zb (ZH Xe rfl rfl (by omega)) (Zu rfl rfl (Zb (Xb p_3 rfl ((hO.sl (M := Non) id).at0 (map_at hp) rfl)) (Zu rfl rfl (Zb (X8 rfl rfl) (Zb (Z8 rfl (by conv => lhs; whnf)) ?_))))))
 refine Za ?_
 refine Zc (ZB ?_)
 exact ⟨_, ZD (Zh rfl), hX, rfl⟩
theorem epin_ok (w : World) {b77 pn c : Nat} {now : Int} {pin : List Int} {vs : List Value} {spare : List Value} (B77 : Zj w b77 (.int .i64 now :: .slice (some ⟨pn, 0, none⟩) pin.length c :: vs)) (hO : Ow w (.slice (some ⟨pn, 0, none⟩) pin.length c) pn 1 (pin.map eI) spare) {t p : Int} (ht : 0 ≤ t) (hp : pin[t.toNat]? = some p) (hp0 : p < 0) : FnM Tryz.prog (fun i => i = pn) 71 #[(Zpt b77), .int .i64 t] w fun u w' => u = .bool true ∧ ∃ spare', Ow w' (.slice (some ⟨pn, 0, none⟩) pin.length c) pn 1 ((pin.set t.toNat now).map eI) spare' := by
 have htl : t.toNat < pin.length := (List.getElem?_eq_some_iff.1 hp).1
 have hpf : decide (0 ≤ p) = false := decide_eq_false (by omega)
 have hX := Ext.refl (fun i => i = pn) w
 refine Zfm (args := [_, _]) Tryz.func71 rfl rfl ?_
 refine Zs (Za ?_)
 refine Zc (ZC (Zs (Zm (Zm ?_))))
 refine Zw zE rfl (ethere_ok w B77 hO ht hp) ?_; intro v7 w1 E1 R1
 replace hX := hX.tr E1
 replace B77 := Zx B77 E1
 replace hO := hO.ext E1 (fun h => h)
 subst R1
 refine Zb (Xy rfl) (Zm ?_)
 refine Zu rfl rfl (Zm ?_)
 refine Zu rfl rfl (Zm ?_)
 refine Zu rfl rfl (Zw zE rfl (epinned_ok w1 B77 hO ht hp) ?_); intro v12 w2 E2 R2
 replace hX := hX.tr E2
 replace B77 := Zx B77 E2
 replace hO := hO.ext E2 (fun h => h)
 rw [hpf] at R2; subst R2
 refine Zb (ZQ rfl (by conv => lhs; whnf)) ?_
 refine Zc (Xu rfl (ZF (ZC (Z5 (fun j => j == 9 || j == 10) mixed ?_)))); intro w3 E3
 replace hX := hX.tr E3
 replace B77 := Zx B77 E3
 replace hO := hO.ext E3 (fun h => h)
 have hS := Ext.refl Non w3
 refine Zt 0 [1, 2, 3, 9, 10] rfl hS Zy ?_
 refine Zt 1 [2, 3, 9, 10] rfl hS (Zr (Zg rfl)) (Zt 2 [3, 9, 10] rfl hS (Zr (Zf JU rfl)) (Zt 3 [9, 10] rfl hS (Zv XT rfl B77 rfl) (Zt 4 [9, 10] rfl hS Zy ?_)))
 refine Zt 5 [6, 7, 8, 9, 10] rfl hS Zy ?_
 refine Zt 6 [7, 8, 9, 10] rfl hS (Zr (Zg rfl)) (Zt 7 [8, 9, 10] rfl hS (Zr (Zf f_175_0 rfl)) (Zt 8 [9, 10] rfl hS (Zv p_3 rfl B77 rfl) (XK 9 _ _ rfl rfl (by kernel_rfl) (ZG fun A _ => ZH Xe rfl rfl (by omega)) ?_)))
 replace hX := hX.tr hS
 replace B77 := Zx B77 hS
 replace hO := hO.ext hS (fun h => h)
 refine Zo 10 rfl (ZK (JA (u := .int .i64 now) (i := t.toNat) p_3 rfl rfl rfl rfl hO (by rw [List.length_map]; exact htl) ?_)); intro w4 E4 hO
 replace hX := hX.mine E4 (.inl rfl)
 refine Zz ?_
 refine ZZ (by kernel_rfl) ?_ _
 refine Zs (Za ?_)
 refine Zc (ZB ?_)
 exact ⟨_, ZD (Zh rfl), hX, ⟨rfl, spare, by rw [List.map_set]; exact hO⟩⟩
theorem eunpin_ok (w : World) {b77 pn c : Nat} {now : Int} {pin : List Int} {vs : List Value} {spare : List Value} (B77 : Zj w b77 (.int .i64 now :: .slice (some ⟨pn, 0, none⟩) pin.length c :: vs)) (hO : Ow w (.slice (some ⟨pn, 0, none⟩) pin.length c) pn 1 (pin.map eI) spare) {t p : Int} (ht : 0 ≤ t) (hp : pin[t.toNat]? = some p) (hp0 : 0 ≤ p) : FnM Tryz.prog (fun i => i = pn) 175 #[(Zpt b77), .int .i64 t] w fun u w' => u = .bool true ∧ ∃ spare', Ow w' (.slice (some ⟨pn, 0, none⟩) pin.length c) pn 1 ((pin.set t.toNat (-1)).map eI) spare' := by
 have htl : t.toNat < pin.length := (List.getElem?_eq_some_iff.1 hp).1
 have hpf : decide (0 ≤ p) = true := decide_eq_true hp0
 have hX := Ext.refl (fun i => i = pn) w
 refine Zfm (args := [_, _]) Tryz.func175 rfl rfl ?_
 refine Zs (Za ?_)
 refine Zc (ZC (Zs (Zm (Zm ?_))))
 refine Zw zE rfl (epinned_ok w B77 hO ht hp) ?_; intro v7 w1 E1 R1
 replace hX := hX.tr E1
 replace B77 := Zx B77 E1
 rw [hpf] at R1; subst R1
 replace hO := hO.ext E1 (fun h => h)
 refine Zb (Xy rfl) (Zc (Xu rfl (ZF (Zs (Zm ?_)))))
 refine Zb (Zg rfl) (Zb (Zf JU rfl) (Zb (Zi XT rfl B77 rfl) (Zm ?_)))
 refine Zb (ZH Xe rfl rfl (by omega)) (JA (u := .int .i64 (-1)) (i := t.toNat) p_3 rfl rfl rfl rfl hO (by rw [List.length_map]; exact htl) ?_); intro w2 E2 hO
 replace hX := hX.mine E2 (.inl rfl)
 refine Zc (Zs (Za ?_))
 refine Zc (ZB ?_)
 exact ⟨_, ZD (Zh rfl), hX, ⟨rfl, spare, by rw [List.map_set]; exact hO⟩⟩
theorem ua_limbo : Tryz.prog.underlying 173 = some (.array 3 27) := by kernel_rfl
theorem ui_limbo : (Tryz.prog.info? 27).map (·.size) = some 1 := by kernel_rfl
theorem rn_limbo {σ : Env} {w : World} {dst : Option Nat} {ty : TypeId} {pos : String} {af : Array Edge} {g : Option (Nat × Bool)} {x y : Operand} {b : Nat} {now : Int} (hx : ev σ x = .pointer (some ((⟨b, 0, none⟩ : Addr).add 2))) (hy : ev σ y = .int .i64 (now.tmod 3)) (hn : 0 ≤ now) :
  Rn Tryz.prog σ w ⟨dst, .indexAddr 173 x y, ty, pos, af, g⟩ (.pointer (some ⟨b, now.toNat % 3 + 2, none⟩)) := by
 have hm : (now.tmod 3).toNat = now.toNat % 3 := by rw [Int.tmod_eq_emod_of_nonneg hn]; omega
 have hm0 : 0 ≤ now.tmod 3 ∧ now.tmod 3 < ((3 : Nat) : Int) := by rw [Int.tmod_eq_emod_of_nonneg hn]; omega
 have h := rn_indexArr (P := Tryz.prog) (σ := σ) (w := w) (dst := dst) (ty := ty) (pos := pos) (af := af) (g := g) ua_limbo ui_limbo hx hy hm0
 rw [hm, XF, XF] at h
 rw [show now.toNat % 3 + 2 = 0 + 2 + now.toNat % 3 * 1 from by omega]; exact h
theorem eretire_ok (w : World) {b77 : Nat} {now x : Int} {pv : Value} {vs : List Value} (B77 : Zj w b77 (.int .i64 now :: pv :: vs)) (hvl : vs.length = 3) (hv : vs[now.toNat % 3]? = some (.slice none 0 0)) (hn : 0 ≤ now ∧ now ≤ 1000000000)  : FnM Tryz.prog (fun i => i = b77) 222 #[(Zpt b77), .int .i64 x] w fun u w' => ∃ v o, Zj w' b77 (.int .i64 now :: pv :: vs.set (now.toNat % 3) v) ∧ OwO w' v o 1 [eI x] ∧ (∀ i, o = some i → w.heap.size ≤ i) := by
 have hlb0 := B77.lt
 have hl77 : Xo (fun i => i = b77) w b77 := .inl rfl
 have hml : now.toNat % 3 < 3 := Nat.mod_lt _ (by decide)
 have hX := Ext.refl (fun i => i = b77) w
 refine Zfm (args := [_, _]) Tryz.func222 rfl rfl ?_
 refine Zs (Zm ?_)
 refine Zb (JL (by kernel_rfl) rfl rfl) (Zc (Qr rfl (ZC (Z5 (fun j => j == 9) mixed ?_)))); intro w1 E1
 replace hX := hX.tr E1
 replace B77 := Zx B77 E1
 have hS := Ext.refl Non w1
 refine Zt 0 [6, 7, 8, 9] rfl hS Zy ?_
 refine Zt 1 [2, 3, 4, 5, 8, 9] rfl hS Zy ?_
 refine Zt 2 [3, 4, 5, 8, 9] rfl hS (Zr (Zg rfl)) (Zt 3 [4, 5, 8, 9] rfl hS (Zr (Zf f_175_0 rfl)) (Zt 4 [5, 8, 9] rfl hS (Zv p_3 rfl B77 rfl) (Zt 5 [8, 9] rfl hS (ZG fun A hA => rn_tmod rfl rfl (by decide)) (Zt 6 [7, 8, 9] rfl hS (Zr (Zg rfl)) (Zt 7 [8, 9] rfl hS (Zr (Zf f_175_2 rfl)) (Zt 8 [9] rfl hS (ZG fun A hA => rn_limbo rfl rfl hn.1) (XK 9 _ _ rfl rfl (by kernel_rfl) (ZG fun A _ => Xm (by conv => lhs; whnf)) ?_)))))))
 refine ZZ (by kernel_rfl) ?_ _
 replace hX := hX.tr hS
 replace B77 := Zx B77 hS
 refine ZJ (Zm (Zm ?_))
 refine Zb (Zg rfl) (Zb (Zi (i := now.toNat % 3 + 2) XT rfl B77 (by simpa using hv)) (Zm ?_))
 refine Xz (r := eI x) Xe rfl rfl rfl rfl (by decide) ?_; intro v21 w2 b21 hb21 E2 O21
 have hq21 := Zq hX hb21
 replace hX := hX.tr E2
 replace B77 := Zx B77 E2
 have hXo := hX
 refine Qm Xe rfl rfl rfl OwO.nil (O21.sl (M := Non) id) (oneR (J1 rfl)) (by simp only [List.length_cons, List.length_nil]; omega) (by simp only [List.length_cons, List.length_nil, big]; omega) ?_; intro v22 w3 o22 E3 hO22 hf22
 have hf : ∀ i, o22 = some i → w.heap.size ≤ i := fun i hi => by rcases hf22 i hi with h | h; cases h; exact Zle hXo.size h
 replace hX := hX.trans (E3.mono fun i h => by cases h)
 replace B77 := B77.ext E3 (fun h => by cases h)
 skip
 refine Zb (Zg rfl) ?_
 obtain ⟨a22, c22, rfl⟩ := hO22.len
 refine ZN (b := b77) (i := now.toNat % 3 + 2) XT rfl (by conv => lhs; whnf) rfl rfl B77 (by simp only [List.length_set, List.length_cons]; omega) ?_; intro w4 E4 B77 hz4
 replace hX := hX.mine E4 hl77
 replace hO22 := hO22.ext E4 (fun i hi e => by have := hf i hi; have h3 : i = b77 := e; omega)
 refine Zc ?_
 exact ⟨_, rfl, hX, ⟨_, o22, by simpa using B77, hO22, hf⟩⟩
theorem eadv_no (w : World) {b77 pn c : Nat} {now : Int} {pin : List Int} {vs : List Value} {spare : List Value} (B77 : Zj w b77 (.int .i64 now :: .slice (some ⟨pn, 0, none⟩) pin.length c :: vs)) (hO : Ow w (.slice (some ⟨pn, 0, none⟩) pin.length c) pn 1 (pin.map eI) spare) (hne : pn ≠ b77) (hvl : vs.length = 3) (hn : 0 ≤ now ∧ now ≤ 1000000000) (ha : (pin.any fun p => decide (0 ≤ p ∧ p ≠ now)) = true) : FnM Tryz.prog (fun i => i = b77) 243 #[(Zpt b77)] w fun u w' => u = .tuple #[.slice none 0 0, .bool false] ∧ Zj w' b77 (.int .i64 now :: .slice (some ⟨pn, 0, none⟩) pin.length c :: vs) := by
 have hXn := Ext.refl Non w
 have hX := Ext.refl (fun i => i = b77) w
 refine Zfm (args := [_]) Tryz.func243 rfl rfl ?_
 refine Zs (ZP (by conv => lhs; whnf) rfl ?_); intro b1 w1 hb1 E1 B1
 have hn77_1 := Zn B77 hb1
 have hq1 := Zq hX hb1
 replace hX := hX.tr E1
 replace B77 := Zx B77 E1
 replace hXn := hXn.tr E1
 refine Za (Za ?_)
 refine Zc (ZC (Zs (Zb (Zi p_97 rfl B1 rfl) (Zb (Z9 (by kernel_rfl) rfl rfl) (Zm ?_)))))
 refine Zu rfl rfl (Zb (Zi p_97 rfl B1 rfl) (Zu rfl rfl (Zb (Zg rfl) (Zu rfl rfl (Zb (Zf JU rfl) (Zu rfl rfl (Zb (Zi XT rfl B77 rfl) (Zu rfl rfl ?_))))))))
 refine Zb (ZL rfl) (Zu rfl rfl (Zw zE rfl (cont_pins w1 pin ((hO.sl (M := Non) id).ext hXn (fun _ h => h)) (fun p => decide (0 ≤ p ∧ p ≠ now)) zE (fun A x hA _ => by have := adv1_ok A x (B1.ext hA id) (B77.ext hA id); exact this)) ?_)); intro v13 w2 E2 R2
 subst R2
 replace hX := hX.tr E2
 replace B77 := Zx B77 E2; replace B1 := Zx B1 E2
 replace hXn := hXn.tr E2
 refine Zb (ZQ rfl (by conv => lhs; whnf)) ?_
 refine Zc ?_
 refine ZE rfl (fun hc0 => ?_) (fun hc0 => ?_)
 ·refine Zs (Za (Za ?_))
  refine Zc (ZB ?_)
  exact ⟨_, Qd (Zh rfl) (Zh rfl), hX, ⟨rfl, B77⟩⟩
 ·rw [ha] at hc0; cases hc0
theorem eadv_ok (w : World) {b77 pn c : Nat} {now : Int} {pin : List Int} {vs : List Value} {spare : List Value} (B77 : Zj w b77 (.int .i64 now :: .slice (some ⟨pn, 0, none⟩) pin.length c :: vs)) (hO : Ow w (.slice (some ⟨pn, 0, none⟩) pin.length c) pn 1 (pin.map eI) spare) (hne : pn ≠ b77) (hvl : vs.length = 3) (hn : 0 ≤ now ∧ now ≤ 1000000000) {v : Value} (ha : (pin.any fun p => decide (0 ≤ p ∧ p ≠ now)) = false) (hv : vs[(now + 1).toNat % 3]? = some v) (hvo : v.oneCell' = true) : FnM Tryz.prog (fun i => i = b77) 243 #[(Zpt b77)] w fun u w' => u = .tuple #[v, .bool true] ∧ Zj w' b77 (.int .i64 (now + 1) :: .slice (some ⟨pn, 0, none⟩) pin.length c :: vs.set ((now + 1).toNat % 3) (.slice none 0 0)) := by
 have hXn := Ext.refl Non w
 have hl77 : Xo (fun i => i = b77) w b77 := .inl rfl
 have hml : (now + 1).toNat % 3 < 3 := Nat.mod_lt _ (by decide)
 have hX := Ext.refl (fun i => i = b77) w
 refine Zfm (args := [_]) Tryz.func243 rfl rfl ?_
 refine Zs (ZP (by conv => lhs; whnf) rfl ?_); intro b1 w1 hb1 E1 B1
 have hn77_1 := Zn B77 hb1
 have hq1 := Zq hX hb1
 replace hX := hX.tr E1
 replace B77 := Zx B77 E1
 replace hXn := hXn.tr E1
 refine Za (Za ?_)
 refine Zc (ZC (Zs (Zb (Zi p_97 rfl B1 rfl) (Zb (Z9 (by kernel_rfl) rfl rfl) (Zm ?_)))))
 refine Zu rfl rfl (Zb (Zi p_97 rfl B1 rfl) (Zu rfl rfl (Zb (Zg rfl) (Zu rfl rfl (Zb (Zf JU rfl) (Zu rfl rfl (Zb (Zi XT rfl B77 rfl) (Zu rfl rfl ?_))))))))
 refine Zb (ZL rfl) (Zu rfl rfl (Zw zE rfl (cont_pins w1 pin ((hO.sl (M := Non) id).ext hXn (fun _ h => h)) (fun p => decide (0 ≤ p ∧ p ≠ now)) zE (fun A x hA _ => by have := adv1_ok A x (B1.ext hA id) (B77.ext hA id); exact this)) ?_)); intro v13 w2 E2 R2
 subst R2
 replace hX := hX.tr E2
 replace B77 := Zx B77 E2; replace B1 := Zx B1 E2
 replace hXn := hXn.tr E2
 refine Zb (ZQ rfl (by conv => lhs; whnf)) ?_
 refine Zc ?_
 refine ZE rfl (fun hc0 => ?_) (fun hc0 => ?_)
 ·rw [ha] at hc0; cases hc0
 ·refine ZF (Zs (Zb (Zi p_97 rfl B1 rfl) (Zb (Zg rfl) (Zb (Zf f_175_0 rfl) (Zb (Zi p_3 rfl B77 rfl) (Zb (ZX rfl rfl (by omega)) (Zb (Zg rfl) (Zb (Zf f_175_0 rfl) ?_))))))))
  refine ZN (b := b77) p_3 rfl (by conv => lhs; whnf) rfl rfl B77 Zbl ?_; intro w3 E3 B77 hz3
  replace hX := hX.mine E3 hl77
  replace B1 := B1.ext E3 (fun h => by omega)
  refine Zc (ZC (Z5 (fun j => j == 10) mixed ?_)); intro w4 E4
  replace hX := hX.tr E4
  replace B77 := Zx B77 E4; replace B1 := Zx B1 E4
  have hS := Ext.refl Non w4
  refine Zt 0 [6, 7, 8, 9, 10] rfl hS (Zv p_97 rfl B1 rfl) (Zt 1 [2, 3, 4, 5, 8, 9, 10] rfl hS (Zv p_97 rfl B1 rfl) (Zt 2 [3, 4, 5, 8, 9, 10] rfl hS (Zr (Zg rfl)) (Zt 3 [4, 5, 8, 9, 10] rfl hS (Zr (Zf f_175_0 rfl)) (Zt 4 [5, 8, 9, 10] rfl hS (Zv p_3 rfl B77 rfl) (Zt 5 [8, 9, 10] rfl hS (ZG fun A hA => rn_tmod rfl rfl (by decide)) (Zt 6 [7, 8, 9, 10] rfl hS (Zr (Zg rfl)) (Zt 7 [8, 9, 10] rfl hS (Zr (Zf f_175_2 rfl)) (Zt 8 [9, 10] rfl hS (ZG fun A hA => rn_limbo rfl rfl (by omega)) ?_))))))))
  refine Zt 9 [10] rfl hS (ZG fun A hA => Zi (i := (now + 1).toNat % 3 + 2) XT rfl (B77.ext hA id) (by simpa using hv)) ?_
  refine XK 10 _ _ rfl rfl (by kernel_rfl) (ZG fun A _ => Xm (by conv => lhs; whnf)) ?_
  refine ZZ (by kernel_rfl) ?_ _
  replace hX := hX.tr hS
  replace B77 := Zx B77 hS; replace B1 := Zx B1 hS
  refine ZC (Z5 (fun j => j == 8 || j == 9) mixed ?_); intro w5 E5
  replace hX := hX.tr E5
  replace B77 := Zx B77 E5; replace B1 := Zx B1 E5
  have hS := Ext.refl Non w5
  refine Zt 0 [6, 7, 8, 9] rfl hS (Zv p_97 rfl B1 rfl) (Zt 1 [2, 3, 4, 5, 8, 9] rfl hS (Zv p_97 rfl B1 rfl) (Zt 2 [3, 4, 5, 8, 9] rfl hS (Zr (Zg rfl)) (Zt 3 [4, 5, 8, 9] rfl hS (Zr (Zf f_175_0 rfl)) (Zt 4 [5, 8, 9] rfl hS (Zv p_3 rfl B77 rfl) (Zt 5 [8, 9] rfl hS (ZG fun A hA => rn_tmod rfl rfl (by decide)) (Zt 6 [7, 8, 9] rfl hS (Zr (Zg rfl)) (Zt 7 [8, 9] rfl hS (Zr (Zf f_175_2 rfl)) (XK 8 _ _ rfl rfl (by kernel_rfl) (ZG fun A _ => rn_limbo rfl rfl (by omega)) ?_))))))))
  replace hX := hX.tr hS
  replace B77 := Zx B77 hS; replace B1 := Zx B1 hS
  refine Zo 9 rfl (ZK (ZN (b := b77) (i := (now + 1).toNat % 3 + 2) XT rfl (by conv => lhs; whnf) rfl rfl B77 (by simp only [List.length_set, List.length_cons]; omega) ?_)); intro w6 E6 B77 hz6
  replace hX := hX.mine E6 hl77
  refine Zz ?_
  refine ZZ (by kernel_rfl) ?_ _
  refine Zs (Zm (Za (Za ?_)))
  refine Zc (ZB ?_)
  exact ⟨_, Qd (Zh rfl) (Zh rfl), hX, ⟨rfl, B77⟩⟩
end Go.Proofs.YtjklgohpminefaaGreatDoorC
