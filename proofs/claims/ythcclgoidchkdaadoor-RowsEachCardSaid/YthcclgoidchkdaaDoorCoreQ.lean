/- Iterators that range over other iterators: how it stands, by the set of the blocks that are its own; each rule holds of whatever program. -/
import Derived.Test.YthcclgoidchkdaaDoorCoreP
set_option linter.unusedVariables false
set_option linter.unusedSimpArgs false
namespace Go.Proofs.YthcclgoidchkdaaDoorC
open Go.RowKit
variable {P : Program}
/-- How it stands in an iterator's walk that began in W: what is said of the rounds so far holds; w0 but M is as it was; the blocks S are its own. -/
structure Ts (M : Nat → Prop) (w0 W : World) (J : (Nat → Prop) → World → Prop) (S : Nat → Prop) (A : World) : Prop where
  stab : Stab W.heap.size J
  beg : Ext M w0 W
  ex : ∃ N, (∀ i, N i → W.heap.size ≤ i ∧ i < A.heap.size) ∧ W.heap.size ≤ A.heap.size ∧ J N A ∧ ∀ b, S b → N b
  w0 : Ext M w0 A
variable {M F : Nat → Prop} {w0 W A B : World} {J : (Nat → Prop) → World → Prop} {S S' : Nat → Prop} {bs : List Nat}
theorem Ts.less (h : Ts M w0 W J S A) (hb : ∀ b, S' b → S b) : Ts M w0 W J S' A :=
  ⟨h.stab, h.beg, by obtain ⟨N, h1, h2, h3, h4⟩ := h.ex; exact ⟨N, h1, h2, h3, fun b hb' => h4 b (hb b hb')⟩, h.w0⟩
theorem Tl.ts (h : Tl M w0 W J bs A) : Ts M w0 W J (fun i => i ∈ bs) A := ⟨h.stab, h.beg, h.ex, h.w0⟩
/-- Whatever was written lies among S; what was made is added. -/
theorem Ts.add (h : Ts M w0 W J S A) (hE : Ext F A B) (hF : ∀ i, F i → S i) : Ts M w0 W J (fun i => S i ∨ (A.heap.size ≤ i ∧ i < B.heap.size)) B := by
  obtain ⟨N, h1, h2, h3, h4⟩ := h.ex
  have hE' : Ext N A B := hE.mono fun i hi => h4 i (hF i hi)
  refine ⟨h.stab, h.beg, ⟨grow N A B, ?_, Nat.le_trans h2 hE.size, h.stab N A B (fun i hi => (h1 i hi).1) h2 h3 hE', ?_⟩, ?_⟩
  · rintro i (hi | ⟨ha, hb⟩)
    · exact ⟨(h1 i hi).1, Nat.lt_of_lt_of_le (h1 i hi).2 hE.size⟩
    · exact ⟨Nat.le_trans h2 ha, hb⟩
  · rintro b (hb | hb)
    · exact .inl (h4 b hb)
    · exact .inr hb
  · have hz := h.beg.size
    exact ⟨hE.os.trans h.w0.os, hE.tape.trans h.w0.tape, hE.output.trans h.w0.output, Nat.le_trans h.w0.size hE.size, fun i hi hm => (hE.block i (Nat.lt_of_lt_of_le hi h.w0.size) (fun hf => by have := (h1 i (h4 i (hF i hf))).1; omega)).trans (h.w0.block i hi hm)⟩
theorem Ts.ext (h : Ts M w0 W J S A) (hE : Ext F A B) (hF : ∀ i, F i → S i) : Ts M w0 W J S B := (h.add hE hF).less fun _ h => .inl h
theorem Ts.tr (h : Ts M w0 W J S A) (hE : Ext Non A B) : Ts M w0 W J S B := h.ext hE fun _ h => h.elim
/-- All that was made since the walk's begin is its own. -/
abbrev Al (W A : World) : Nat → Prop := fun i => W.heap.size ≤ i ∧ i < A.heap.size
theorem Ts.all0 (h : Ts M w0 W J Non W) : Ts M w0 W J (Al W W) W := h.less fun i hi => absurd hi.2 (by have := hi.1; omega)
end Go.Proofs.YthcclgoidchkdaaDoorC
