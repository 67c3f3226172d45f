/- A range over a function that writes what it has captured: an iterator that may be gone through once; each rule holds of whatever program. -/
import Derived.Test.YthcclgoidchkdaaDoorCoreQ
set_option linter.unusedVariables false
set_option linter.unusedSimpArgs false
namespace Go.Proofs.YthcclgoidchkdaaDoorC
open Go.RowKit
variable {ro : Option Nat} {P : Program} {n : Nat} {Q : Post} {σ : Env} {D : List Deferred} {w : World}
/-- As Stab, of an owner of E0 too. -/
def StabE (E0 : Nat → Prop) (n0 : Nat) (J : (Nat → Prop) → World → Prop) : Prop :=
  ∀ N A B, (∀ i, N i → E0 i ∨ n0 ≤ i) → n0 ≤ A.heap.size → J N A → Ext N A B → J (grow N A B) B
/-! ### the walk of such an iterator's own code -/
structure Te (M : Nat → Prop) (w0 W : World) (E0 : Nat → Prop) (J : (Nat → Prop) → World → Prop) (S : Nat → Prop) (A : World) : Prop where
  stab : StabE E0 W.heap.size J
  beg : Ext M w0 W
  ex : ∃ N, (∀ i, N i → (E0 i ∨ W.heap.size ≤ i) ∧ i < A.heap.size) ∧ (∀ i, E0 i → N i) ∧ W.heap.size ≤ A.heap.size ∧ J N A ∧ ∀ b, S b → N b
  w0 : Ext (fun i => M i ∨ E0 i) w0 A
variable {M F : Nat → Prop} {w0 W A B : World} {J : (Nat → Prop) → World → Prop} {S S' E0 : Nat → Prop}
theorem Te.ext (h : Te M w0 W E0 J S A) (hE : Ext F A B) (hF : ∀ i, F i → S i) : Te M w0 W E0 J S B := by
  obtain ⟨N, h1, h0, h2, h3, h4⟩ := h.ex
  have hE' : Ext N A B := hE.mono fun i hi => h4 i (hF i hi)
  refine ⟨h.stab, h.beg, ⟨grow N A B, ?_, fun i hi => .inl (h0 i hi), Nat.le_trans h2 hE.size, h.stab N A B (fun i hi => (h1 i hi).1) h2 h3 hE', fun b hb => .inl (h4 b hb)⟩, ?_⟩
  · rintro i (hi | ⟨ha, hb⟩)
    · exact ⟨(h1 i hi).1, Nat.lt_of_lt_of_le (h1 i hi).2 hE.size⟩
    · exact ⟨.inr (Nat.le_trans h2 ha), hb⟩
  · have hz := h.beg.size
    refine ⟨hE.os.trans h.w0.os, hE.tape.trans h.w0.tape, hE.output.trans h.w0.output, Nat.le_trans h.w0.size hE.size, fun i hi hm => (hE.block i (Nat.lt_of_lt_of_le hi h.w0.size) (fun hf => ?_)).trans (h.w0.block i hi hm)⟩
    rcases (h1 i (h4 i (hF i hf))).1 with h | h
    · exact hm (.inr h)
    · omega
theorem Te.tr (h : Te M w0 W E0 J S A) (hE : Ext Non A B) : Te M w0 W E0 J S B := h.ext hE fun _ h => h.elim
end Go.Proofs.YthcclgoidchkdaaDoorC
