/- How calls read, with their numbers' bounds. -/
import Derived.Test.YthcclgoidchkdaaDoorOpRow
import Derived.Test.YthcclgoidchkdaaDoorRow4
set_option linter.unusedVariables false
set_option linter.unusedSimpArgs false
namespace Go.Proofs.YthcclgoidchkdaaDoor
open Go.RowKit Go.Proofs.YthcclgoidchkdaaDoorC Go.ChangeShapes
theorem i64_rng {n : Int} (h : (Lit.int .i64 n).wf = true) : I64 n := by
  simp only [Lit.wf, IntKind.min, IntKind.max, IntKind.signed, IntKind.bits, Bool.and_eq_true, decide_eq_true_eq] at h
  exact ⟨by simpa using h.1, by simpa using h.2⟩
theorem callW_of (cs : List Value) (hr : flatOk [.int .i64, .int .i64, .int .i64, .int .i64, .str, .str, .bool, .int .i64, .int .i64, .int .i64, .str, .str, .bool, .int .i64, .int .i64] cs) : ∃ c : CallD, cs = c.enc ∧ CallI c := by
  obtain ⟨_, r1, e1, ⟨a1, rfl, w1⟩, h1⟩ := hr.cons
  obtain ⟨_, r2, e2, ⟨a2, rfl, w2⟩, h2⟩ := h1.cons
  obtain ⟨_, r3, e3, ⟨a3, rfl, _⟩, h3⟩ := h2.cons
  obtain ⟨_, r4, e4, ⟨a4, rfl, _⟩, h4⟩ := h3.cons
  obtain ⟨_, r5, e5, ⟨a5, rfl, _⟩, h5⟩ := h4.cons
  obtain ⟨_, r6, e6, ⟨a6, rfl, _⟩, h6⟩ := h5.cons
  obtain ⟨_, r7, e7, ⟨a7, rfl⟩, h7⟩ := h6.cons
  obtain ⟨_, r8, e8, ⟨a8, rfl, w8⟩, h8⟩ := h7.cons
  obtain ⟨_, r9, e9, ⟨a9, rfl, w9⟩, h9⟩ := h8.cons
  obtain ⟨_, r10, e10, ⟨a10, rfl, w10⟩, h10⟩ := h9.cons
  obtain ⟨_, r11, e11, ⟨a11, rfl, _⟩, h11⟩ := h10.cons
  obtain ⟨_, r12, e12, ⟨a12, rfl, _⟩, h12⟩ := h11.cons
  obtain ⟨_, r13, e13, ⟨a13, rfl⟩, h13⟩ := h12.cons
  obtain ⟨_, r14, e14, ⟨a14, rfl, w14⟩, h14⟩ := h13.cons
  obtain ⟨_, r15, e15, ⟨a15, rfl, w15⟩, h15⟩ := h14.cons
  have e16 := h15.nil
  exact ⟨⟨a1, a2, ⟨a3, a4, a5, a6, a7⟩, ⟨a8, a9, a10, ⟨a11, a12, a13⟩⟩, a14, a15⟩, by rw [e1, e2, e3, e4, e5, e6, e7, e8, e9, e10, e11, e12, e13, e14, e15, e16]; rfl, ⟨i64_rng w1, i64_rng w2, i64_rng w14, i64_rng w15, i64_rng w8, i64_rng w9, i64_rng w10⟩⟩
theorem callsW_of : ∀ (rows : List (List Value)), (∀ r ∈ rows, flatOk [.int .i64, .int .i64, .int .i64, .int .i64, .str, .str, .bool, .int .i64, .int .i64, .int .i64, .str, .str, .bool, .int .i64, .int .i64] r) → ∃ l : List CallD, rows = l.map CallD.enc ∧ ∀ c ∈ l, CallI c
  | [], _ => ⟨[], rfl, fun c h => by cases h⟩
  | r :: rows, h => by
    obtain ⟨l, hl, hw⟩ := callsW_of rows (fun x hx => h x (by simp [hx]))
    obtain ⟨c, hc, hi⟩ := callW_of r (h r (by simp))
    exact ⟨c :: l, by rw [hl, hc]; rfl, fun x hx => by rcases List.mem_cons.1 hx with rfl | hx; exact hi; exact hw x hx⟩
end Go.Proofs.YthcclgoidchkdaaDoor
