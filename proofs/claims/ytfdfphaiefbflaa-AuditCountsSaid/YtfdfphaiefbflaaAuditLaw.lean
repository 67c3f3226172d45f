/- AuditCounts: its row. -/
import Derived.Test.YtfdfphaiefbflaaAudit2
import Derived.Test.YtfdfphaiefbflaaRows
set_option linter.unusedVariables false
set_option linter.unusedSimpArgs false
namespace Go.Proofs.Ytfdfphaiefbflaa
open Go.RowKit Go.Proofs.YtfdfphaiefbflaaC Go.ChangeShapes
theorem call_flat : flatT Try.prog 5 102 = some [.int .i64, .int .i64, .int .i64, .int .i64, .str, .str, .bool, .int .i64, .int .i64, .int .i64, .str, .str, .bool, .int .i64, .int .i64] := by kernel_rfl
theorem calls_of : ∀ (rows : List (List Value)), (∀ r ∈ rows, flatOk [.int .i64, .int .i64, .int .i64, .int .i64, .str, .str, .bool, .int .i64, .int .i64, .int .i64, .str, .str, .bool, .int .i64, .int .i64] r) → ∃ cs : List CallD, rows = cs.map CallD.enc
  | [], _ => ⟨[], rfl⟩
  | r :: rows, h => by
    obtain ⟨cs, hcs⟩ := calls_of rows (fun x hx => h x (by simp [hx]))
    have hr := h r (by simp)
    obtain ⟨_, r1, e1, ⟨a1, rfl, _⟩, h1⟩ := hr.cons
    obtain ⟨_, r2, e2, ⟨a2, rfl, _⟩, h2⟩ := h1.cons
    obtain ⟨_, r3, e3, ⟨a3, rfl, _⟩, h3⟩ := h2.cons
    obtain ⟨_, r4, e4, ⟨a4, rfl, _⟩, h4⟩ := h3.cons
    obtain ⟨_, r5, e5, ⟨a5, rfl, _⟩, h5⟩ := h4.cons
    obtain ⟨_, r6, e6, ⟨a6, rfl, _⟩, h6⟩ := h5.cons
    obtain ⟨_, r7, e7, ⟨a7, rfl⟩, h7⟩ := h6.cons
    obtain ⟨_, r8, e8, ⟨a8, rfl, _⟩, h8⟩ := h7.cons
    obtain ⟨_, r9, e9, ⟨a9, rfl, _⟩, h9⟩ := h8.cons
    obtain ⟨_, r10, e10, ⟨a10, rfl, _⟩, h10⟩ := h9.cons
    obtain ⟨_, r11, e11, ⟨a11, rfl, _⟩, h11⟩ := h10.cons
    obtain ⟨_, r12, e12, ⟨a12, rfl, _⟩, h12⟩ := h11.cons
    obtain ⟨_, r13, e13, ⟨a13, rfl⟩, h13⟩ := h12.cons
    obtain ⟨_, r14, e14, ⟨a14, rfl, _⟩, h14⟩ := h13.cons
    obtain ⟨_, r15, e15, ⟨a15, rfl, _⟩, h15⟩ := h14.cons
    have e16 := h15.nil
    exact ⟨⟨a1, a2, ⟨a3, a4, a5, a6, a7⟩, ⟨a8, a9, a10, ⟨a11, a12, a13⟩⟩, a14, a15⟩ :: cs, by rw [hcs, e1, e2, e3, e4, e5, e6, e7, e8, e9, e10, e11, e12, e13, e14, e15, e16]; rfl⟩
theorem own : ownKnob Try.prog.godebug = none := by kernel_rfl
theorem laidOut : laidOutB Try.prog = true := by kernel_rfl
set_option maxHeartbeats 800000 in
set_option maxRecDepth 100000 in
theorem auditCounts_lifted (os : Os) (started : os.Started) (H : Type) (enc : TypeId × Value → H) :
    ReturnsInHanded {} Try.checked os 3 .any (Rows.auditCountsSpec.pre6 enc Try.prog Try.f3 Rows.auditCountsRow.domain false) (Rows.auditCountsSpec.post enc Try.prog Try.f3 false true false false) := by
  refine law_lifted (tb := 4) own started (by kernel_rfl) Try.func3
    (ChangeSpec.witness6 (enc := enc) (C := Try.checked) false ⟨#[], #[.slice none 0 0, .int .i64 0, .int .u8 0], []⟩ 8 (by kernel_rfl) (by kernel_rfl) (by kernel_rfl) (by kernel_rfl))
    laidOut (by kernel_rfl) (by kernel_rfl) (by kernel_rfl) rfl ?_ ?_
  · intro ds h
    match ds, h with
    | [_, _, _], _ => rfl
  · intro W base args ds ps hval hA
    have hA' : DataW.TrodAll enc Try.prog W 0 (fun _ => true) true Try.f3.params.toList args.toList ds ps := hA
    have hval' : ∀ (j : Nat) t v, Try.f3.params[j]? = some t → args[j]? = some v → Value.okWide Try.prog W .any base t v := hval
    rw [Try.params3] at hA' hval'
    obtain ⟨v0, v1, v2, d0, d1, d2, p0, p1, p2, rfl, rfl, rfl, h0, h1, h2⟩ := trodAll_three hA'
    obtain ⟨rows, hs, hr⟩ := open_rows sl_22 call_flat rfl (by decide) h0 (WideShapes.okWide_slice sl_22.under (hval' 0 _ v0 rfl rfl))
    obtain ⟨cs, rfl⟩ := calls_of rows hr
    obtain ⟨sub, rfl, _⟩ := open_num ui_3 h1 (WideShapes.okWide_int ui_3 (hval' 1 _ v1 rfl rfl))
    obtain ⟨few, rfl, hf⟩ := open_num ui_5 h2 (WideShapes.okWide_int ui_5 (hval' 2 _ v2 rfl rfl))
    have hf' : 0 ≤ few ∧ few ≤ 255 := by
      simp only [Lit.wf, IntKind.min, IntKind.max, IntKind.signed, IntKind.bits] at hf
      simpa using hf
    exact law_ok W cs sub few hf'.1 hf'.2 hs
/-- THE ROW HOLDS. -/
theorem auditCounts_holds : Rows.AuditCountsSaid :=
  OpenClaim.holds_of_wide 3 Try.f3 rfl rfl rfl rfl rfl rfl rfl ⟨rfl, rfl, rfl, rfl, rfl⟩ rfl rfl rfl rfl rfl (by kernel_rfl) Try.func3 (by kernel_rfl)
    (of_decide_eq_true (by kernel_rfl)) (by unfold Func.isWrapper; first | (rw [if_pos (by decide +kernel)]; kernel_rfl) | (rw [if_neg (by decide +kernel)]; exact ⟨rfl, rfl⟩))
    (fun os started H enc _ => auditCounts_lifted os started H enc)
#print axioms auditCounts_holds
end Go.Proofs.Ytfdfphaiefbflaa
