/- How arguments of calls, operations, numbers read; the library's table of powers, off the row. -/
import Derived.Test.YthcclgoidchkdaaDoorTopRow
import Derived.Test.YthcclgoidchkdaaDoorItoa
import Derived.Test.YthcclgoidchkdaaDoorRows
set_option linter.unusedVariables false
set_option linter.unusedSimpArgs false
namespace Go.Proofs.YthcclgoidchkdaaDoor
open Go.RowKit Go.Proofs.YthcclgoidchkdaaDoorC Go.ChangeShapes
theorem call_flat : flatT Tryd.prog 5 38 = some [.int .i64, .int .i64, .int .i64, .int .i64, .str, .str, .bool, .int .i64, .int .i64, .int .i64, .str, .str, .bool, .int .i64, .int .i64] := by kernel_rfl
theorem laidMet_tail {P : Program} {W : World} {x : String × DataW Unit} {r : List (String × DataW Unit)} (h : laidMet P (x :: r) W) : laidMet P r W := by
  obtain ⟨ps, ⟨g, t, cs, fuel, p, q, _, _, _, _, hq, rfl⟩, hn, hp⟩ := h
  exact ⟨q, hq, (List.nodup_append.1 hn).2.1, fun b off hb => hp b off (by simp [hb])⟩
theorem laidMet_mem {P : Program} {W : World} : ∀ {L : List (String × DataW Unit)}, laidMet P L W → ∀ x ∈ L, ∃ r, laidMet P (x :: r) W
  | [], _, x, hx => by cases hx
  | y :: r, h, x, hx => by
    rcases List.mem_cons.1 hx with rfl | hx
    · exact ⟨r, h⟩
    · exact laidMet_mem (laidMet_tail h) x hx
theorem tab_ty : (Tryd.prog.globalNamed "internal/strconv.uint64pow10").bind (fun g => (Tryd.prog.globals[g]?).map (·.type)) = some 262 := by kernel_rfl
theorem tab_data : (Rows.laid_internal_strconv_uint64pow10 : DataW Unit) = Lib.tabData .u64 Lib.pow10Tab := by kernel_rfl
/-- The table stands, where the row's list names it. -/
theorem tab_of {L : List (String × DataW Unit)} {W : World} (hp : (L.all fun x => x.2.handleName?.isNone) = true) (h : laidMetH Tryd.prog L W) (hm : ("internal/strconv.uint64pow10", Rows.laid_internal_strconv_uint64pow10) ∈ L) : Tab W := by
  rw [MakeChecks.laidMetH_plain _ _ _ hp] at h
  obtain ⟨r, h⟩ := laidMet_mem h _ hm
  rw [tab_data] at h
  cases hg : Tryd.prog.globalNamed "internal/strconv.uint64pow10" with
  | none => have := tab_ty; rw [hg] at this; cases this
  | some g =>
    have hty := tab_ty
    rw [hg] at hty
    exact Lib.tabIs_of_head hg hty (n := 20) (e := 150) (by kernel_rfl) (by kernel_rfl) (by kernel_rfl) (by kernel_rfl) h
end Go.Proofs.YthcclgoidchkdaaDoor
