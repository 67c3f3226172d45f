/- How arguments of calls, operations, numbers read; the library's table of powers, off the row. -/
import Derived.Test.YthcclgoidchkdaaDoorTopRow
import Derived.Test.YthcclgoidchkdaaDoorItoa
import Derived.Test.YthcclgoidchkdaaDoorRows
set_option linter.unusedVariables false
set_option linter.unusedSimpArgs false
namespace Go.Proofs.YthcclgoidchkdaaDoor
open Go.RowKit Go.Proofs.YthcclgoidchkdaaDoorC Go.ChangeShapes
theorem call_flat : flatT Tryd.prog 5 38 = some [.int .i64, .int .i64, .int .i64, .int .i64, .str, .str, .bool, .int .i64, .int .i64, .int .i64, .str, .str, .bool, .int .i64, .int .i64] := by kernel_rfl
theorem calls_of : ∀ (rows : List (List Value)), (∀ r ∈ rows, flatOk [.int .i64, .int .i64, .int .i64, .int .i64, .str, .str, .bool, .int .i64, .int .i64, .int .i64, .str, .str, .bool, .int .i64, .int .i64] r) → ∃ cs : List CallD, rows = cs.map CallD.enc
  | [], _ => ⟨[], rfl⟩
  | r :: rows, h => by
    obtain ⟨cs, hcs⟩ := calls_of rows (fun x hx => h x (by simp [hx]))
    have hr := h r (by simp)
    obtain ⟨_, r1, e1, ⟨a1, rfl, _⟩, h1⟩ := hr.cons
    obtain ⟨_, r2, e2, ⟨a2, rfl, _⟩, h2⟩ := h1.cons
    obtain ⟨_, r3, e3, ⟨a3, rfl, _⟩, h3⟩ := h2.cons
    obtain ⟨_, r4, e4, ⟨a4, rfl, _⟩, h4⟩ := h3.cons
    obtain ⟨_, r5, e5, ⟨a5, rfl, _⟩, h5⟩ := h4.cons
    obtain ⟨_, r6, e6, ⟨a6, rfl, _⟩, h6⟩ := h5.cons
    obtain ⟨_, r7, e7, ⟨a7, rfl⟩, h7⟩ := h6.cons
    obtain ⟨_, r8, e8, ⟨a8, rfl, _⟩, h8⟩ := h7.cons
    obtain ⟨_, r9, e9, ⟨a9, rfl, _⟩, h9⟩ := h8.cons
    obtain ⟨_, r10, e10, ⟨a10, rfl, _⟩, h10⟩ := h9.cons
    obtain ⟨_, r11, e11, ⟨a11, rfl, _⟩, h11⟩ := h10.cons
    obtain ⟨_, r12, e12, ⟨a12, rfl, _⟩, h12⟩ := h11.cons
    obtain ⟨_, r13, e13, ⟨a13, rfl⟩, h13⟩ := h12.cons
    obtain ⟨_, r14, e14, ⟨a14, rfl, _⟩, h14⟩ := h13.cons
    obtain ⟨_, r15, e15, ⟨a15, rfl, _⟩, h15⟩ := h14.cons
    have e16 := h15.nil
    exact ⟨⟨a1, a2, ⟨a3, a4, a5, a6, a7⟩, ⟨a8, a9, a10, ⟨a11, a12, a13⟩⟩, a14, a15⟩ :: cs, by rw [hcs, e1, e2, e3, e4, e5, e6, e7, e8, e9, e10, e11, e12, e13, e14, e15, e16]; rfl⟩
theorem op_flat : flatT Tryd.prog 5 29 = some [.int .i64, .int .i64, .str, .str, .bool] := by kernel_rfl
theorem ops_of : ∀ (rows : List (List Value)), (∀ r ∈ rows, flatOk [.int .i64, .int .i64, .str, .str, .bool] r) → ∃ cs : List OpD, rows = cs.map OpD.enc
  | [], _ => ⟨[], rfl⟩
  | r :: rows, h => by
    obtain ⟨cs, hcs⟩ := ops_of rows (fun x hx => h x (by simp [hx]))
    have hr := h r (by simp)
    obtain ⟨_, r1, e1, ⟨a1, rfl, _⟩, h1⟩ := hr.cons
    obtain ⟨_, r2, e2, ⟨a2, rfl, _⟩, h2⟩ := h1.cons
    obtain ⟨_, r3, e3, ⟨a3, rfl, _⟩, h3⟩ := h2.cons
    obtain ⟨_, r4, e4, ⟨a4, rfl, _⟩, h4⟩ := h3.cons
    obtain ⟨_, r5, e5, ⟨a5, rfl⟩, h5⟩ := h4.cons
    have e6 := h5.nil
    exact ⟨⟨a1, a2, a3, a4, a5⟩ :: cs, by rw [hcs, e1, e2, e3, e4, e5, e6]; rfl⟩
theorem int_flat : flatT Tryd.prog 1 3 = some [.int .i64] := by kernel_rfl
theorem ints_of : ∀ (rows : List (List Value)), (∀ r ∈ rows, flatOk [.int .i64] r) → ∃ l : List Int, rows = l.map eI1
  | [], _ => ⟨[], rfl⟩
  | r :: rows, h => by
    obtain ⟨l, hl⟩ := ints_of rows (fun x hx => h x (by simp [hx]))
    obtain ⟨_, r1, e1, ⟨a1, rfl, _⟩, h1⟩ := (h r (by simp)).cons
    have e2 := h1.nil
    exact ⟨a1 :: l, by rw [hl, e1, e2]; rfl⟩
theorem laidMet_tail {P : Program} {W : World} {x : String × DataW Unit} {r : List (String × DataW Unit)} (h : laidMet P (x :: r) W) : laidMet P r W := by
  obtain ⟨ps, ⟨g, t, cs, fuel, p, q, _, _, _, _, hq, rfl⟩, hn, hp⟩ := h
  exact ⟨q, hq, (List.nodup_append.1 hn).2.1, fun b off hb => hp b off (by simp [hb])⟩
theorem laidMet_mem {P : Program} {W : World} : ∀ {L : List (String × DataW Unit)}, laidMet P L W → ∀ x ∈ L, ∃ r, laidMet P (x :: r) W
  | [], _, x, hx => by cases hx
  | y :: r, h, x, hx => by
    rcases List.mem_cons.1 hx with rfl | hx
    · exact ⟨r, h⟩
    · exact laidMet_mem (laidMet_tail h) x hx
theorem tab_ty : (Tryd.prog.globalNamed "internal/strconv.uint64pow10").bind (fun g => (Tryd.prog.globals[g]?).map (·.type)) = some 262 := by kernel_rfl
theorem tab_data : (Rows.laid_internal_strconv_uint64pow10 : DataW Unit) = Lib.tabData .u64 Lib.pow10Tab := by kernel_rfl
/-- The table stands, where the row's list names it. -/
theorem tab_of {L : List (String × DataW Unit)} {W : World} (hp : (L.all fun x => x.2.handleName?.isNone) = true) (h : laidMetH Tryd.prog L W) (hm : ("internal/strconv.uint64pow10", Rows.laid_internal_strconv_uint64pow10) ∈ L) : Tab W := by
  rw [MakeChecks.laidMetH_plain _ _ _ hp] at h
  obtain ⟨r, h⟩ := laidMet_mem h _ hm
  rw [tab_data] at h
  cases hg : Tryd.prog.globalNamed "internal/strconv.uint64pow10" with
  | none => have := tab_ty; rw [hg] at this; cases this
  | some g =>
    have hty := tab_ty
    rw [hg] at hty
    exact Lib.tabIs_of_head hg hty (n := 20) (e := 150) (by kernel_rfl) (by kernel_rfl) (by kernel_rfl) (by kernel_rfl) h
end Go.Proofs.YthcclgoidchkdaaDoor
