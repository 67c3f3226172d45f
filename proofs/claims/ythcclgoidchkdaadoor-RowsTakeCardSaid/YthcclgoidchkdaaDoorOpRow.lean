/- The library's two errors, off the row. -/
import Derived.Test.YthcclgoidchkdaaDoorLinRow
import Derived.Test.YthcclgoidchkdaaDoorOpAb
import Derived.LaidLaws
set_option linter.unusedVariables false
set_option linter.unusedSimpArgs false
namespace Go.Proofs.YthcclgoidchkdaaDoor
open Go.RowKit Go.Proofs.YthcclgoidchkdaaDoorC Go.ChangeShapes
theorem err_at {P : Program} {n name : String} {d : DataW Unit} {r : List (String × DataW Unit)} {W : World} {g : Nat} {ti : TypeId} {ms : Array (String × TypeId)} (hg : P.globalNamed n = some g) (hty : (P.globals[g]?).map (·.type) = some ti) (hi : P.underlying ti = some (.interface ms))
    (h : laidMet P ((n, .iface name d) :: r) W) : ∃ t p, W.cell? ⟨g, 0, none⟩ = some (.iface t p) := by
  obtain ⟨ps, ⟨g', t, cs, fuel, p, q, h1, h2, h3, h4, h5, h6⟩, _, _⟩ := h
  rw [hg] at h1; cases h1
  rw [hty] at h2; cases h2
  obtain ⟨f', u, v, hc, _⟩ := iface_of_trod hi h4
  refine ⟨u, v, ?_⟩
  unfold World.var? at h3
  rw [hg] at h3
  simp only [Option.bind_some] at h3
  cases hh : W.heap[g]? with
  | none => rw [hh] at h3; cases h3
  | some o =>
    rw [hh] at h3
    cases o with
    | cells c a b =>
      simp only [Option.some.injEq] at h3
      subst h3
      have : c = #[.iface u v] := by rw [← Array.toList_inj]; simpa using hc
      simp [World.cell?, hh, this]
    | _ => cases h3
theorem errs_of {L : List (String × DataW Unit)} {W : World} (hp : (L.all fun x => x.2.handleName?.isNone) = true) (h : laidMetH Tryd.prog L W) (h1 : ("strconv.ErrSyntax", Rows.laid_strconv_ErrSyntax) ∈ L) (h2 : ("strconv.ErrRange", Rows.laid_strconv_ErrRange) ∈ L) : ErrS W := by
  rw [MakeChecks.laidMetH_plain _ _ _ hp] at h
  obtain ⟨r1, k1⟩ := laidMet_mem h _ h1
  obtain ⟨r2, k2⟩ := laidMet_mem h _ h2
  exact ⟨err_at (n := "strconv.ErrSyntax") (ti := 146) (by kernel_rfl) (by kernel_rfl) Tryd.underlying146 k1, err_at (n := "strconv.ErrRange") (ti := 146) (by kernel_rfl) (by kernel_rfl) Tryd.underlying146 k2⟩
/-- A struct of flat fields reads as its cells. -/
theorem open_agg {H : Type} {enc : TypeId × Value → H} {P : Program} {w : World} {base : Nat} {spare : Nat → Bool} {held : Bool} {t : TypeId} {n : Nat} {ks : List FK} (hf : flatT P n t = some ks) {fs : Array Field} (ht : P.underlying t = some (.struct fs)) {v : Value} {d : DataW H} {p : List MemPlace} {W : World} {r : Reach} {b0 : Nat} (h : DataW.Trod enc P w base spare held t v d p) (hv : Value.okWide P W r b0 t v) :
    ∃ cs : List Value, v = .agg cs.toArray ∧ flatOk ks cs := by
  obtain ⟨cs, rfl, _⟩ := WideShapes.okWide_struct ht hv
  obtain ⟨fuel, h⟩ := h
  have := flat_of_trod n t ks fuel _ _ hf h
  exact ⟨cs.toList, by simp, this⟩
end Go.Proofs.YthcclgoidchkdaaDoor
