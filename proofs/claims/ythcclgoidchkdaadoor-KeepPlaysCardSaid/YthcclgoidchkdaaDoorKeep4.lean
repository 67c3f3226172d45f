/- The law KeepLast. -/
import Derived.Test.YthcclgoidchkdaaDoorKeep3
import Derived.Test.YthcclgoidchkdaaDoorKp
set_option linter.unusedVariables false
set_option linter.unusedSimpArgs false
set_option maxRecDepth 100000
namespace Go.Proofs.YthcclgoidchkdaaDoorC
open Go.RowKit
theorem kK_sorted {ks : List Str} (h : Sorted ltS ks) (t p : Str) : Sorted ltS (kK ks t p) := by unfold kK; split; exact dropK_sorted h t; exact putK_sorted lo_str h t
theorem kK_len (ks : List Str) (t p : Str) : (kK ks t p).length ≤ ks.length + 1 := by
  unfold kK; split
  · have := dropK_len (lt := ltS) ks t; omega
  · have := putK_len (lt := ltS) ks t; omega
theorem kK_mem {ks : List Str} (h : Sorted ltS ks) (t p : Str) {y : Str} (hy : y ∈ kK ks t p) : y = t ∨ y ∈ ks := by
  unfold kK at hy; split at hy
  · exact .inr ((dropK_sub ks t).subset hy)
  · exact (putK_mem lo_str h t y).1 hy
theorem kY_len {ks : List Str} {ys : List (Str × Int)} (h : ys.length = ks.length) (ver : Int) (t p : Str) : (kY ks ys ver t p).length = (kK ks t p).length := by unfold kY kK; split; exact dropV_len h; exact putW_len h
theorem kK_at {ks : List Str} (h : Sorted ltS ks) (t p : Str) : isAt ltS (kK ks t p) t = decide (p ≠ []) := by
  unfold kK; split
  · rename_i hp; rw [drop_not lo_str h t, hp]; simp
  · rename_i hp; rw [(put_at lo_str h t).1]; simp [hp]
theorem kGet_k {ks : List Str} {ys : List (Str × Int)} (h : Sorted ltS ks) (hle : ys.length = ks.length) (ver : Int) (t p : Str) : (kGet (kK ks t p) (kY ks ys ver t p) t).1 = p ∧ (p ≠ [] → (kGet (kK ks t p) (kY ks ys ver t p) t).2 = ver + 1) := by
  by_cases hp : p = []
  · rw [kGet_no (by rw [kK_at h]; simp [hp])]; exact ⟨hp.symm, fun h => absurd hp h⟩
  · have h1 : isAt ltS (kK ks t p) t = true := by rw [kK_at h]; simp [hp]
    have h2 : (kY ks ys ver t p)[lb ltS (kK ks t p) t]? = some (p, ver + 1) := by
      unfold kK kY; rw [if_neg hp, if_neg hp, (put_at lo_str h t).2]; exact putW_get hle
    rw [kGet_yes h1 h2]; exact ⟨rfl, fun _ => rfl⟩
theorem kGet_at {ks : List Str} {ys : List (Str × Int)} (h : Sorted ltS ks) (hle : ys.length = ks.length) {i : Nat} {k : Str} {y : Str × Int} (hk : ks[i]? = some k) (hy : ys[i]? = some y) : isAt ltS ks k = true ∧ kGet ks ys k = y := by
  have h1 := (key_at lo_str h (x := k) hk).2.1 rfl
  exact ⟨h1.1, kGet_yes h1.1 (by rw [← h1.2]; exact hy)⟩
theorem filter_tt {α : Type} (l : List α) : (l.filter fun _ => true) = l := List.filter_eq_self.2 (by simp)
theorem zip_get {α β : Type} {l : List α} {m : List β} {i : Nat} {x : α × β} (h : (l.zip m)[i]? = some x) : l[i]? = some x.1 ∧ m[i]? = some x.2 := by simpa [List.getElem?_zip_eq_some] using h
theorem eM_at {l : List (Str × (Str × Int))} {i : Nat} {x : Str × (Str × Int)} (h : l[i]? = some x) : (l.map eM1)[i]? = some [Sv x.1, Sv x.2.1, .bool true] := by simp [h, eM1]
end Go.Proofs.YthcclgoidchkdaaDoorC
