/- Levels of a text, topics, filters, and which matches which: plain lists. -/
import Derived.Test.YthcclgoidchkdaaDoorStr
set_option linter.unusedVariables false
set_option linter.unusedSimpArgs false
namespace Go.Proofs.YthcclgoidchkdaaDoorC
open Go.RowKit

/-- What stands between the bytes b. -/
def spl (b : UInt8) : Str → List Str
  | [] => [[]]
  | c :: s => if c = b then [] :: spl b s else match spl b s with
    | [] => [[c]]
    | l :: r => (c :: l) :: r
theorem spl_ne (b : UInt8) (s : Str) : spl b s ≠ [] := by
  cases s with
  | nil => simp [spl]
  | cons c s =>
    simp only [spl]; split
    · simp
    · split <;> simp
theorem spl_eq (b : UInt8) (s : Str) : spl b (b :: s) = [] :: spl b s := by simp [spl]
theorem spl_neq {b c : UInt8} {s : Str} (h : c ≠ b) {l : Str} {r : List Str} (hs : spl b s = l :: r) : spl b (c :: s) = (c :: l) :: r := by simp [spl, h, hs]
theorem spl_ex (b : UInt8) (s : Str) : ∃ l r, spl b s = l :: r := by
  cases h : spl b s with
  | nil => exact absurd h (spl_ne b s)
  | cons l r => exact ⟨l, r, rfl⟩
theorem spl_app (b : UInt8) : ∀ (p q : Str) {out : List Str} {t h : Str} {r : List Str}, spl b p = out ++ [t] → spl b q = h :: r → spl b (p ++ q) = out ++ (t ++ h) :: r
  | [], q, out, t, h, r, hp, hq => by
    cases out with
    | nil =>
      have : t = [] := by simpa [spl] using hp.symm
      subst this; simpa using hq
    | cons x xs => simp [spl] at hp
  | c :: p, q, out, t, h, r, hp, hq => by
    rw [List.cons_append]
    by_cases hc : c = b
    · subst hc
      rw [spl_eq] at hp ⊢
      cases out with
      | nil => simp at hp; exact absurd hp.2 (spl_ne c p)
      | cons x xs =>
        rw [List.cons_append, List.cons.injEq] at hp
        rw [spl_app c p q hp.2 hq, ← hp.1]; rfl
    · obtain ⟨l, rest, hs⟩ := spl_ex b p
      rw [spl_neq hc hs] at hp
      cases out with
      | nil =>
        rw [List.nil_append, List.cons.injEq] at hp
        obtain ⟨h1, h2⟩ := hp
        have := spl_app b p q (out := []) (t := l) (by rw [hs, h2]; rfl) hq
        rw [spl_neq hc (by rw [this]; rfl), ← h1]; rfl
      | cons x xs =>
        rw [List.cons_append, List.cons.injEq] at hp
        obtain ⟨h1, h2⟩ := hp
        have := spl_app b p q (out := l :: xs) (t := t) (by rw [hs, h2]; rfl) hq
        rw [spl_neq hc (by rw [this]; rfl), ← h1]; rfl
theorem spl_snoc_eq {b : UInt8} {p : Str} {out : List Str} {t : Str} (hp : spl b p = out ++ [t]) : spl b (p ++ [b]) = out ++ [t] ++ [[]] := by
  have := spl_app b p [b] hp (h := []) (r := [[]]) (by simp [spl])
  rw [this]; simp
theorem spl_snoc_ne {b c : UInt8} (hc : c ≠ b) {p : Str} {out : List Str} {t : Str} (hp : spl b p = out ++ [t]) : spl b (p ++ [c]) = out ++ [t ++ [c]] := by
  have := spl_app b p [c] hp (h := [c]) (r := []) (by simp [spl, hc])
  exact this
theorem spl_not {b : UInt8} : ∀ {s : Str}, ¬ b ∈ s → spl b s = [s]
  | [], _ => rfl
  | c :: s, h => by
    simp only [List.mem_cons, not_or] at h
    exact spl_neq (fun e => h.1 e.symm) (spl_not h.2)
theorem pre1_post {c : UInt8} {s : Str} (h : c ∈ s) : s = pre1 c s ++ c :: s.drop ((pre1 c s).length + 1) := by
  have h1 := pre1_mem h
  have h2 := pre1_take c s
  obtain ⟨hlt, hc⟩ := List.getElem?_eq_some_iff.1 h1
  have e : s = s.take (pre1 c s).length ++ s.drop (pre1 c s).length := (List.take_append_drop _ _).symm
  rw [h2, List.drop_eq_getElem_cons hlt, hc] at e
  exact e
theorem spl_cut {b : UInt8} {s : Str} (h : b ∈ s) : spl b s = pre1 b s :: spl b (s.drop ((pre1 b s).length + 1)) := by
  obtain ⟨l, r, hr⟩ := spl_ex b (s.drop ((pre1 b s).length + 1))
  have h1 : spl b (pre1 b s) = [] ++ [pre1 b s] := spl_not fun hm => pre1_ne hm rfl
  have := spl_app b (pre1 b s) (b :: s.drop ((pre1 b s).length + 1)) h1 (spl_eq b _)
  rw [← pre1_post h] at this
  rw [this]; simp
theorem spl_len (b : UInt8) : ∀ s : Str, (spl b s).length = s.count b + 1
  | [] => rfl
  | c :: s => by
    have ih := spl_len b s
    by_cases hc : c = b
    · subst hc; rw [spl_eq]; simp [ih]
    · obtain ⟨l', r, hs⟩ := spl_ex b s
      rw [spl_neq hc hs]; rw [hs] at ih
      rw [List.count_cons_of_ne hc, ← ih]; rfl
theorem spl_le {b : UInt8} : ∀ {s : Str} {l : Str}, l ∈ spl b s → l.length ≤ s.length
  | [], l, h => by simp [spl] at h; subst h; simp
  | c :: s, l, h => by
    by_cases hc : c = b
    · subst hc; rw [spl_eq] at h
      rcases List.mem_cons.1 h with rfl | h
      · simp
      · have := spl_le h; simp only [List.length_cons]; omega
    · obtain ⟨l', r, hs⟩ := spl_ex b s
      rw [spl_neq hc hs] at h
      rcases List.mem_cons.1 h with rfl | h
      · have := spl_le (s := s) (l := l') (by rw [hs]; exact List.mem_cons_self); simp only [List.length_cons]; omega
      · have := spl_le (s := s) (l := l) (by rw [hs]; exact List.mem_cons_of_mem _ h); simp only [List.length_cons]; omega
theorem spl_len_le (b : UInt8) (s : Str) : (spl b s).length ≤ s.length + 1 := by rw [spl_len]; have := List.count_le_length (a := b) (l := s); omega
/-- One step of the loop that cuts. -/
theorem spl_step {b c : UInt8} {s : Str} {i fr : Nat} {out : List Str} (hc : s[i]? = some c) (hf : fr ≤ i) (hp : spl b (s.take i) = out ++ [(s.take i).drop fr]) :
    (c = b → spl b (s.take (i + 1)) = out ++ [(s.drop fr).take (i - fr)] ++ [(s.take (i + 1)).drop (i + 1)]) ∧ (c ≠ b → spl b (s.take (i + 1)) = out ++ [(s.take (i + 1)).drop fr]) := by
  have hlt := (List.getElem?_eq_some_iff.1 hc).1
  have e : s.take (i + 1) = s.take i ++ [c] := by rw [List.take_add_one, hc]; rfl
  constructor
  · rintro rfl
    rw [e, spl_snoc_eq hp, List.drop_take]
    simp; omega
  · intro h
    rw [e, spl_snoc_ne h hp, List.drop_append_of_le_length (by rw [List.length_take]; omega)]
end Go.Proofs.YthcclgoidchkdaaDoorC
