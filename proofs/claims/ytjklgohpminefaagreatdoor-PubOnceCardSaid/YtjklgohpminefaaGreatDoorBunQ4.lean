/- Levels of a text, topics, filters, and which matches which: plain lists. -/
import Derived.Test.YtjklgohpminefaaGreatDoorBunQ3
import Derived.Test.YtjklgohpminefaaGreatDoorBunQ2
import Derived.Test.YtjklgohpminefaaGreatDoorProg

set_option linter.unusedVariables false
set_option linter.unusedSimpArgs false
set_option maxRecDepth 1000000
namespace Go.Proofs.YtjklgohpminefaaGreatDoorC
open Go.RowKit
def spl (b : UInt8) : Str → List Str
 | [] => [[]]
 | c :: s => if c = b then [] :: spl b s else match spl b s with
  | [] => [[c]]
  | l :: r => (c :: l) :: r
theorem spl_ne (b : UInt8) (s : Str) : spl b s ≠ [] := by
 cases s with
 | nil => simp [spl]
 | cons c s =>
  simp only [spl]; split
  ·simp
  ·split <;> simp
theorem spl_eq (b : UInt8) (s : Str) : spl b (b :: s) = [] :: spl b s := by simp [spl]
theorem spl_neq {b c : UInt8} {s : Str} (h : c ≠ b) {l : Str} {r : List Str} (hs : spl b s = l :: r) : spl b (c :: s) = (c :: l) :: r := by simp [spl, h, hs]
theorem spl_ex (b : UInt8) (s : Str) : ∃ l r, spl b s = l :: r := by
 cases h : spl b s with
 | nil => exact absurd h (spl_ne b s)
 | cons l r => exact ⟨l, r, rfl⟩
theorem spl_app (b : UInt8) : ∀ (p q : Str) {out : List Str} {t h : Str} {r : List Str}, spl b p = out ++ [t] → spl b q = h :: r → spl b (p ++ q) = out ++ (t ++ h) :: r
 | [], q, out, t, h, r, hp, hq => by
  cases out with
  | nil =>
   have : t = [] := by simpa [spl] using hp.symm
   subst this; simpa using hq
  | cons x xs => simp [spl] at hp
 | c :: p, q, out, t, h, r, hp, hq => by
  rw [List.cons_append]
  by_cases hc : c = b
  ·subst hc
   rw [spl_eq] at hp ⊢
   cases out with
   | nil => simp at hp; exact absurd hp.2 (spl_ne c p)
   | cons x xs =>
    rw [List.cons_append, List.cons.injEq] at hp
    rw [spl_app c p q hp.2 hq, ← hp.1]; rfl
  ·obtain ⟨l, rest, hs⟩ := spl_ex b p
   rw [spl_neq hc hs] at hp
   cases out with
   | nil =>
    rw [List.nil_append, List.cons.injEq] at hp
    obtain ⟨h1, h2⟩ := hp
    have := spl_app b p q (out := []) (t := l) (by rw [hs, h2]; rfl) hq
    rw [spl_neq hc (by rw [this]; rfl), ← h1]; rfl
   | cons x xs =>
    rw [List.cons_append, List.cons.injEq] at hp
    obtain ⟨h1, h2⟩ := hp
    have := spl_app b p q (out := l :: xs) (t := t) (by rw [hs, h2]; rfl) hq
    rw [spl_neq hc (by rw [this]; rfl), ← h1]; rfl
theorem spl_not {b : UInt8} : ∀ {s : Str}, ¬ b ∈ s → spl b s = [s]
 | [], _ => rfl
 | c :: s, h => by
  simp only [List.mem_cons, not_or] at h
  exact spl_neq (fun e => h.1 e.symm) (spl_not h.2)
theorem pre1_post {c : UInt8} {s : Str} (h : c ∈ s) : s = Xk c s ++ c :: s.drop ((Xk c s).length + 1) := by
 have h1 := pre1_mem h
 have h2 := J9 c s
 obtain ⟨hlt, hc⟩ := List.getElem?_eq_some_iff.1 h1
 have e : s = s.take (Xk c s).length ++ s.drop (Xk c s).length := (List.take_append_drop _ _).symm
 rw [h2, List.drop_eq_getElem_cons hlt, hc] at e
 exact e
theorem spl_cut {b : UInt8} {s : Str} (h : b ∈ s) : spl b s = Xk b s :: spl b (s.drop ((Xk b s).length + 1)) := by
 obtain ⟨l, r, hr⟩ := spl_ex b (s.drop ((Xk b s).length + 1))
 have h1 : spl b (Xk b s) = [] ++ [Xk b s] := spl_not fun hm => pre1_ne hm rfl
 have := spl_app b (Xk b s) (b :: s.drop ((Xk b s).length + 1)) h1 (spl_eq b _)
 rw [← pre1_post h] at this
 rw [this]; simp
theorem spl_len (b : UInt8) : ∀ s : Str, (spl b s).length = s.count b + 1
 | [] => rfl
 | c :: s => by
  have ih := spl_len b s
  by_cases hc : c = b
  ·subst hc; rw [spl_eq]; simp [ih]
  ·obtain ⟨l', r, hs⟩ := spl_ex b s
   rw [spl_neq hc hs]; rw [hs] at ih
   rw [List.count_cons_of_ne hc, ← ih]; rfl
theorem spl_le {b : UInt8} : ∀ {s : Str} {l : Str}, l ∈ spl b s → l.length ≤ s.length
 | [], l, h => by simp [spl] at h; subst h; simp
 | c :: s, l, h => by
  by_cases hc : c = b
  ·subst hc; rw [spl_eq] at h
   rcases List.mem_cons.1 h with rfl | h
   ·simp
   ·have := spl_le h; simp only [List.length_cons]; omega
  ·obtain ⟨l', r, hs⟩ := spl_ex b s
   rw [spl_neq hc hs] at h
   rcases List.mem_cons.1 h with rfl | h
   ·have := spl_le (s := s) (l := l') (by rw [hs]; exact List.mem_cons_self); simp only [List.length_cons]; omega
   ·have := spl_le (s := s) (l := l) (by rw [hs]; exact List.mem_cons_of_mem _ h); simp only [List.length_cons]; omega
theorem JH (b : UInt8) (s : Str) : (spl b s).length ≤ s.length + 1 := by rw [spl_len]; have := List.count_le_length (a := b) (l := s); omega
def joinB (b : UInt8) : List Str → Str
 | [] => []
 | [l] => l
 | l :: r => l ++ b :: joinB b r
theorem joinB_cons (b : UInt8) (l : Str) {r : List Str} (h : r ≠ []) : joinB b (l :: r) = l ++ b :: joinB b r := by cases r with | nil => exact absurd rfl h | cons => rfl
theorem join_spl (b : UInt8) : ∀ s : Str, joinB b (spl b s) = s
 | [] => rfl
 | c :: s => by
  have ih := join_spl b s
  by_cases hc : c = b
  ·subst hc; rw [spl_eq, joinB_cons c [] (spl_ne c s), ih]; rfl
  ·obtain ⟨l', r, hs⟩ := spl_ex b s
   rw [spl_neq hc hs]; rw [hs] at ih
   cases r with
   | nil => simp only [joinB] at ih ⊢; rw [ih]
   | cons x xs => rw [joinB_cons b _ (by simp)] at ih ⊢; rw [List.cons_append, ih]
section
inductive Tr
 | node (subs : List Int) (keys : List Str) (vals : List Tr)
def Tr.subs : Tr → List Int | .node s _ _ => s
def Tr.keys : Tr → List Str | .node _ k _ => k
def Tr.vals : Tr → List Tr | .node _ _ v => v
abbrev Tr.bare : Tr := .node [] [] []
def Tr.kid (t : Tr) (l : Str) : Tr := if XP ltS t.keys l = true then (t.vals[lb ltS t.keys l]?).getD .bare else .bare
def Tr.put : List Str → Int → Tr → Tr
 | [], s, t => .node (XS ltI t.subs s) t.keys t.vals
 | l :: ls, s, t => .node t.subs (XS ltS t.keys l) (putW ltS t.keys l t.vals (Tr.put ls s (t.kid l)))
def Tr.At : List Str → Int → Tr → Prop
 | [], s, t => s ∈ t.subs
 | k :: p, s, t => ∃ (i : Nat) (v : Tr), t.keys[i]? = some k ∧ t.vals[i]? = some v ∧ Tr.At p s v
def wgt : List Str → Nat
 | [] => 0
 | l :: ls => l.length + 1 + wgt ls
inductive Tr.Ok (n : Nat) : Nat → Tr → Prop
 | mk {m : Nat} {ss : List Int} {ks : List Str} {vs : List Tr} (h1 : Xi ltI ss) (h2 : ss.length ≤ n) (h3 : Xi ltS ks) (h4 : ks.length ≤ n) (h5 : vs.length = ks.length)
   (h6 : ∀ (i : Nat) (k : Str), ks[i]? = some k → k.length + 1 ≤ m) (h7 : ∀ (i : Nat) (k : Str) (v : Tr), ks[i]? = some k → vs[i]? = some v → Tr.Ok n (m - (k.length + 1)) v) : Tr.Ok n m (.node ss ks vs)
variable {n m : Nat} {t : Tr}
theorem Tr.Ok.s (h : t.Ok n m) : Xi ltI t.subs := by cases h; assumption
theorem Tr.Ok.sl (h : t.Ok n m) : t.subs.length ≤ n := by cases h; assumption
theorem Tr.Ok.k (h : t.Ok n m) : Xi ltS t.keys := by cases h; assumption
theorem Tr.Ok.kl (h : t.Ok n m) : t.keys.length ≤ n := by cases h; assumption
theorem Tr.Ok.len (h : t.Ok n m) : t.vals.length = t.keys.length := by cases h; assumption
theorem Tr.Ok.kn (h : t.Ok n m) {i : Nat} {k : Str} (hk : t.keys[i]? = some k) : k.length + 1 ≤ m := by cases h with | mk _ _ _ _ _ h6 _ => exact h6 i k hk
theorem Tr.Ok.at (h : t.Ok n m) {i : Nat} {k : Str} {v : Tr} (hk : t.keys[i]? = some k) (hv : t.vals[i]? = some v) : v.Ok n (m - (k.length + 1)) := by cases h with | mk _ _ _ _ _ _ h7 => exact h7 i k v hk hv
theorem Tr.Ok.mono {n' : Nat} (hn : n ≤ n') (h : t.Ok n m) : ∀ {m' : Nat}, m ≤ m' → t.Ok n' m' := by
 induction h with
 | mk h1 h2 h3 h4 h5 h6 h7 ih => intro m' hm; exact .mk h1 (by omega) h3 (by omega) h5 (fun i k hk => by have := h6 i k hk; omega) fun i k v hk hv => ih i k v hk hv (by omega)
theorem Tr.Ok.bare : Tr.bare.Ok n m := .mk List.Pairwise.nil (Nat.zero_le _) List.Pairwise.nil (Nat.zero_le _) rfl (fun i k h => by simp at h) (fun i k v h => by simp at h)
theorem isAt_get {κ : Type} [DecidableEq κ] {lt : κ → κ → Bool} {l : List κ} {x : κ} (h : XP lt l x = true) : l[lb lt l x]? = some x := by simpa [XP] using h
theorem Tr.Ok.kid (h : t.Ok n m) (l : Str) : (t.kid l).Ok n (m - (l.length + 1)) := by
 unfold Tr.kid
 split
 ·rename_i ha
  have hk := isAt_get ha
  have hlt := X3 ha
  have hv : t.vals[lb ltS t.keys l]? = some (t.vals[lb ltS t.keys l]'(by rw [h.len]; exact hlt)) := List.getElem?_eq_getElem _
  rw [hv]; exact h.at hk hv
 ·exact Tr.Ok.bare
theorem put_get {β : Type} {ks : List Str} (hs : Xi ltS ks) {l : Str} {vs : List β} {r : β} (hl : vs.length = ks.length) (k : Str) (v : β) :
  (∃ i : Nat, (XS ltS ks l)[i]? = some k ∧ (putW ltS ks l vs r)[i]? = some v) ↔ (k = l ∧ v = r) ∨ (k ≠ l ∧ ∃ i : Nat, ks[i]? = some k ∧ vs[i]? = some v) := by
 have hb := lb_le (lt := ltS) ks l
 unfold XS putW
 by_cases ha : XP ltS ks l = true
 ·rw [if_pos ha, if_pos ha]
  have hk := isAt_get ha
  have hlt := X3 ha
  constructor
  ·rintro ⟨i, h1, h2⟩
   rw [List.getElem?_set] at h2
   by_cases e : lb ltS ks l = i
   ·rw [if_pos e, if_pos (by omega)] at h2
    subst e
    rw [hk] at h1; cases h1; cases h2; exact .inl ⟨rfl, rfl⟩
   ·rw [if_neg e] at h2
    refine .inr ⟨fun ek => ?_, i, h1, h2⟩
    subst ek
    exact e ((key_at lo_str hs h1).2.1 rfl).2.symm
  ·rintro (⟨rfl, rfl⟩ | ⟨hne, i, h1, h2⟩)
   ·exact ⟨_, hk, by rw [List.getElem?_set, if_pos rfl, if_pos (by omega)]⟩
   ·refine ⟨i, h1, ?_⟩
    rw [List.getElem?_set, if_neg (fun e => hne (by subst e; rw [hk] at h1; exact (Option.some.inj h1).symm))]; exact h2
 ·rw [if_neg ha, if_neg ha]
  have hno : ∀ i : Nat, ks[i]? ≠ some l := fun i h => ha ((isAt_iff lo_str hs l).2 (List.mem_of_getElem? h))
  have e1 : ∀ i : Nat, (ks.take (lb ltS ks l) ++ l :: ks.drop (lb ltS ks l))[i]? = if i < lb ltS ks l then ks[i]? else if i = lb ltS ks l then some l else ks[i - 1]? := by
   intro i
   rw [List.getElem?_append, List.length_take, Nat.min_eq_left hb]
   split
   ·rw [List.getElem?_take_of_lt (by assumption)]
   ·split
    ·subst_vars; simp
    ·rw [show i - lb ltS ks l = (i - lb ltS ks l - 1) + 1 from by omega, List.getElem?_cons_succ, List.getElem?_drop]; congr 1; omega
  have e2 : ∀ i : Nat, (vs.take (lb ltS ks l) ++ r :: vs.drop (lb ltS ks l))[i]? = if i < lb ltS ks l then vs[i]? else if i = lb ltS ks l then some r else vs[i - 1]? := by
   intro i
   rw [List.getElem?_append, List.length_take, Nat.min_eq_left (by omega)]
   split
   ·rw [List.getElem?_take_of_lt (by assumption)]
   ·split
    ·subst_vars; simp
    ·rw [show i - lb ltS ks l = (i - lb ltS ks l - 1) + 1 from by omega, List.getElem?_cons_succ, List.getElem?_drop]; congr 1; omega
  constructor
  ·rintro ⟨i, h1, h2⟩
   rw [e1] at h1; rw [e2] at h2
   by_cases c1 : i < lb ltS ks l
   ·rw [if_pos c1] at h1 h2; exact .inr ⟨fun e => hno i (e ▸ h1), i, h1, h2⟩
   ·rw [if_neg c1] at h1 h2
    by_cases c2 : i = lb ltS ks l
    ·rw [if_pos c2] at h1 h2; cases h1; cases h2; exact .inl ⟨rfl, rfl⟩
    ·rw [if_neg c2] at h1 h2; exact .inr ⟨fun e => hno _ (e ▸ h1), _, h1, h2⟩
  ·rintro (⟨rfl, rfl⟩ | ⟨hne, i, h1, h2⟩)
   ·exact ⟨lb ltS ks k, by rw [e1, if_neg (by omega), if_pos rfl], by rw [e2, if_neg (by omega), if_pos rfl]⟩
   ·by_cases c1 : i < lb ltS ks l
    ·exact ⟨i, by rw [e1, if_pos c1]; exact h1, by rw [e2, if_pos c1]; exact h2⟩
    ·exact ⟨i + 1, by rw [e1, if_neg (by omega), if_neg (by omega)]; exact h1, by rw [e2, if_neg (by omega), if_neg (by omega)]; exact h2⟩
theorem Tr.Ok.put (s : Int) : ∀ (ls : List Str) {m : Nat} {t : Tr}, t.Ok n m → wgt ls ≤ m → (t.put ls s).Ok (n + 1) m
 | [], m, t, h, _ => by
  refine .mk (JS lo_int h.s s) (Zle (putK_len _ _) (by have := h.sl; omega)) h.k (by have := h.kl; omega) h.len (fun i k hk => h.kn hk) fun i k v hk hv => (h.at hk hv).mono (by omega) (Nat.le_refl _)
 | l :: ls, m, t, h, hw => by
  simp only [wgt] at hw
  have hr := Tr.Ok.put s ls (h.kid l) (by omega)
  have key : ∀ (i : Nat) (k : Str) (v : Tr), (XS ltS t.keys l)[i]? = some k → (putW ltS t.keys l t.vals (Tr.put ls s (t.kid l)))[i]? = some v → k.length + 1 ≤ m ∧ v.Ok (n + 1) (m - (k.length + 1)) := by
   intro i k v hk hv
   rcases (put_get h.k h.len k v).1 ⟨i, hk, hv⟩ with ⟨rfl, rfl⟩ | ⟨_, j, h1, h2⟩
   ·exact ⟨by omega, hr⟩
   ·exact ⟨h.kn h1, (h.at h1 h2).mono (by omega) (Nat.le_refl _)⟩
  have hlen := putW_len (lt := ltS) (x := l) (r := Tr.put ls s (t.kid l)) h.len
  refine .mk h.s (by have := h.sl; omega) (JS lo_str h.k l) (Zle (putK_len _ _) (by have := h.kl; omega)) hlen (fun i k hk => ?_) (fun i k v hk hv => (key i k v hk hv).2)
  have hi := (List.getElem?_eq_some_iff.1 hk).1
  exact (key i k _ hk (List.getElem?_eq_getElem (by omega))).1
theorem kid_at (h : t.Ok n m) (l : Str) (q : List Str) (s : Int) : (t.kid l).At q s ↔ (∃ (i : Nat) (v : Tr), t.keys[i]? = some l ∧ t.vals[i]? = some v ∧ v.At q s) ∨ (XP ltS t.keys l = false ∧ Tr.bare.At q s) := by
 unfold Tr.kid
 by_cases ha : XP ltS t.keys l = true
 ·rw [if_pos ha]
  have hk := isAt_get ha
  have hlt := X3 ha
  have hv : t.vals[lb ltS t.keys l]? = some (t.vals[lb ltS t.keys l]'(by rw [h.len]; exact hlt)) := List.getElem?_eq_getElem _
  rw [hv]
  constructor
  ·intro h1; exact .inl ⟨_, _, hk, hv, h1⟩
  ·rintro (⟨i, v, h1, h2, h3⟩ | ⟨h1, _⟩)
   ·have e := ((key_at lo_str h.k h1).2.1 rfl).2
    subst e
    rw [hv] at h2; cases h2; exact h3
   ·rw [ha] at h1; cases h1
 ·rw [if_neg ha]
  have hf : XP ltS t.keys l = false := by simpa using ha
  constructor
  ·intro h1; exact .inr ⟨hf, h1⟩
  ·rintro (⟨i, v, h1, _⟩ | ⟨_, h1⟩)
   ·exact absurd ((isAt_iff lo_str h.k l).2 (List.mem_of_getElem? h1)) ha
   ·exact h1
theorem bare_at (q : List Str) (s : Int) : ¬ Tr.bare.At q s := by
 cases q with
 | nil => simp [Tr.At, Tr.subs]
 | cons k q => rintro ⟨i, v, h, _⟩; simp [Tr.keys] at h
theorem at_put (s0 : Int) : ∀ (ls : List Str) {m : Nat} {t : Tr}, t.Ok n m → ∀ (p : List Str) (s : Int), (t.put ls s0).At p s ↔ (p = ls ∧ s = s0) ∨ t.At p s
 | [], m, t, h, p, s => by
  cases p with
  | nil => simp only [Tr.At, Tr.put, Tr.subs, true_and]; exact putK_mem lo_int h.s s0 s
  | cons k q => simp [Tr.At, Tr.put, Tr.keys, Tr.vals]
 | l :: ls, m, t, h, p, s => by
  cases p with
  | nil => simp [Tr.At, Tr.put, Tr.subs]
  | cons k q =>
   have e : (t.put (l :: ls) s0).At (k :: q) s ↔ ∃ v : Tr, (∃ i : Nat, (XS ltS t.keys l)[i]? = some k ∧ (putW ltS t.keys l t.vals (Tr.put ls s0 (t.kid l)))[i]? = some v) ∧ v.At q s := by
    simp only [Tr.At, Tr.put, Tr.keys, Tr.vals]
    constructor
    ·rintro ⟨i, v, h1, h2, h3⟩; exact ⟨v, ⟨i, h1, h2⟩, h3⟩
    ·rintro ⟨v, ⟨i, h1, h2⟩, h3⟩; exact ⟨i, v, h1, h2, h3⟩
   rw [e]
   have ih := at_put s0 ls (h.kid l) q s
   constructor
   ·rintro ⟨v, h1, h2⟩
    rcases (put_get h.k h.len k v).1 h1 with ⟨rfl, rfl⟩ | ⟨_, i, h3, h4⟩
    ·rcases ih.1 h2 with ⟨rfl, rfl⟩ | h5
     ·exact .inl ⟨rfl, rfl⟩
     ·rcases (kid_at h k q s).1 h5 with h6 | ⟨_, h6⟩
      ·exact .inr h6
      ·exact absurd h6 (bare_at _ _)
    ·exact .inr ⟨i, v, h3, h4, h2⟩
   ·rintro (⟨h1, rfl⟩ | ⟨i, v, h1, h2, h3⟩)
    ·cases h1
     exact ⟨_, (put_get h.k h.len _ _).2 (.inl ⟨rfl, rfl⟩), ih.2 (.inl ⟨rfl, rfl⟩)⟩
    ·by_cases ek : k = l
     ·subst ek
      exact ⟨_, (put_get h.k h.len _ _).2 (.inl ⟨rfl, rfl⟩), ih.2 (.inr ((kid_at h k q s).2 (.inl ⟨i, v, h1, h2, h3⟩)))⟩
     ·exact ⟨v, (put_get h.k h.len _ _).2 (.inr ⟨ek, i, h1, h2⟩), h3⟩
theorem wgt_spl (s : Str) : wgt (spl 47 s) = s.length + 1 := by
 have key : ∀ s : Str, wgt (spl 47 s) = (joinB 47 (spl 47 s)).length + 1 := by
  intro s
  have : ∀ l : List Str, l ≠ [] → wgt l = (joinB 47 l).length + 1 := by
   intro l
   induction l with
   | nil => intro h; exact absurd rfl h
   | cons a l ih =>
    intro _
    cases l with
    | nil => simp [wgt, joinB]
    | cons b l => rw [wgt, ih (by simp), joinB_cons 47 a (r := b :: l) (by simp)]; simp only [List.length_append, List.length_cons]; omega
  exact this _ (spl_ne 47 s)
 rw [key, join_spl]
end
section
variable {ro : Option Nat} {P : Program} {n : Nat} {Q : QH} {σ : Env} {D : List Deferred} {w : World} {dst : Option Nat} {ty : TypeId} {pos : String} {af : Array Edge} {g : Option (Nat × Bool)}
variable {ops rest : List Oper} {K : Ops}
theorem two1' {u v : Value} (h1 : u.oneCell' = true) (h2 : v.oneCell' = true) : ∀ x ∈ [u, v], x.oneCell' = true := by
 intro x hx
 simp only [List.mem_cons, List.not_mem_nil, or_false] at hx
 rcases hx with rfl | rfl
 ·exact h1
 ·exact h2
theorem wl_storeES {t : TypeId} {k : Nat} (hT : XD P t k) {x y : Operand} {v : Value} {us : List Value} {b i : Nat} {rows : List (List Value)} {spare : List Value} (hx : ev σ x = .pointer (some ((⟨b, 0, none⟩ : Addr).add (i * k)))) (hy : ev σ y = .agg us.toArray) (hk : us.length = k) (h1 : ∀ u ∈ us, u.oneCell' = true) (hs : Ow w v b k rows spare) (hi : i < rows.length)
  (kk : ∀ w', Ext (fun i => i = b) w w' → Ow w' v b k (rows.set i us) spare → wl P ops rest K σ w') : wl P ops (⟨none, .store t x y, ty, pos, af, none⟩ :: rest) K σ w := by
 obtain ⟨w', e1, e2, e3, e4⟩ := hs.write (P := P) (rs := [us]) (by simpa using hk) (by simpa using h1) i (by simp; omega)
 have hp : XX rows i [us] = rows.set i us := by
  unfold XX
  rw [List.set_eq_take_append_cons_drop, if_pos hi]; simp
 rw [hp] at e3
 refine wl_do (w' := w') ?_ (kk w' e2 e3)
 show (execOp (ev σ) _).run P w = _
 rw [XF, Nat.zero_add] at hx
 have e7 : (storeCells ⟨b, i * k, none⟩ us).run P w = .ok () w' := by simpa using e1
 have hsz : (Value.agg us.toArray).cells.size = k := by simp [Value.cells, hk]
 simp [execOp, hx, hy, Instr.storeAt, Instr.sureAddr, storeVar, Jn hT.2, Value.cells, hk, e7]
theorem J4 {t : TypeId} {x y : Operand} {b i k : Nat} {cs vs : List Value} (hT : XD P t k) (hx : ev σ x = .pointer (some ⟨b, i, none⟩)) (hy : ev σ y = .agg vs.toArray) (hk : vs.length = k) (h1 : ∀ u ∈ vs, u.oneCell' = true) (hb : Zj w b cs) (hl : i + k ≤ cs.length)
  (kk : ∀ w', Ext (fun j => j = b) w w' → Zj w' b (XZ cs i vs) → w'.heap.size = w.heap.size → wl P ops rest K σ w') : wl P ops (⟨none, .store t x y, ty, pos, af, none⟩ :: rest) K σ w := by
 obtain ⟨w', h2, h3, h4, h5⟩ := rs_store (dst := none) (ty := ty) (pos := pos) (af := af) (g := none) (by simp [Value.cells, hk]; simpa using hT.2) hx hy (by simpa [Value.cells] using h1) hb (by simp [Value.cells]; omega)
 refine wl_do h2 (kk w' h3 ?_ h5)
 have : (Value.agg vs.toArray).cells.toList = vs := by simp [Value.cells]
 rw [this] at h4
 exact h4
theorem JY {u v x : Value} (h1 : u.oneCell' = true) (h2 : v.oneCell' = true) (h3 : x.oneCell' = true) : ∀ y ∈ [u, v, x], y.oneCell' = true := by
 intro y hy
 simp only [List.mem_cons, List.not_mem_nil, or_false] at hy
 rcases hy with rfl | rfl | rfl
 ·exact h1
 ·exact h2
 ·exact h3
end
abbrev Ze (n : Nat) : Prop := Xa Tryz.prog n = true
theorem zE {n : Nat} (h : Xa Tryz.prog n = true := by kernel_rfl) : Ze n := h
theorem mixed : Tryz.prog.follows .mixedOrders = true := by kernel_rfl
theorem p_1 : Xg Tryz.prog 1 := ⟨by kernel_rfl, by kernel_rfl⟩
theorem uf_1 : (match Tryz.prog.underlying 1 with | some (.func ..) => true | _ => false) = true := by kernel_rfl
theorem p_3 : Xg Tryz.prog 3 := ⟨by kernel_rfl, by kernel_rfl⟩
theorem z_3 : XG Tryz.prog 3 [.int .i64 0] := by unfold XG; kernel_rfl
theorem JF : Tryz.prog.underlying 3 = some (.int .i64) := by kernel_rfl
theorem p_4 : Xg Tryz.prog 4 := ⟨by kernel_rfl, by kernel_rfl⟩
theorem z_4 : XG Tryz.prog 4 [.bool false] := by unfold XG; kernel_rfl
theorem ub_4 : Tryz.prog.underlying 4 = some .bool := by kernel_rfl
theorem p_5 : Xg Tryz.prog 5 := ⟨by kernel_rfl, by kernel_rfl⟩
theorem ui_5 : Tryz.prog.underlying 5 = some (.int .u8) := by kernel_rfl
theorem p_9 : Xg Tryz.prog 9 := ⟨by kernel_rfl, by kernel_rfl⟩
theorem Qj : Tryz.prog.underlying 9 = some .string := by kernel_rfl
theorem ui_21 : Tryz.prog.underlying 21 = some (.int .i32) := by kernel_rfl
theorem XT : Xg Tryz.prog 27 := ⟨by kernel_rfl, by kernel_rfl⟩
theorem z_27 : XG Tryz.prog 27 [.slice none 0 0] := by unfold XG; kernel_rfl
theorem Xe : XA Tryz.prog 27 3 1 8 [.int .i64 0] := ⟨by kernel_rfl, by kernel_rfl⟩
theorem p_28 : Xg Tryz.prog 28 := ⟨by kernel_rfl, by kernel_rfl⟩
theorem z_28 : XG Tryz.prog 28 [.slice none 0 0] := by unfold XG; kernel_rfl
theorem Xq : XA Tryz.prog 28 9 1 16 [.string ⟨#[]⟩] := ⟨by kernel_rfl, by kernel_rfl⟩
theorem p_33 : Xg Tryz.prog 33 := ⟨by kernel_rfl, by kernel_rfl⟩
theorem ui_33 : Tryz.prog.underlying 33 = some (.int .i64) := by kernel_rfl
theorem s_35 : XD Tryz.prog 35 3 := ⟨by kernel_rfl, by kernel_rfl⟩
theorem z_35 : XG Tryz.prog 35 [.string ⟨#[]⟩, .string ⟨#[]⟩, .bool false] := by unfold XG; kernel_rfl
theorem sh_35 : Tryz.prog.stoodInHeld 35 = false := by kernel_rfl
theorem fs_35 : fieldsT Tryz.prog 35 = [("Topic", 9, 0), ("Payload", 9, 1), ("Kept", 4, 2)] := by kernel_rfl
theorem b_35 : XQ Tryz.prog 35 [(0, 1), (1, 1), (2, 1)] [.string ⟨#[]⟩, .string ⟨#[]⟩, .bool false] := ⟨by kernel_rfl, by kernel_rfl, by kernel_rfl, by kernel_rfl⟩
theorem s_37 : XD Tryz.prog 37 6 := ⟨by kernel_rfl, by kernel_rfl⟩
theorem z_37 : XG Tryz.prog 37 [.int .i64 0, .int .i64 0, .int .i64 0, .string ⟨#[]⟩, .string ⟨#[]⟩, .bool false] := by unfold XG; kernel_rfl
theorem eg_37 : Tryz.prog.eqGuardType Tryz.prog.depth 37 = false := by kernel_rfl
theorem sh_37 : Tryz.prog.stoodInHeld 37 = false := by kernel_rfl
theorem fs_37 : fieldsT Tryz.prog 37 = [("Error", 33, 0), ("A", 3, 1), ("B", 3, 2), ("Msg", 35, 3)] := by kernel_rfl
theorem b_37 : XQ Tryz.prog 37 [(0, 1), (1, 1), (2, 1), (3, 3)] [.int .i64 0, .int .i64 0, .int .i64 0, .string ⟨#[]⟩, .string ⟨#[]⟩, .bool false] := ⟨by kernel_rfl, by kernel_rfl, by kernel_rfl, by kernel_rfl⟩
theorem s_42 : XD Tryz.prog 42 5 := ⟨by kernel_rfl, by kernel_rfl⟩
theorem b_42 : XQ Tryz.prog 42 [(0, 1), (1, 1), (2, 1), (3, 1), (4, 1)] [.int .i64 0, .int .i64 0, .string ⟨#[]⟩, .string ⟨#[]⟩, .bool false] := ⟨by kernel_rfl, by kernel_rfl, by kernel_rfl, by kernel_rfl⟩
theorem s_44 : XD Tryz.prog 44 3 := ⟨by kernel_rfl, by kernel_rfl⟩
theorem z_44 : XG Tryz.prog 44 [.slice none 0 0, .int .i64 0, .int .i64 0] := by unfold XG; kernel_rfl
theorem p_47 : Xg Tryz.prog 47 := ⟨by kernel_rfl, by kernel_rfl⟩
theorem uf_47 : (match Tryz.prog.underlying 47 with | some (.func ..) => true | _ => false) = true := by kernel_rfl
theorem p_49 : Xg Tryz.prog 49 := ⟨by kernel_rfl, by kernel_rfl⟩
theorem uf_49 : (match Tryz.prog.underlying 49 with | some (.func ..) => true | _ => false) = true := by kernel_rfl
theorem Jw : Xg Tryz.prog 50 := ⟨by kernel_rfl, by kernel_rfl⟩
theorem p_53 : Xg Tryz.prog 53 := ⟨by kernel_rfl, by kernel_rfl⟩
theorem Qu : XA Tryz.prog 53 60 15 152 [.int .i64 0, .int .i64 0, .int .i64 0, .int .i64 0, .string ⟨#[]⟩, .string ⟨#[]⟩, .bool false, .int .i64 0, .int .i64 0, .int .i64 0, .string ⟨#[]⟩, .string ⟨#[]⟩, .bool false, .int .i64 0, .int .i64 0] := ⟨by kernel_rfl, by kernel_rfl⟩
theorem p_56 : Xg Tryz.prog 56 := ⟨by kernel_rfl, by kernel_rfl⟩
theorem sl_56 : XA Tryz.prog 56 42 5 56 [.int .i64 0, .int .i64 0, .string ⟨#[]⟩, .string ⟨#[]⟩, .bool false] := ⟨by kernel_rfl, by kernel_rfl⟩
theorem sl_57 : XA Tryz.prog 57 56 1 24 [.slice none 0 0] := ⟨by kernel_rfl, by kernel_rfl⟩
theorem sl_58 : XA Tryz.prog 58 5 1 1 [.int .u8 0] := ⟨by kernel_rfl, by kernel_rfl⟩
theorem s_60 : XD Tryz.prog 60 15 := ⟨by kernel_rfl, by kernel_rfl⟩
theorem b_60 : XQ Tryz.prog 60 [(0, 1), (1, 1), (2, 5), (7, 6), (13, 1), (14, 1)] [.int .i64 0, .int .i64 0, .int .i64 0, .int .i64 0, .string ⟨#[]⟩, .string ⟨#[]⟩, .bool false, .int .i64 0, .int .i64 0, .int .i64 0, .string ⟨#[]⟩, .string ⟨#[]⟩, .bool false, .int .i64 0, .int .i64 0] := ⟨by kernel_rfl, by kernel_rfl, by kernel_rfl, by kernel_rfl⟩
theorem sl_61 : XA Tryz.prog 61 4 1 1 [.bool false] := ⟨by kernel_rfl, by kernel_rfl⟩
theorem p_68 : Xg Tryz.prog 68 := ⟨by kernel_rfl, by kernel_rfl⟩
theorem sl_68 : XA Tryz.prog 68 35 3 40 [.string ⟨#[]⟩, .string ⟨#[]⟩, .bool false] := ⟨by kernel_rfl, by kernel_rfl⟩
theorem p_70 : Xg Tryz.prog 70 := ⟨by kernel_rfl, by kernel_rfl⟩
theorem p_75 : Xg Tryz.prog 75 := ⟨by kernel_rfl, by kernel_rfl⟩
theorem JJ : XA Tryz.prog 75 47 1 8 [.nilFunc] := ⟨by kernel_rfl, by kernel_rfl⟩
theorem b_79 : XQ Tryz.prog 79 [(0, 3), (3, 1)] [.slice none 0 0, .int .i64 0, .int .i64 0, .slice none 0 0] := ⟨by kernel_rfl, by kernel_rfl, by kernel_rfl, by kernel_rfl⟩
theorem p_80 : Xg Tryz.prog 80 := ⟨by kernel_rfl, by kernel_rfl⟩
theorem X9 : XA Tryz.prog 80 138 2 24 [.string ⟨#[]⟩, .int .i64 0] := ⟨by kernel_rfl, by kernel_rfl⟩
theorem s_82 : XD Tryz.prog 82 2 := ⟨by kernel_rfl, by kernel_rfl⟩
theorem z_82 : XG Tryz.prog 82 [.slice none 0 0, .slice none 0 0] := by unfold XG; kernel_rfl
theorem b_82 : XQ Tryz.prog 82 [(0, 1), (1, 1)] [.slice none 0 0, .slice none 0 0] := ⟨by kernel_rfl, by kernel_rfl, by kernel_rfl, by kernel_rfl⟩
theorem s_84 : XD Tryz.prog 84 3 := ⟨by kernel_rfl, by kernel_rfl⟩
theorem z_84 : XG Tryz.prog 84 [.slice none 0 0, .slice none 0 0, .int .i64 0] := by unfold XG; kernel_rfl
theorem b_84 : XQ Tryz.prog 84 [(0, 2), (2, 1)] [.slice none 0 0, .slice none 0 0, .int .i64 0] := ⟨by kernel_rfl, by kernel_rfl, by kernel_rfl, by kernel_rfl⟩
theorem Jg : Xg Tryz.prog 88 := ⟨by kernel_rfl, by kernel_rfl⟩
theorem b_90 : XQ Tryz.prog 90 [(0, 1), (1, 1), (2, 5), (7, 1), (8, 1), (9, 6)] [.pointer none, .int .i64 0, .int .i64 0, .int .i64 0, .string ⟨#[]⟩, .string ⟨#[]⟩, .bool false, .nilFunc, .slice none 0 0, .int .i64 0, .int .i64 0, .int .i64 0, .string ⟨#[]⟩, .string ⟨#[]⟩, .bool false] := ⟨by kernel_rfl, by kernel_rfl, by kernel_rfl, by kernel_rfl⟩
theorem p_92 : Xg Tryz.prog 92 := ⟨by kernel_rfl, by kernel_rfl⟩
theorem p_94 : Xg Tryz.prog 94 := ⟨by kernel_rfl, by kernel_rfl⟩
theorem uf_94 : (match Tryz.prog.underlying 94 with | some (.func ..) => true | _ => false) = true := by kernel_rfl
theorem p_97 : Xg Tryz.prog 97 := ⟨by kernel_rfl, by kernel_rfl⟩
theorem p_99 : Xg Tryz.prog 99 := ⟨by kernel_rfl, by kernel_rfl⟩
theorem p_101 : Xg Tryz.prog 101 := ⟨by kernel_rfl, by kernel_rfl⟩
theorem QF : XD Tryz.prog 103 2 := ⟨by kernel_rfl, by kernel_rfl⟩
theorem z_103 : XG Tryz.prog 103 [.pointer none, .int .i64 0] := by unfold XG; kernel_rfl
theorem b_103 : XQ Tryz.prog 103 [(0, 1), (1, 1)] [.pointer none, .int .i64 0] := ⟨by kernel_rfl, by kernel_rfl, by kernel_rfl, by kernel_rfl⟩
theorem b_106 : XQ Tryz.prog 106 [(0, 1), (1, 1), (2, 1)] [.pointer none, .pointer none, .pointer none] := ⟨by kernel_rfl, by kernel_rfl, by kernel_rfl, by kernel_rfl⟩
theorem p_107 : Xg Tryz.prog 107 := ⟨by kernel_rfl, by kernel_rfl⟩
theorem p_108 : Xg Tryz.prog 108 := ⟨by kernel_rfl, by kernel_rfl⟩
theorem p_110 : Xg Tryz.prog 110 := ⟨by kernel_rfl, by kernel_rfl⟩
theorem sl_110 : XA Tryz.prog 110 120 1 8 [.pointer none] := ⟨by kernel_rfl, by kernel_rfl⟩
theorem b_112 : XQ Tryz.prog 112 [(0, 3), (3, 1), (4, 4), (8, 1), (9, 1)] [.pointer none, .pointer none, .pointer none, .pointer none, .pointer none, .pointer none, .pointer none, .pointer none, .slice none 0 0, .int .i64 0] := ⟨by kernel_rfl, by kernel_rfl, by kernel_rfl, by kernel_rfl⟩
theorem Qv : XD Tryz.prog 117 2 := ⟨by kernel_rfl, by kernel_rfl⟩
theorem z_117 : XG Tryz.prog 117 [.int .i64 0, .int .i64 0] := by unfold XG; kernel_rfl
theorem eg_117 : Tryz.prog.eqGuardType Tryz.prog.depth 117 = false := by kernel_rfl
theorem sh_117 : Tryz.prog.stoodInHeld 117 = false := by kernel_rfl
theorem fs_117 : fieldsT Tryz.prog 117 = [("Id", 3, 0), ("Stamp", 3, 1)] := by kernel_rfl
theorem b_117 : XQ Tryz.prog 117 [(0, 1), (1, 1)] [.int .i64 0, .int .i64 0] := ⟨by kernel_rfl, by kernel_rfl, by kernel_rfl, by kernel_rfl⟩
theorem p_119 : Xg Tryz.prog 119 := ⟨by kernel_rfl, by kernel_rfl⟩
theorem z_119 : XG Tryz.prog 119 [.pointer none] := by unfold XG; kernel_rfl
theorem p_120 : Xg Tryz.prog 120 := ⟨by kernel_rfl, by kernel_rfl⟩
theorem z_120 : XG Tryz.prog 120 [.pointer none] := by unfold XG; kernel_rfl
theorem QV : Xg Tryz.prog 122 := ⟨by kernel_rfl, by kernel_rfl⟩
theorem p_127 : Xg Tryz.prog 127 := ⟨by kernel_rfl, by kernel_rfl⟩
theorem s_138 : XD Tryz.prog 138 2 := ⟨by kernel_rfl, by kernel_rfl⟩
theorem z_138 : XG Tryz.prog 138 [.string ⟨#[]⟩, .int .i64 0] := by unfold XG; kernel_rfl
theorem b_138 : XQ Tryz.prog 138 [(0, 1), (1, 1)] [.string ⟨#[]⟩, .int .i64 0] := ⟨by kernel_rfl, by kernel_rfl, by kernel_rfl, by kernel_rfl⟩
theorem p_144 : Xg Tryz.prog 144 := ⟨by kernel_rfl, by kernel_rfl⟩
theorem p_148 : Xg Tryz.prog 148 := ⟨by kernel_rfl, by kernel_rfl⟩
theorem QA : XA Tryz.prog 148 270 0 0 [] := ⟨by kernel_rfl, by kernel_rfl⟩
theorem s_150 : XD Tryz.prog 150 2 := ⟨by kernel_rfl, by kernel_rfl⟩
theorem z_150 : XG Tryz.prog 150 [.slice none 0 0, .slice none 0 0] := by unfold XG; kernel_rfl
theorem b_150 : XQ Tryz.prog 150 [(0, 1), (1, 1)] [.slice none 0 0, .slice none 0 0] := ⟨by kernel_rfl, by kernel_rfl, by kernel_rfl, by kernel_rfl⟩
theorem XE : XD Tryz.prog 152 2 := ⟨by kernel_rfl, by kernel_rfl⟩
theorem z_152 : XG Tryz.prog 152 [.slice none 0 0, .slice none 0 0] := by unfold XG; kernel_rfl
theorem b_152 : XQ Tryz.prog 152 [(0, 2)] [.slice none 0 0, .slice none 0 0] := ⟨by kernel_rfl, by kernel_rfl, by kernel_rfl, by kernel_rfl⟩
theorem p_157 : Xg Tryz.prog 157 := ⟨by kernel_rfl, by kernel_rfl⟩
theorem uf_157 : (match Tryz.prog.underlying 157 with | some (.func ..) => true | _ => false) = true := by kernel_rfl
theorem XY : Xg Tryz.prog 159 := ⟨by kernel_rfl, by kernel_rfl⟩
theorem z_159 : XG Tryz.prog 159 [.pointer none] := by unfold XG; kernel_rfl
theorem b_162 : XQ Tryz.prog 162 [(0, 1), (1, 1), (2, 1), (3, 1), (4, 1), (5, 1), (6, 6), (12, 1)] [.pointer none, .int .i64 0, .int .i64 0, .string ⟨#[]⟩, .nilFunc, .slice none 0 0, .int .i64 0, .int .i64 0, .int .i64 0, .string ⟨#[]⟩, .string ⟨#[]⟩, .bool false, .slice none 0 0] := ⟨by kernel_rfl, by kernel_rfl, by kernel_rfl, by kernel_rfl⟩
theorem p_166 : Xg Tryz.prog 166 := ⟨by kernel_rfl, by kernel_rfl⟩
theorem p_171 : Xg Tryz.prog 171 := ⟨by kernel_rfl, by kernel_rfl⟩
theorem b_175 : XQ Tryz.prog 175 [(0, 1), (1, 1), (2, 3)] [.int .i64 0, .slice none 0 0, .slice none 0 0, .slice none 0 0, .slice none 0 0] := ⟨by kernel_rfl, by kernel_rfl, by kernel_rfl, by kernel_rfl⟩
theorem p_176 : Xg Tryz.prog 176 := ⟨by kernel_rfl, by kernel_rfl⟩
theorem sl_176 : XA Tryz.prog 176 183 4 32 [.pointer none, .int .i64 0, .int .i64 0, .bool false] := ⟨by kernel_rfl, by kernel_rfl⟩
theorem b_178 : XQ Tryz.prog 178 [(0, 1), (1, 1), (2, 1)] [.slice none 0 0, .slice none 0 0, .int .i64 0] := ⟨by kernel_rfl, by kernel_rfl, by kernel_rfl, by kernel_rfl⟩
theorem p_179 : Xg Tryz.prog 179 := ⟨by kernel_rfl, by kernel_rfl⟩
theorem sl_179 : XA Tryz.prog 179 218 3 24 [.int .i64 0, .int .i64 0, .int .i64 0] := ⟨by kernel_rfl, by kernel_rfl⟩
theorem b_181 : XQ Tryz.prog 181 [(0, 1)] [.slice none 0 0] := ⟨by kernel_rfl, by kernel_rfl, by kernel_rfl, by kernel_rfl⟩
theorem s_183 : XD Tryz.prog 183 4 := ⟨by kernel_rfl, by kernel_rfl⟩
theorem b_183 : XQ Tryz.prog 183 [(0, 2), (2, 1), (3, 1)] [.pointer none, .int .i64 0, .int .i64 0, .bool false] := ⟨by kernel_rfl, by kernel_rfl, by kernel_rfl, by kernel_rfl⟩
theorem b_187 : XQ Tryz.prog 187 [(0, 2), (2, 1)] [.int .i64 0, .int .i64 0, .int .i64 0] := ⟨by kernel_rfl, by kernel_rfl, by kernel_rfl, by kernel_rfl⟩
theorem b_189 : XQ Tryz.prog 189 [(0, 1), (1, 1)] [.pointer none, .int .i64 0] := ⟨by kernel_rfl, by kernel_rfl, by kernel_rfl, by kernel_rfl⟩
theorem p_190 : Xg Tryz.prog 190 := ⟨by kernel_rfl, by kernel_rfl⟩
theorem sl_190 : XA Tryz.prog 190 194 4 48 [.string ⟨#[]⟩, .string ⟨#[]⟩, .bool false, .int .i64 0] := ⟨by kernel_rfl, by kernel_rfl⟩
theorem b_192 : XQ Tryz.prog 192 [(0, 1), (1, 1), (2, 1), (3, 1)] [.slice none 0 0, .int .i64 0, .int .i64 0, .int .i64 0] := ⟨by kernel_rfl, by kernel_rfl, by kernel_rfl, by kernel_rfl⟩
theorem s_194 : XD Tryz.prog 194 4 := ⟨by kernel_rfl, by kernel_rfl⟩
theorem b_194 : XQ Tryz.prog 194 [(0, 3), (3, 1)] [.string ⟨#[]⟩, .string ⟨#[]⟩, .bool false, .int .i64 0] := ⟨by kernel_rfl, by kernel_rfl, by kernel_rfl, by kernel_rfl⟩
theorem p_195 : Xg Tryz.prog 195 := ⟨by kernel_rfl, by kernel_rfl⟩
theorem b_197 : XQ Tryz.prog 197 [(0, 1), (1, 1), (2, 1)] [.slice none 0 0, .int .i64 0, .map none] := ⟨by kernel_rfl, by kernel_rfl, by kernel_rfl, by kernel_rfl⟩
theorem p_221 : Xg Tryz.prog 221 := ⟨by kernel_rfl, by kernel_rfl⟩
theorem z_221 : XG Tryz.prog 221 [.nilFunc] := by unfold XG; kernel_rfl
theorem p_247 : Xg Tryz.prog 247 := ⟨by kernel_rfl, by kernel_rfl⟩
theorem uf_247 : (match Tryz.prog.underlying 247 with | some (.func ..) => true | _ => false) = true := by kernel_rfl
theorem ui_253 : Tryz.prog.underlying 253 = some (.int .u64) := by kernel_rfl
theorem p_259 : Xg Tryz.prog 259 := ⟨by kernel_rfl, by kernel_rfl⟩
theorem Qz : XA Tryz.prog 259 101 1 8 [.pointer none] := ⟨by kernel_rfl, by kernel_rfl⟩
theorem s_261 : XD Tryz.prog 261 2 := ⟨by kernel_rfl, by kernel_rfl⟩
theorem z_261 : XG Tryz.prog 261 [.slice none 0 0, .slice none 0 0] := by unfold XG; kernel_rfl
theorem b_261 : XQ Tryz.prog 261 [(0, 1), (1, 1)] [.slice none 0 0, .slice none 0 0] := ⟨by kernel_rfl, by kernel_rfl, by kernel_rfl, by kernel_rfl⟩
theorem s_263 : XD Tryz.prog 263 4 := ⟨by kernel_rfl, by kernel_rfl⟩
theorem z_263 : XG Tryz.prog 263 [.slice none 0 0, .slice none 0 0, .slice none 0 0, .slice none 0 0] := by unfold XG; kernel_rfl
theorem b_263 : XQ Tryz.prog 263 [(0, 2), (2, 2)] [.slice none 0 0, .slice none 0 0, .slice none 0 0, .slice none 0 0] := ⟨by kernel_rfl, by kernel_rfl, by kernel_rfl, by kernel_rfl⟩
theorem s_270 : XD Tryz.prog 270 0 := ⟨by kernel_rfl, by kernel_rfl⟩
theorem z_270 : XG Tryz.prog 270 [] := by unfold XG; kernel_rfl
theorem b_270 : XQ Tryz.prog 270 [] [] := ⟨by kernel_rfl, by kernel_rfl, by kernel_rfl, by kernel_rfl⟩
theorem p_279 : Xg Tryz.prog 279 := ⟨by kernel_rfl, by kernel_rfl⟩
theorem uf_279 : (match Tryz.prog.underlying 279 with | some (.func ..) => true | _ => false) = true := by kernel_rfl
theorem p_299 : Xg Tryz.prog 299 := ⟨by kernel_rfl, by kernel_rfl⟩
theorem p_306 : Xg Tryz.prog 306 := ⟨by kernel_rfl, by kernel_rfl⟩
theorem ui_323 : Tryz.prog.underlying 323 = some (.int .u64) := by kernel_rfl
theorem f_35_1 : Z0 Tryz.prog 35 1 1 9 1 := Zk
theorem f_37_0 : Z0 Tryz.prog 37 0 0 33 1 := Zk
theorem f_37_1 : Z0 Tryz.prog 37 1 1 3 1 := Zk
theorem f_37_2 : Z0 Tryz.prog 37 2 2 3 1 := Zk
theorem f_37_3 : Z0 Tryz.prog 37 3 3 35 3 := Zk
theorem f_42_0 : Z0 Tryz.prog 42 0 0 3 1 := Zk
theorem f_42_1 : Z0 Tryz.prog 42 1 1 3 1 := Zk
theorem f_42_2 : Z0 Tryz.prog 42 2 2 9 1 := Zk
theorem f_42_3 : Z0 Tryz.prog 42 3 3 9 1 := Zk
theorem f_42_4 : Z0 Tryz.prog 42 4 4 4 1 := Zk
theorem f_44_0 : Z0 Tryz.prog 44 0 0 27 1 := Zk
theorem f_44_1 : Z0 Tryz.prog 44 1 1 3 1 := Zk
theorem f_44_2 : Z0 Tryz.prog 44 2 2 33 1 := Zk
theorem f_60_3 : Z0 Tryz.prog 60 3 7 37 6 := Zk
theorem f_60_5 : Z0 Tryz.prog 60 5 14 3 1 := Zk
theorem f_79_0 : Z0 Tryz.prog 79 0 0 44 3 := Zk
theorem f_79_1 : Z0 Tryz.prog 79 1 3 75 1 := Zk
theorem f_82_0 : Z0 Tryz.prog 82 0 0 28 1 := Zk
theorem f_82_1 : Z0 Tryz.prog 82 1 1 80 1 := Zk
theorem f_84_0 : Z0 Tryz.prog 84 0 0 82 2 := Zk
theorem f_84_1 : Z0 Tryz.prog 84 1 2 3 1 := Zk
theorem f_90_0 : Z0 Tryz.prog 90 0 0 50 1 := Zk
theorem f_90_1 : Z0 Tryz.prog 90 1 1 3 1 := Zk
theorem f_90_2 : Z0 Tryz.prog 90 2 2 42 5 := Zk
theorem f_90_3 : Z0 Tryz.prog 90 3 7 49 1 := Zk
theorem f_90_4 : Z0 Tryz.prog 90 4 8 27 1 := Zk
theorem f_90_5 : Z0 Tryz.prog 90 5 9 37 6 := Zk
theorem f_103_0 : Z0 Tryz.prog 103 0 0 101 1 := Zk
theorem f_103_1 : Z0 Tryz.prog 103 1 1 3 1 := Zk
theorem JV : Z0 Tryz.prog 106 0 0 97 1 := Zk
theorem f_106_1 : Z0 Tryz.prog 106 1 1 99 1 := Zk
theorem f_106_2 : Z0 Tryz.prog 106 2 2 92 1 := Zk
theorem Qp : Z0 Tryz.prog 112 0 0 106 3 := Zk
theorem f_112_1 : Z0 Tryz.prog 112 1 3 107 1 := Zk
theorem f_112_2 : Z0 Tryz.prog 112 2 4 109 4 := Zk
theorem f_112_3 : Z0 Tryz.prog 112 3 8 110 1 := Zk
theorem f_117_0 : Z0 Tryz.prog 117 0 0 3 1 := Zk
theorem f_117_1 : Z0 Tryz.prog 117 1 1 3 1 := Zk
theorem f_138_0 : Z0 Tryz.prog 138 0 0 9 1 := Zk
theorem f_150_0 : Z0 Tryz.prog 150 0 0 27 1 := Zk
theorem f_150_1 : Z0 Tryz.prog 150 1 1 148 1 := Zk
theorem f_152_0 : Z0 Tryz.prog 152 0 0 150 2 := Zk
theorem Jm : Z0 Tryz.prog 162 0 0 50 1 := Zk
theorem f_162_1 : Z0 Tryz.prog 162 1 1 3 1 := Zk
theorem f_162_3 : Z0 Tryz.prog 162 3 3 9 1 := Zk
theorem f_162_4 : Z0 Tryz.prog 162 4 4 49 1 := Zk
theorem f_162_5 : Z0 Tryz.prog 162 5 5 27 1 := Zk
theorem f_162_6 : Z0 Tryz.prog 162 6 6 37 6 := Zk
theorem f_162_7 : Z0 Tryz.prog 162 7 12 68 1 := Zk
theorem f_175_0 : Z0 Tryz.prog 175 0 0 3 1 := Zk
theorem JU : Z0 Tryz.prog 175 1 1 27 1 := Zk
theorem f_175_2 : Z0 Tryz.prog 175 2 2 173 3 := Zk
theorem f_178_0 : Z0 Tryz.prog 178 0 0 176 1 := Zk
theorem f_178_1 : Z0 Tryz.prog 178 1 1 27 1 := Zk
theorem f_178_2 : Z0 Tryz.prog 178 2 2 3 1 := Zk
theorem f_181_0 : Z0 Tryz.prog 181 0 0 179 1 := Zk
theorem f_183_0 : Z0 Tryz.prog 183 0 0 103 2 := Zk
theorem f_183_1 : Z0 Tryz.prog 183 1 2 3 1 := Zk
theorem f_183_2 : Z0 Tryz.prog 183 2 3 4 1 := Zk
theorem f_187_0 : Z0 Tryz.prog 187 0 0 117 2 := Zk
theorem f_187_1 : Z0 Tryz.prog 187 1 2 3 1 := Zk
theorem f_189_0 : Z0 Tryz.prog 189 0 0 119 1 := Zk
theorem f_189_1 : Z0 Tryz.prog 189 1 1 3 1 := Zk
theorem f_192_0 : Z0 Tryz.prog 192 0 0 190 1 := Zk
theorem f_192_1 : Z0 Tryz.prog 192 1 1 3 1 := Zk
theorem f_192_2 : Z0 Tryz.prog 192 2 2 3 1 := Zk
theorem f_192_3 : Z0 Tryz.prog 192 3 3 3 1 := Zk
theorem f_194_0 : Z0 Tryz.prog 194 0 0 35 3 := Zk
theorem f_194_1 : Z0 Tryz.prog 194 1 3 3 1 := Zk
theorem Jd : Z0 Tryz.prog 197 0 0 53 1 := Zk
theorem Jz : Z0 Tryz.prog 197 1 1 3 1 := Zk
theorem f_197_2 : Z0 Tryz.prog 197 2 2 195 1 := Zk
theorem f_216_0 : Z0 Tryz.prog 216 0 0 3 1 := Zk
theorem f_216_1 : Z0 Tryz.prog 216 1 1 3 1 := Zk
theorem f_218_0 : Z0 Tryz.prog 218 0 0 216 2 := Zk
theorem f_218_1 : Z0 Tryz.prog 218 1 2 3 1 := Zk
theorem f_261_0 : Z0 Tryz.prog 261 0 0 28 1 := Zk
theorem f_261_1 : Z0 Tryz.prog 261 1 1 259 1 := Zk
theorem f_263_0 : Z0 Tryz.prog 263 0 0 152 2 := Zk
theorem f_263_1 : Z0 Tryz.prog 263 1 2 261 2 := Zk
end Go.Proofs.YtjklgohpminefaaGreatDoorC
