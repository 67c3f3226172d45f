/- Rising lists: where a key stands, what a key's coming and going makes of them; no program in sight. -/
import Derived.Test.YthcclgoidchkdaaDoorCoreO
set_option linter.unusedVariables false
set_option linter.unusedSimpArgs false
namespace Go.Proofs.YthcclgoidchkdaaDoorC
open Go.RowKit
structure Lo {κ : Type} (lt : κ → κ → Bool) : Prop where
  irr : ∀ a, lt a a = false
  tr : ∀ a b c, lt a b = true → lt b c = true → lt a c = true
  tri : ∀ a b, lt a b = false → lt b a = false → a = b
def ltI (a b : Int) : Bool := decide (a < b)
def ltS (a b : Str) : Bool := Op.bytesLess a b
theorem lo_int : Lo ltI := ⟨fun a => by simp [ltI], fun a b c h k => by simp only [ltI, decide_eq_true_eq] at *; omega, fun a b h k => by simp only [ltI, decide_eq_false_iff_not] at *; omega⟩
theorem bytesLess_cons (a b : UInt8) (l m : Str) : Op.bytesLess (a :: l) (b :: m) = (decide (a < b) || (decide (a = b) && Op.bytesLess l m)) := by
  simp only [Op.bytesLess]
  by_cases h : a = b
  · simp [h]
  · simp [h]
theorem lo_str : Lo ltS := by
  refine ⟨?_, ?_, ?_⟩
  · intro a
    induction a with
    | nil => rfl
    | cons x a ih => unfold ltS at *; rw [bytesLess_cons]; simp [ih]
  · intro a
    induction a with
    | nil => intro b c h k; cases b <;> cases c <;> simp_all [ltS, Op.bytesLess]
    | cons x a ih =>
      intro b c h k
      cases b with
      | nil => simp [ltS, Op.bytesLess] at h
      | cons y b =>
        cases c with
        | nil => simp [ltS, Op.bytesLess] at k
        | cons z c =>
          unfold ltS at *
          rw [bytesLess_cons] at *
          simp only [Bool.or_eq_true, Bool.and_eq_true, decide_eq_true_eq] at *
          rcases h with h | ⟨rfl, h⟩
          · rcases k with k | ⟨rfl, k⟩
            · left; rw [UInt8.lt_iff_toNat_lt] at *; omega
            · left; exact h
          · rcases k with k | ⟨rfl, k⟩
            · left; exact k
            · right; exact ⟨rfl, ih _ _ h k⟩
  · intro a
    induction a with
    | nil => intro b h k; cases b <;> simp_all [ltS, Op.bytesLess]
    | cons x a ih =>
      intro b h k
      cases b with
      | nil => simp [ltS, Op.bytesLess] at k
      | cons y b =>
        unfold ltS at *
        rw [bytesLess_cons] at *
        simp only [Bool.or_eq_false_iff, Bool.and_eq_false_iff, decide_eq_false_iff_not] at *
        have e : x = y := by
          have h1 := h.1; have k1 := k.1
          rw [UInt8.lt_iff_toNat_lt] at h1 k1
          exact UInt8.toNat_inj.1 (by omega)
        subst e
        rw [ih b (by rcases h.2 with h | h; exact absurd rfl h; exact h) (by rcases k.2 with h | h; exact absurd rfl h; exact h)]
section
variable {κ : Type} {lt : κ → κ → Bool}
def Sorted (lt : κ → κ → Bool) (l : List κ) : Prop := l.Pairwise fun a b => lt a b = true
theorem Sorted.get {l : List κ} (h : Sorted lt l) {p q : Nat} {a b : κ} (hp : l[p]? = some a) (hq : l[q]? = some b) (hpq : p < q) : lt a b = true := by
  obtain ⟨h1, rfl⟩ := List.getElem?_eq_some_iff.1 hp
  obtain ⟨h2, rfl⟩ := List.getElem?_eq_some_iff.1 hq
  exact List.pairwise_iff_getElem.1 h p q h1 h2 hpq
/-- How many are ahead of a key. -/
def lb (lt : κ → κ → Bool) (l : List κ) (x : κ) : Nat := (l.takeWhile fun y => lt y x).length
theorem lb_le (l : List κ) (x : κ) : lb lt l x ≤ l.length := by unfold lb; induction l with
  | nil => simp
  | cons y l ih => rw [List.takeWhile_cons]; split <;> simp; exact ih
theorem lb_of {l : List κ} {x : κ} {i : Nat} (hi : i ≤ l.length) (h1 : ∀ p y, p < i → l[p]? = some y → lt y x = true) (h2 : ∀ y, l[i]? = some y → lt y x = false) : lb lt l x = i := by
  induction l generalizing i with
  | nil => simp at hi; subst hi; rfl
  | cons y l ih =>
    cases i with
    | zero =>
      have := h2 y rfl
      simp [lb, List.takeWhile_cons, this]
    | succ i =>
      have h3 := h1 0 y (by omega) rfl
      have h4 := ih (i := i) (by simpa using hi) (fun p z hp hz => h1 (p + 1) z (by omega) hz) (fun z hz => h2 z hz)
      simp only [lb] at h4
      simp [lb, List.takeWhile_cons, h3, h4]
theorem lb_lt {l : List κ} {x : κ} {p : Nat} {y : κ} (hp : p < lb lt l x) (hy : l[p]? = some y) : lt y x = true := by
  induction l generalizing p with
  | nil => simp at hy
  | cons z l ih =>
    simp only [lb, List.takeWhile_cons] at hp
    by_cases hz : lt z x = true
    · rw [if_pos hz] at hp
      cases p with
      | zero => simp at hy; subst hy; exact hz
      | succ p => exact ih (by simp only [lb]; simpa using hp) (by simpa using hy)
    · rw [if_neg hz] at hp; simp at hp
theorem lb_at {l : List κ} {x y : κ} (hy : l[lb lt l x]? = some y) : lt y x = false := by
  induction l with
  | nil => simp at hy
  | cons z l ih =>
    simp only [lb, List.takeWhile_cons] at hy
    by_cases hz : lt z x = true
    · rw [if_pos hz] at hy
      exact ih (by simp only [lb]; simpa using hy)
    · rw [if_neg hz] at hy
      simp at hy; subst hy; simpa using hz
theorem lb_ge (hl : Lo lt) {l : List κ} (hs : Sorted lt l) {x : κ} {p : Nat} {y : κ} (hp : lb lt l x ≤ p) (hy : l[p]? = some y) : lt y x = false := by
  have hlt : lb lt l x < l.length := by have := (List.getElem?_eq_some_iff.1 hy).1; omega
  obtain ⟨z, hz⟩ : ∃ z, l[lb lt l x]? = some z := ⟨_, List.getElem?_eq_getElem hlt⟩
  have h1 := lb_at hz
  by_cases hpe : p = lb lt l x
  · subst hpe; rw [hy] at hz; cases hz; exact h1
  · have h2 := hs.get hz hy (by omega)
    cases h3 : lt y x with
    | false => rfl
    | true => have := hl.tr _ _ _ h2 h3; rw [this] at h1; cases h1
/-- Is a key there? -/
def isAt [DecidableEq κ] (lt : κ → κ → Bool) (l : List κ) (x : κ) : Bool := decide (l[lb lt l x]? = some x)
theorem isAt_iff [DecidableEq κ] (hl : Lo lt) {l : List κ} (hs : Sorted lt l) (x : κ) : isAt lt l x = true ↔ x ∈ l := by
  simp only [isAt, decide_eq_true_eq]
  constructor
  · exact fun h => List.mem_of_getElem? h
  · intro h
    obtain ⟨p, hp⟩ := List.mem_iff_getElem?.1 h
    have h1 : ¬ p < lb lt l x := fun h => by have := lb_lt h hp; rw [hl.irr] at this; cases this
    have hlt : lb lt l x < l.length := by have := (List.getElem?_eq_some_iff.1 hp).1; omega
    obtain ⟨z, hz⟩ : ∃ z, l[lb lt l x]? = some z := ⟨_, List.getElem?_eq_getElem hlt⟩
    by_cases hpe : p = lb lt l x
    · rw [hpe] at hp; exact hp
    · have h2 := hs.get hz hp (by omega)
      have h3 := lb_at hz
      rw [h2] at h3; cases h3
/-- A key's coming. -/
def putK [DecidableEq κ] (lt : κ → κ → Bool) (l : List κ) (x : κ) : List κ := if isAt lt l x = true then l else l.take (lb lt l x) ++ x :: l.drop (lb lt l x)
theorem putK_mem [DecidableEq κ] (hl : Lo lt) {l : List κ} (hs : Sorted lt l) (x y : κ) : y ∈ putK lt l x ↔ y = x ∨ y ∈ l := by
  unfold putK
  split
  · rename_i h
    have := (isAt_iff hl hs x).1 h
    constructor
    · exact fun h => .inr h
    · rintro (rfl | h); exact this; exact h
  · conv => rhs; rw [← List.take_append_drop (lb lt l x) l]
    simp only [List.mem_append, List.mem_cons]
    constructor
    · rintro (h | h | h); exact .inr (.inl h); exact .inl h; exact .inr (.inr h)
    · rintro (h | h | h); exact .inr (.inl h); exact .inl h; exact .inr (.inr h)
theorem putK_sorted [DecidableEq κ] (hl : Lo lt) {l : List κ} (hs : Sorted lt l) (x : κ) : Sorted lt (putK lt l x) := by
  unfold putK
  split
  · exact hs
  · rename_i hn
    have hsplit : Sorted lt (l.take (lb lt l x) ++ l.drop (lb lt l x)) := by rw [List.take_append_drop]; exact hs
    unfold Sorted at *
    rw [List.pairwise_append] at hsplit ⊢
    obtain ⟨h1, h2, h3⟩ := hsplit
    refine ⟨h1, ?_, ?_⟩
    · rw [List.pairwise_cons]
      refine ⟨fun y hy => ?_, h2⟩
      obtain ⟨p, hp⟩ := List.mem_iff_getElem?.1 hy
      rw [List.getElem?_drop] at hp
      have h4 := lb_ge hl (by unfold Sorted; exact hs) (Nat.le_add_right _ p) hp
      cases h5 : lt x y with
      | true => rfl
      | false =>
        have := hl.tri _ _ h4 h5
        subst this
        exact absurd ((isAt_iff hl hs y).2 (List.mem_of_getElem? hp)) hn
    · intro a ha b hb
      rcases List.mem_cons.1 hb with rfl | hb
      · obtain ⟨p, hp⟩ := List.mem_iff_getElem?.1 ha
        have hp1 := (List.getElem?_eq_some_iff.1 hp).1
        rw [List.length_take] at hp1
        rw [List.getElem?_take_of_lt (by omega)] at hp
        exact lb_lt (by omega) hp
      · exact h3 a ha b hb
theorem putK_len [DecidableEq κ] (l : List κ) (x : κ) : (putK lt l x).length ≤ l.length + 1 := by
  unfold putK; split
  · omega
  · have := lb_le (lt := lt) l x; simp; omega
/-- Two rising lists with the same members are the same. -/
theorem sorted_ext (hl : Lo lt) : ∀ (l m : List κ), Sorted lt l → Sorted lt m → (∀ x, x ∈ l ↔ x ∈ m) → l = m
  | [], [], _, _, _ => rfl
  | [], y :: m, _, _, h => by have := (h y).2 (by simp); cases this
  | x :: l, [], _, _, h => by have := (h x).1 (by simp); cases this
  | x :: l, y :: m, hs, ht, h => by
    obtain ⟨h1, h2⟩ := List.pairwise_cons.1 hs
    obtain ⟨h3, h4⟩ := List.pairwise_cons.1 ht
    have e : x = y := by
      rcases List.mem_cons.1 ((h x).1 (by simp)) with e | hx
      · exact e
      · rcases List.mem_cons.1 ((h y).2 (by simp)) with e | hy
        · exact e.symm
        · have := hl.tr _ _ _ (h3 x hx) (h1 y hy)
          rw [hl.irr] at this; cases this
    subst e
    rw [sorted_ext hl l m h2 h4 fun z => ⟨fun hz => ?_, fun hz => ?_⟩]
    · rcases List.mem_cons.1 ((h z).1 (by simp [hz])) with e | h'
      · subst e; have := h1 z hz; rw [hl.irr] at this; cases this
      · exact h'
    · rcases List.mem_cons.1 ((h z).2 (by simp [hz])) with e | h'
      · subst e; have := h3 z hz; rw [hl.irr] at this; cases this
      · exact h'
/-- A value's coming. -/
def putV [DecidableEq κ] (lt : κ → κ → Bool) (l : List κ) (x : κ) (vs : List (List Value)) (r : List Value) : List (List Value) := if isAt lt l x = true then vs.set (lb lt l x) r else vs.take (lb lt l x) ++ r :: vs.drop (lb lt l x)
theorem putV_len [DecidableEq κ] {l : List κ} {x : κ} {vs : List (List Value)} {r : List Value} (h : vs.length = l.length) : (putV lt l x vs r).length = (putK lt l x).length := by
  have := lb_le (lt := lt) l x
  unfold putV putK; split <;> simp [h]
end
theorem isAt_lt {κ : Type} [DecidableEq κ] {lt : κ → κ → Bool} {l : List κ} {x : κ} (h : isAt lt l x = true) : lb lt l x < l.length := by
  simp only [isAt, decide_eq_true_eq] at h
  exact (List.getElem?_eq_some_iff.1 h).1
theorem putK_map {κ : Type} [DecidableEq κ] {lt : κ → κ → Bool} (e : κ → List Value) (l : List κ) (x : κ) : (if isAt lt l x = true then (l.map e).set (lb lt l x) (e x) else (l.map e).take (lb lt l x) ++ e x :: (l.map e).drop (lb lt l x)) = (putK lt l x).map e := by
  unfold putK
  by_cases h : isAt lt l x = true
  · rw [if_pos h, if_pos h]
    have h1 := isAt_lt h
    simp only [isAt, decide_eq_true_eq] at h
    apply List.ext_getElem?
    intro j
    by_cases hj : lb lt l x = j
    · subst hj; rw [List.getElem?_set_self (by simpa using h1)]; simp [h]
    · rw [List.getElem?_set_ne hj]
  · rw [if_neg h, if_neg h]; simp
theorem Ow.shape {w : World} {v : Value} {b k : Nat} {rows : List (List Value)} {spare : List Value} (h : Ow w v b k rows spare) : ∃ a l c, v = .slice a l c := by obtain ⟨c, e, _⟩ := h.val; exact ⟨_, _, _, e⟩
theorem two1 {v u : Value} (h : v.oneCell' = true) (k : u.oneCell' = true) : ∀ x ∈ [v, u], x.oneCell' = true := by intro x hx; simp only [List.mem_cons, List.not_mem_nil, or_false] at hx; rcases hx with rfl | rfl <;> assumption
theorem Sl.shape {M : Nat → Prop} {w : World} {v : Value} {k : Nat} {rows : List (List Value)} (h : Sl M w v k rows) : ∃ a l c, v = .slice a l c := by obtain ⟨a, c, e, _⟩ := h.len; exact ⟨_, _, _, e⟩
theorem fdiv2 (a b : Nat) : Int.fdiv ((a : Int) + (b : Int)) 2 = (((a + b) / 2 : Nat) : Int) := by rw [← Int.natCast_add]; exact (Int.ofNat_fdiv (a + b) 2).symm
theorem Rn.cast {P : Program} {σ : Env} {w : World} {o : Oper} {v v' : Value} (h : Rn P σ w o v) (e : v = v') : Rn P σ w o v' := e ▸ h
/-- A map reads as keys and values. -/
structure MapR {κ : Type} (M : Nat → Prop) (w : World) (ek : κ → List Value) (k : Nat) (v1 v2 : Value) (ks : List κ) (vs : List (List Value)) : Prop where
  keys : Sl M w v1 1 (ks.map ek)
  vals : Sl M w v2 k vs
  len : vs.length = ks.length
theorem MapR.ext {κ : Type} {M M' : Nat → Prop} {w w' : World} {ek : κ → List Value} {k : Nat} {v1 v2 : Value} {ks : List κ} {vs : List (List Value)} (h : MapR M w ek k v1 v2 ks vs) (hE : Ext M' w w') (hm : ∀ i, M' i → M i) : MapR M w' ek k v1 v2 ks vs :=
  ⟨h.keys.ext hE hm, h.vals.ext hE hm, h.len⟩
theorem MapR.sub {κ : Type} {M M' : Nat → Prop} {w : World} {ek : κ → List Value} {k : Nat} {v1 v2 : Value} {ks : List κ} {vs : List (List Value)} (h : MapR M w ek k v1 v2 ks vs) (hm : ∀ i, M' i → i < w.heap.size → M i) : MapR M' w ek k v1 v2 ks vs :=
  ⟨h.keys.sub hm, h.vals.sub hm, h.len⟩
theorem Stab.mapB {κ : Type} {n0 : Nat} (F : Nat → Prop) (ek : κ → List Value) (k : Nat) (v1 v2 : Value) (ks : List κ) (vs : List (List Value)) : Stab n0 (fun N A => MapR (fun i => N i ∨ F i) A ek k v1 v2 ks vs) := fun N A B hN hA h hE =>
  ⟨Stab.slB F v1 1 (ks.map ek) N A B hN hA h.keys hE, Stab.slB F v2 k vs N A B hN hA h.vals hE, h.len⟩
abbrev Old (w : World) : Nat → Prop := fun i => i < w.heap.size
end Go.Proofs.YthcclgoidchkdaaDoorC
