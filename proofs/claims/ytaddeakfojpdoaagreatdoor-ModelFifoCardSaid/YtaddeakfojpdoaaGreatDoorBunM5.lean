/- Rising lists: where a key stands, what a key's coming and going makes of them; no program in sight. -/
import Derived.Test.YtaddeakfojpdoaaGreatDoorBunM3
import Derived.Test.YtaddeakfojpdoaaGreatDoorBunM4
set_option linter.unusedVariables false
set_option linter.unusedSimpArgs false
namespace Go.Proofs.YtaddeakfojpdoaaGreatDoorC
open Go.RowKit
structure Lo {κ : Type} (lt : κ → κ → Bool) : Prop where
  irr : ∀ a, lt a a = false
  tr : ∀ a b c, lt a b = true → lt b c = true → lt a c = true
  tri : ∀ a b, lt a b = false → lt b a = false → a = b
def ltI (a b : Int) : Bool := decide (a < b)
def ltS (a b : Str) : Bool := Op.bytesLess a b
theorem lo_int : Lo ltI := ⟨fun a => by simp [ltI], fun a b c h k => by simp only [ltI, decide_eq_true_eq] at *; omega, fun a b h k => by simp only [ltI, decide_eq_false_iff_not] at *; omega⟩
theorem bytesLess_cons (a b : UInt8) (l m : Str) : Op.bytesLess (a :: l) (b :: m) = (decide (a < b) || (decide (a = b) && Op.bytesLess l m)) := by
  simp only [Op.bytesLess]
  by_cases h : a = b
  · simp [h]
  · simp [h]
theorem lo_str : Lo ltS := by
  refine ⟨?_, ?_, ?_⟩
  · intro a
    induction a with
    | nil => rfl
    | cons x a ih => unfold ltS at *; rw [bytesLess_cons]; simp [ih]
  · intro a
    induction a with
    | nil => intro b c h k; cases b <;> cases c <;> simp_all [ltS, Op.bytesLess]
    | cons x a ih =>
      intro b c h k
      cases b with
      | nil => simp [ltS, Op.bytesLess] at h
      | cons y b =>
        cases c with
        | nil => simp [ltS, Op.bytesLess] at k
        | cons z c =>
          unfold ltS at *
          rw [bytesLess_cons] at *
          simp only [Bool.or_eq_true, Bool.and_eq_true, decide_eq_true_eq] at *
          rcases h with h | ⟨rfl, h⟩
          · rcases k with k | ⟨rfl, k⟩
            · left; rw [UInt8.lt_iff_toNat_lt] at *; omega
            · left; exact h
          · rcases k with k | ⟨rfl, k⟩
            · left; exact k
            · right; exact ⟨rfl, ih _ _ h k⟩
  · intro a
    induction a with
    | nil => intro b h k; cases b <;> simp_all [ltS, Op.bytesLess]
    | cons x a ih =>
      intro b h k
      cases b with
      | nil => simp [ltS, Op.bytesLess] at k
      | cons y b =>
        unfold ltS at *
        rw [bytesLess_cons] at *
        simp only [Bool.or_eq_false_iff, Bool.and_eq_false_iff, decide_eq_false_iff_not] at *
        have e : x = y := by
          have h1 := h.1; have k1 := k.1
          rw [UInt8.lt_iff_toNat_lt] at h1 k1
          exact UInt8.toNat_inj.1 (by omega)
        subst e
        rw [ih b (by rcases h.2 with h | h; exact absurd rfl h; exact h) (by rcases k.2 with h | h; exact absurd rfl h; exact h)]
section
variable {κ : Type} {lt : κ → κ → Bool}
def Sorted (lt : κ → κ → Bool) (l : List κ) : Prop := l.Pairwise fun a b => lt a b = true
theorem Sorted.get {l : List κ} (h : Sorted lt l) {p q : Nat} {a b : κ} (hp : l[p]? = some a) (hq : l[q]? = some b) (hpq : p < q) : lt a b = true := by
  obtain ⟨h1, rfl⟩ := List.getElem?_eq_some_iff.1 hp
  obtain ⟨h2, rfl⟩ := List.getElem?_eq_some_iff.1 hq
  exact List.pairwise_iff_getElem.1 h p q h1 h2 hpq
/-- How many are ahead of a key. -/
def lb (lt : κ → κ → Bool) (l : List κ) (x : κ) : Nat := (l.takeWhile fun y => lt y x).length
theorem lb_le (l : List κ) (x : κ) : lb lt l x ≤ l.length := by unfold lb; induction l with
  | nil => simp
  | cons y l ih => rw [List.takeWhile_cons]; split <;> simp; exact ih
theorem lb_of {l : List κ} {x : κ} {i : Nat} (hi : i ≤ l.length) (h1 : ∀ p y, p < i → l[p]? = some y → lt y x = true) (h2 : ∀ y, l[i]? = some y → lt y x = false) : lb lt l x = i := by
  induction l generalizing i with
  | nil => simp at hi; subst hi; rfl
  | cons y l ih =>
    cases i with
    | zero =>
      have := h2 y rfl
      simp [lb, List.takeWhile_cons, this]
    | succ i =>
      have h3 := h1 0 y (by omega) rfl
      have h4 := ih (i := i) (by simpa using hi) (fun p z hp hz => h1 (p + 1) z (by omega) hz) (fun z hz => h2 z hz)
      simp only [lb] at h4
      simp [lb, List.takeWhile_cons, h3, h4]
theorem lb_lt {l : List κ} {x : κ} {p : Nat} {y : κ} (hp : p < lb lt l x) (hy : l[p]? = some y) : lt y x = true := by
  induction l generalizing p with
  | nil => simp at hy
  | cons z l ih =>
    simp only [lb, List.takeWhile_cons] at hp
    by_cases hz : lt z x = true
    · rw [if_pos hz] at hp
      cases p with
      | zero => simp at hy; subst hy; exact hz
      | succ p => exact ih (by simp only [lb]; simpa using hp) (by simpa using hy)
    · rw [if_neg hz] at hp; simp at hp
theorem lb_at {l : List κ} {x y : κ} (hy : l[lb lt l x]? = some y) : lt y x = false := by
  induction l with
  | nil => simp at hy
  | cons z l ih =>
    simp only [lb, List.takeWhile_cons] at hy
    by_cases hz : lt z x = true
    · rw [if_pos hz] at hy
      exact ih (by simp only [lb]; simpa using hy)
    · rw [if_neg hz] at hy
      simp at hy; subst hy; simpa using hz
theorem lb_ge (hl : Lo lt) {l : List κ} (hs : Sorted lt l) {x : κ} {p : Nat} {y : κ} (hp : lb lt l x ≤ p) (hy : l[p]? = some y) : lt y x = false := by
  have hlt : lb lt l x < l.length := by have := (List.getElem?_eq_some_iff.1 hy).1; omega
  obtain ⟨z, hz⟩ : ∃ z, l[lb lt l x]? = some z := ⟨_, List.getElem?_eq_getElem hlt⟩
  have h1 := lb_at hz
  by_cases hpe : p = lb lt l x
  · subst hpe; rw [hy] at hz; cases hz; exact h1
  · have h2 := hs.get hz hy (by omega)
    cases h3 : lt y x with
    | false => rfl
    | true => have := hl.tr _ _ _ h2 h3; rw [this] at h1; cases h1
/-- Is a key there? -/
def isAt [DecidableEq κ] (lt : κ → κ → Bool) (l : List κ) (x : κ) : Bool := decide (l[lb lt l x]? = some x)
theorem isAt_iff [DecidableEq κ] (hl : Lo lt) {l : List κ} (hs : Sorted lt l) (x : κ) : isAt lt l x = true ↔ x ∈ l := by
  simp only [isAt, decide_eq_true_eq]
  constructor
  · exact fun h => List.mem_of_getElem? h
  · intro h
    obtain ⟨p, hp⟩ := List.mem_iff_getElem?.1 h
    have h1 : ¬ p < lb lt l x := fun h => by have := lb_lt h hp; rw [hl.irr] at this; cases this
    have hlt : lb lt l x < l.length := by have := (List.getElem?_eq_some_iff.1 hp).1; omega
    obtain ⟨z, hz⟩ : ∃ z, l[lb lt l x]? = some z := ⟨_, List.getElem?_eq_getElem hlt⟩
    by_cases hpe : p = lb lt l x
    · rw [hpe] at hp; exact hp
    · have h2 := hs.get hz hp (by omega)
      have h3 := lb_at hz
      rw [h2] at h3; cases h3
/-- A key's coming. -/
def putK [DecidableEq κ] (lt : κ → κ → Bool) (l : List κ) (x : κ) : List κ := if isAt lt l x = true then l else l.take (lb lt l x) ++ x :: l.drop (lb lt l x)
theorem putK_mem [DecidableEq κ] (hl : Lo lt) {l : List κ} (hs : Sorted lt l) (x y : κ) : y ∈ putK lt l x ↔ y = x ∨ y ∈ l := by
  unfold putK
  split
  · rename_i h
    have := (isAt_iff hl hs x).1 h
    constructor
    · exact fun h => .inr h
    · rintro (rfl | h); exact this; exact h
  · conv => rhs; rw [← List.take_append_drop (lb lt l x) l]
    simp only [List.mem_append, List.mem_cons]
    constructor
    · rintro (h | h | h); exact .inr (.inl h); exact .inl h; exact .inr (.inr h)
    · rintro (h | h | h); exact .inr (.inl h); exact .inl h; exact .inr (.inr h)
theorem putK_sorted [DecidableEq κ] (hl : Lo lt) {l : List κ} (hs : Sorted lt l) (x : κ) : Sorted lt (putK lt l x) := by
  unfold putK
  split
  · exact hs
  · rename_i hn
    have hsplit : Sorted lt (l.take (lb lt l x) ++ l.drop (lb lt l x)) := by rw [List.take_append_drop]; exact hs
    unfold Sorted at *
    rw [List.pairwise_append] at hsplit ⊢
    obtain ⟨h1, h2, h3⟩ := hsplit
    refine ⟨h1, ?_, ?_⟩
    · rw [List.pairwise_cons]
      refine ⟨fun y hy => ?_, h2⟩
      obtain ⟨p, hp⟩ := List.mem_iff_getElem?.1 hy
      rw [List.getElem?_drop] at hp
      have h4 := lb_ge hl (by unfold Sorted; exact hs) (Nat.le_add_right _ p) hp
      cases h5 : lt x y with
      | true => rfl
      | false =>
        have := hl.tri _ _ h4 h5
        subst this
        exact absurd ((isAt_iff hl hs y).2 (List.mem_of_getElem? hp)) hn
    · intro a ha b hb
      rcases List.mem_cons.1 hb with rfl | hb
      · obtain ⟨p, hp⟩ := List.mem_iff_getElem?.1 ha
        have hp1 := (List.getElem?_eq_some_iff.1 hp).1
        rw [List.length_take] at hp1
        rw [List.getElem?_take_of_lt (by omega)] at hp
        exact lb_lt (by omega) hp
      · exact h3 a ha b hb
theorem putK_len [DecidableEq κ] (l : List κ) (x : κ) : (putK lt l x).length ≤ l.length + 1 := by
  unfold putK; split
  · omega
  · have := lb_le (lt := lt) l x; simp; omega
/-- A value's coming. -/
def putV [DecidableEq κ] (lt : κ → κ → Bool) (l : List κ) (x : κ) (vs : List (List Value)) (r : List Value) : List (List Value) := if isAt lt l x = true then vs.set (lb lt l x) r else vs.take (lb lt l x) ++ r :: vs.drop (lb lt l x)
theorem putV_len [DecidableEq κ] {l : List κ} {x : κ} {vs : List (List Value)} {r : List Value} (h : vs.length = l.length) : (putV lt l x vs r).length = (putK lt l x).length := by
  have := lb_le (lt := lt) l x
  unfold putV putK; split <;> simp [h]
end
theorem isAt_lt {κ : Type} [DecidableEq κ] {lt : κ → κ → Bool} {l : List κ} {x : κ} (h : isAt lt l x = true) : lb lt l x < l.length := by
  simp only [isAt, decide_eq_true_eq] at h
  exact (List.getElem?_eq_some_iff.1 h).1
theorem putK_map {κ : Type} [DecidableEq κ] {lt : κ → κ → Bool} (e : κ → List Value) (l : List κ) (x : κ) : (if isAt lt l x = true then (l.map e).set (lb lt l x) (e x) else (l.map e).take (lb lt l x) ++ e x :: (l.map e).drop (lb lt l x)) = (putK lt l x).map e := by
  unfold putK
  by_cases h : isAt lt l x = true
  · rw [if_pos h, if_pos h]
    have h1 := isAt_lt h
    simp only [isAt, decide_eq_true_eq] at h
    apply List.ext_getElem?
    intro j
    by_cases hj : lb lt l x = j
    · subst hj; rw [List.getElem?_set_self (by simpa using h1)]; simp [h]
    · rw [List.getElem?_set_ne hj]
  · rw [if_neg h, if_neg h]; simp
theorem Ow.shape {w : World} {v : Value} {b k : Nat} {rows : List (List Value)} {spare : List Value} (h : Ow w v b k rows spare) : ∃ a l c, v = .slice a l c := by obtain ⟨c, e, _⟩ := h.val; exact ⟨_, _, _, e⟩
theorem two1 {v u : Value} (h : v.oneCell' = true) (k : u.oneCell' = true) : ∀ x ∈ [v, u], x.oneCell' = true := by intro x hx; simp only [List.mem_cons, List.not_mem_nil, or_false] at hx; rcases hx with rfl | rfl <;> assumption
theorem Sl.shape {M : Nat → Prop} {w : World} {v : Value} {k : Nat} {rows : List (List Value)} (h : Sl M w v k rows) : ∃ a l c, v = .slice a l c := by obtain ⟨a, c, e, _⟩ := h.len; exact ⟨_, _, _, e⟩
theorem fdiv2 (a b : Nat) : Int.fdiv ((a : Int) + (b : Int)) 2 = (((a + b) / 2 : Nat) : Int) := by rw [← Int.natCast_add]; exact (Int.ofNat_fdiv (a + b) 2).symm
theorem Rn.cast {P : Program} {σ : Env} {w : World} {o : Oper} {v v' : Value} (h : Rn P σ w o v) (e : v = v') : Rn P σ w o v' := e ▸ h
/-- A map reads as keys and values. -/
structure MapR {κ : Type} (M : Nat → Prop) (w : World) (ek : κ → List Value) (k : Nat) (v1 v2 : Value) (ks : List κ) (vs : List (List Value)) : Prop where
  keys : Sl M w v1 1 (ks.map ek)
  vals : Sl M w v2 k vs
  len : vs.length = ks.length
theorem MapR.ext {κ : Type} {M M' : Nat → Prop} {w w' : World} {ek : κ → List Value} {k : Nat} {v1 v2 : Value} {ks : List κ} {vs : List (List Value)} (h : MapR M w ek k v1 v2 ks vs) (hE : Ext M' w w') (hm : ∀ i, M' i → M i) : MapR M w' ek k v1 v2 ks vs :=
  ⟨h.keys.ext hE hm, h.vals.ext hE hm, h.len⟩
theorem MapR.sub {κ : Type} {M M' : Nat → Prop} {w : World} {ek : κ → List Value} {k : Nat} {v1 v2 : Value} {ks : List κ} {vs : List (List Value)} (h : MapR M w ek k v1 v2 ks vs) (hm : ∀ i, M' i → i < w.heap.size → M i) : MapR M' w ek k v1 v2 ks vs :=
  ⟨h.keys.sub hm, h.vals.sub hm, h.len⟩
theorem Stab.mapB {κ : Type} {n0 : Nat} (F : Nat → Prop) (ek : κ → List Value) (k : Nat) (v1 v2 : Value) (ks : List κ) (vs : List (List Value)) : Stab n0 (fun N A => MapR (fun i => N i ∨ F i) A ek k v1 v2 ks vs) := fun N A B hN hA h hE =>
  ⟨Stab.slB F v1 1 (ks.map ek) N A B hN hA h.keys hE, Stab.slB F v2 k vs N A B hN hA h.vals hE, h.len⟩
abbrev Old (w : World) : Nat → Prop := fun i => i < w.heap.size
end Go.Proofs.YtaddeakfojpdoaaGreatDoorC

/- Searching a rising list; a map's functions. -/
set_option linter.unusedVariables false
set_option linter.unusedSimpArgs false
set_option maxRecDepth 100000
namespace Go.Proofs.YtaddeakfojpdoaaGreatDoorC
open Go.RowKit
def eI1 (x : Int) : List Value := [.int .i64 x]
def eS1 (x : Str) : List Value := [Sv x]
theorem eI_at {ks : List Int} {i : Nat} {x : Int} (h : ks[i]? = some x) : (ks.map eI1)[i]? = some [.int .i64 x] := by simp [h, eI1]
theorem eS_at {ks : List Str} {i : Nat} {x : Str} (h : ks[i]? = some x) : (ks.map eS1)[i]? = some [Sv x] := by simp [h, eS1]
theorem eI_one (ks : List Int) : ∀ r ∈ ks.map eI1, ∀ u ∈ r, u.oneCell' = true := by
  intro r hr u hu; obtain ⟨x, _, rfl⟩ := List.mem_map.1 hr; simp only [eI1, List.mem_singleton] at hu; subst hu; rfl
theorem eS_one (ks : List Str) : ∀ r ∈ ks.map eS1, ∀ u ∈ r, u.oneCell' = true := by
  intro r hr u hu; obtain ⟨x, _, rfl⟩ := List.mem_map.1 hr; simp only [eS1, List.mem_singleton] at hu; subst hu; rfl
-- slices.isNaN[int]
theorem sNaN_i (w : World) (x : Int) : Fn Tryz.prog 125 #[.int .i64 x] w fun u w' => u = .bool false := by
  have hX := Ext.refl Non w
  refine fn_of_W (args := [_]) Tryz.func125 rfl (by kernel_rfl) rfl ?_
  refine W_seq ?_
  refine W_region ?_
  refine wl_val (rn_assign (by conv => lhs; whnf)) ?_
  refine wl_nil ?_
  refine W_seq ?_
  refine W_region ?_
  refine wl_val (rn_move (by conv => lhs; whnf)) ?_
  refine wl_val (rn_move (by conv => lhs; whnf)) ?_
  refine wl_val (rn_neq rfl rfl) ?_
  refine wl_val (rn_assign (by conv => lhs; whnf)) ?_
  refine wl_nil ?_
  refine W_ret ?_
  exact ⟨_, resR1 (res1_tmp rfl), hX, by show Value.bool (decide (x ≠ x)) = _; simp⟩
-- cmp.isNaN[int]
theorem cNaN_i (w : World) (x : Int) : Fn Tryz.prog 154 #[.int .i64 x] w fun u w' => u = .bool false := by
  have hX := Ext.refl Non w
  refine fn_of_W (args := [_]) Tryz.func154 rfl (by kernel_rfl) rfl ?_
  refine W_seq ?_
  refine W_region ?_
  refine wl_val (rn_assign (by conv => lhs; whnf)) ?_
  refine wl_nil ?_
  refine W_seq ?_
  refine W_region ?_
  refine wl_val (rn_move (by conv => lhs; whnf)) ?_
  refine wl_val (rn_move (by conv => lhs; whnf)) ?_
  refine wl_val (rn_neq rfl rfl) ?_
  refine wl_val (rn_assign (by conv => lhs; whnf)) ?_
  refine wl_nil ?_
  refine W_ret ?_
  exact ⟨_, resR1 (res1_tmp rfl), hX, by show Value.bool (decide (x ≠ x)) = _; simp⟩
-- cmp.Less[int]
theorem less_i (w : World) (x y : Int) : Fn Tryz.prog 124 #[.int .i64 x, .int .i64 y] w fun u w' => u = .bool (ltI x y) := by
  have hX := Ext.refl Non w
  refine fn_of_W (args := [_, _]) Tryz.func124 rfl (by kernel_rfl) rfl ?_
  refine W_seq ?_
  refine W_region ?_
  refine wl_val (rn_assign (by conv => lhs; whnf)) ?_
  refine wl_nil ?_
  refine W_seq ?_
  refine W_region ?_
  refine wl_val (rn_move (by conv => lhs; whnf)) ?_
  refine wl_call e_154 rfl (cNaN_i w _) ?_; intro v6 w1 hE1 hR1
  replace hX := hX.tr hE1
  subst hR1
  refine wl_val (rn_move (by conv => lhs; whnf)) ?_
  refine wl_no rfl rfl ?_
  refine wl_no rfl rfl ?_
  refine wl_no rfl rfl ?_
  refine wl_val (rn_pickF rfl (by conv => lhs; whnf)) ?_
  refine wl_val (rn_move (by conv => lhs; whnf)) ?_
  refine wl_yes rfl rfl ?_
  refine wl_val (rn_move (by conv => lhs; whnf)) ?_
  refine wl_yes rfl rfl ?_
  refine wl_val (rn_move (by conv => lhs; whnf)) ?_
  refine wl_yes rfl rfl ?_
  refine wl_val (rn_lss rfl rfl) ?_
  refine wl_val (rn_pickF rfl (by conv => lhs; whnf)) ?_
  refine wl_val (rn_assign (by conv => lhs; whnf)) ?_
  refine wl_nil ?_
  refine W_ret ?_
  exact ⟨_, resR1 (res1_tmp rfl), hX, rfl⟩
-- slices.BinarySearch[[]int,int]
set_option maxHeartbeats 800000 in
theorem bs_i (w : World) (ks : List Int) (x : Int) {v : Value} (hs : Sl Non w v 1 (ks.map eI1)) (hord : Sorted ltI ks) (hn : ks.length ≤ 1000000) : Fn Tryz.prog 87 #[v, .int .i64 x] w fun u w' => u = .tuple #[.int .i64 (lb ltI ks x : Nat), .bool (isAt ltI ks x)] := by
  obtain ⟨a, c, rfl, _⟩ := hs.len
  simp only [List.length_map] at hs ⊢
  have hX := Ext.refl Non w
  refine fn_of_W (args := [_, _]) Tryz.func87 rfl (by kernel_rfl) rfl ?_
  refine W_seq ?_
  refine W_region ?_
  refine wl_val (rn_assign (by conv => lhs; whnf)) ?_
  refine wl_val (rn_assign (by conv => lhs; whnf)) ?_
  refine wl_nil ?_
  refine W_seq ?_
  refine W_region ?_
  refine wl_val (rn_move (by conv => lhs; whnf)) ?_
  refine wl_val (rn_len sl_23 rfl) ?_
  refine wl_val (rn_assign (by conv => lhs; whnf)) ?_
  refine wl_nil ?_
  refine W_seq ?_
  refine W_region ?_
  refine wl_val (rn_move (by conv => lhs; whnf)) ?_
  refine wl_val (rn_assign (by conv => lhs; whnf)) ?_
  refine wl_val (rn_assign (by conv => lhs; whnf)) ?_
  refine wl_nil ?_
  refine W_seq ?_
  refine W_block ?_   -- block 0
  refine W_loopS (S := Nat × Nat) [0, 1, 6, 7, 8] (fun ⟨i, j⟩ => [.slice a ks.length c, .int .i64 x, .int .i64 (ks.length : Nat), .int .i64 (i : Nat), .int .i64 (j : Nat)]) (fun ⟨i, j⟩ A => (Ext Non w A) ∧ (i ≤ j ∧ j ≤ ks.length ∧ (∀ p y, p < i → ks[p]? = some y → ltI y x = true) ∧ (∀ p y, j ≤ p → ks[p]? = some y → ltI y x = false))) (fun ⟨i, j⟩ => j - i) (0, ks.length) ⟨rfl, rfl, rfl, rfl, rfl, trivial⟩ ⟨hX, ⟨Nat.zero_le _, Nat.le_refl _, fun p y h => absurd h (Nat.not_lt_zero _), fun p y h hy => by have := (List.getElem?_eq_some_iff.1 hy).1; omega⟩⟩ ?_
  rintro τ0 ⟨i, j⟩ A0 ⟨hX, hI0⟩
  obtain ⟨hij, hjn, hlo, hhi⟩ := hI0
  refine W_seq ?_
  refine W_seq ?_
  refine W_region ?_
  refine wl_val (rn_move (by conv => lhs; whnf)) ?_
  refine wl_val (rn_move (by conv => lhs; whnf)) ?_
  refine wl_val (rn_lss rfl rfl) ?_
  refine wl_nil ?_
  refine W_cond rfl (fun hc0 => ?_) (fun hc0 => ?_)
  · have hlt := of_decide_eq_true hc0; simp only [Int.ofNat_lt] at hlt
    have hh : (i + j) / 2 < ks.length := by omega
    obtain ⟨y, hy⟩ : ∃ y, ks[(i + j) / 2]? = some y := ⟨_, List.getElem?_eq_getElem hh⟩
    obtain ⟨b, o, ea⟩ := hs.base (by intro e; simp at e; subst e; simp at hh); subst ea
    refine W_skip ?_
    refine W_block ?_   -- block 1
    refine W_seq ?_
    refine W_region ?_
    refine wl_val (rn_move (by conv => lhs; whnf)) ?_
    refine wl_val (rn_move (by conv => lhs; whnf)) ?_
    refine wl_val (rn_add rfl rfl (by omega)) ?_
    refine wl_val (rn_convert ui_3 ui_183 rfl (wrap_u64 (by omega))) ?_
    refine wl_val (Rn.cast (rn_shr1 rfl rfl) (congrArg (Value.int .u64) (fdiv2 i j))) ?_
    refine wl_val (rn_convert ui_183 ui_3 rfl (wrap_id (by omega))) ?_
    refine wl_val (rn_assign (by conv => lhs; whnf)) ?_
    refine wl_nil ?_
    refine W_seq ?_
    refine W_region ?_
    refine wl_val (rn_move (by conv => lhs; whnf)) ?_
    refine wl_val (rn_move (by conv => lhs; whnf)) ?_
    refine wl_val (rn_indexAddr sl_23 rfl rfl (by omega)) ?_
    refine wl_val (rn_load p_3 rfl ((hs.ext hX (fun _ h => h)).at0 (eI_at hy) rfl)) ?_
    refine wl_val (rn_move (by conv => lhs; whnf)) ?_
    refine wl_call e_124 rfl (less_i A0 _ _) ?_; intro v27 w1 hE1 hR1
    replace hX := hX.tr hE1
    subst hR1
    refine wl_nil ?_
    refine W_cond rfl (fun hc1 => ?_) (fun hc1 => ?_)
    · refine W_region ?_
      refine wl_val (rn_move (by conv => lhs; whnf)) ?_
      refine wl_val (rn_add rfl rfl (by omega)) ?_
      refine wl_val (rn_assign (by conv => lhs; whnf)) ?_
      refine wl_nil ?_
      exact ⟨rfl, ((i + j) / 2 + 1, j), ⟨rfl, rfl, rfl, rfl, rfl, trivial⟩, ⟨hX, ⟨by omega, hjn, fun p z hp hz => by by_cases e : p = (i + j) / 2; (subst e; rw [hz] at hy; cases hy; exact hc1); exact (lo_int).tr _ _ _ (hord.get hz hy (by omega)) hc1, hhi⟩⟩, by show j - ((i + j) / 2 + 1) < j - i; omega⟩
    · refine W_region ?_
      refine wl_val (rn_move (by conv => lhs; whnf)) ?_
      refine wl_val (rn_assign (by conv => lhs; whnf)) ?_
      refine wl_nil ?_
      exact ⟨rfl, (i, (i + j) / 2), ⟨rfl, rfl, rfl, rfl, rfl, trivial⟩, ⟨hX, ⟨by omega, by omega, hlo, fun p z hp hz => by by_cases e : p = (i + j) / 2; (subst e; rw [hz] at hy; cases hy; exact hc1); (cases hzx : ltI z x with | false => rfl | true => have := (lo_int).tr _ _ _ (hord.get hy hz (by omega)) hzx; rw [this] at hc1; cases hc1)⟩⟩, by show (i + j) / 2 - i < j - i; omega⟩
  · have hge := of_decide_eq_false hc0; simp only [Int.ofNat_lt, Nat.not_lt] at hge
    have hej : i = j := by omega
    subst hej
    have hlb : lb ltI ks x = i := lb_of hjn hlo (fun y hy => hhi i y (Nat.le_refl _) hy)
    refine W_exit ?_   -- exit 0
    refine W_seq ?_
    refine W_region ?_
    refine wl_val (rn_move (by conv => lhs; whnf)) ?_
    refine wl_val (rn_move (by conv => lhs; whnf)) ?_
    refine wl_val (rn_move (by conv => lhs; whnf)) ?_
    refine wl_val (rn_lss rfl rfl) ?_
    refine wl_val (rn_move (by conv => lhs; whnf)) ?_
    refine wl_split (d := 35) rfl (fun hg35 => ?_) (fun hg35 => ?_)
    · have hlt := of_decide_eq_true hg35; simp only [Int.ofNat_lt] at hlt
      obtain ⟨y, hy⟩ : ∃ y, ks[i]? = some y := ⟨_, List.getElem?_eq_getElem hlt⟩
      obtain ⟨b, o, ea⟩ := hs.base (by intro e; simp at e; subst e; simp at hlt); subst ea
      refine wl_yes rfl (congrArg Value.bool hg35) ?_
      refine wl_val (rn_move (by conv => lhs; whnf)) ?_
      refine wl_yes rfl (congrArg Value.bool hg35) ?_
      refine wl_val (rn_move (by conv => lhs; whnf)) ?_
      refine wl_yes rfl (congrArg Value.bool hg35) ?_
      refine wl_val (rn_indexAddr sl_23 rfl rfl (by omega)) ?_
      refine wl_yes rfl (congrArg Value.bool hg35) ?_
      refine wl_val (rn_load p_3 rfl ((hs.ext hX (fun _ h => h)).at0 (eI_at hy) rfl)) ?_
      refine wl_yes rfl (congrArg Value.bool hg35) ?_
      refine wl_val (rn_move (by conv => lhs; whnf)) ?_
      refine wl_yes rfl (congrArg Value.bool hg35) ?_
      refine wl_val (rn_eql rfl rfl) ?_
      refine wl_yes rfl (congrArg Value.bool hg35) ?_
      refine wl_val (rn_move (by conv => lhs; whnf)) ?_
      refine wl_split (d := 42) rfl (fun hg42 => ?_) (fun hg42 => ?_)
      · refine wl_no rfl (congrArg Value.bool hg42) ?_
        refine wl_no rfl (congrArg Value.bool hg42) ?_
        refine wl_no rfl (congrArg Value.bool hg42) ?_
        refine wl_no rfl (congrArg Value.bool hg42) ?_
        refine wl_no rfl (congrArg Value.bool hg42) ?_
        refine wl_no rfl (congrArg Value.bool hg42) ?_
        refine wl_nou rfl rfl ?_
        refine wl_nou rfl rfl ?_
        refine wl_no rfl (congrArg Value.bool hg42) ?_
        refine wl_yes rfl (congrArg Value.bool hg35) ?_
        refine wl_val (rn_pickT (congrArg Value.bool hg42) (by conv => lhs; whnf)) ?_
        refine wl_val (rn_pickT (congrArg Value.bool hg35) (by conv => lhs; whnf)) ?_
        refine wl_val (rn_assign (by conv => lhs; whnf)) ?_
        refine wl_val (rn_assign (by conv => lhs; whnf)) ?_
        refine wl_nil ?_
        refine W_ret ?_
        have hxy := of_decide_eq_true hg42
        exact ⟨_, resR2 (res1_tmp rfl) (res1_tmp rfl), hX, by show Value.tuple #[.int .i64 (i : Nat), .bool true] = _; rw [hlb]; unfold isAt; rw [hlb, hy, hxy, decide_eq_true rfl]⟩
      · refine wl_yes rfl (congrArg Value.bool hg42) ?_
        refine wl_val (rn_move (by conv => lhs; whnf)) ?_
        refine wl_yes rfl (congrArg Value.bool hg42) ?_
        refine wl_val (rn_move (by conv => lhs; whnf)) ?_
        refine wl_yes rfl (congrArg Value.bool hg42) ?_
        refine wl_val (rn_indexAddr sl_23 rfl rfl (by omega)) ?_
        refine wl_yes rfl (congrArg Value.bool hg42) ?_
        refine wl_val (rn_load p_3 rfl ((hs.ext hX (fun _ h => h)).at0 (eI_at hy) rfl)) ?_
        refine wl_yes rfl (congrArg Value.bool hg42) ?_
        refine wl_call e_125 rfl (sNaN_i A0 _) ?_; intro v47 w2 hE2 hR2
        replace hX := hX.tr hE2
        subst hR2
        refine wl_yes rfl (congrArg Value.bool hg42) ?_
        refine wl_val (rn_move (by conv => lhs; whnf)) ?_
        refine wl_no rfl rfl ?_
        refine wl_no rfl rfl ?_
        refine wl_yes rfl (congrArg Value.bool hg42) ?_
        refine wl_val (rn_pickF rfl (by conv => lhs; whnf)) ?_
        refine wl_yes rfl (congrArg Value.bool hg35) ?_
        refine wl_val (rn_pickF (congrArg Value.bool hg42) (by conv => lhs; whnf)) ?_
        refine wl_val (rn_pickT (congrArg Value.bool hg35) (by conv => lhs; whnf)) ?_
        refine wl_val (rn_assign (by conv => lhs; whnf)) ?_
        refine wl_val (rn_assign (by conv => lhs; whnf)) ?_
        refine wl_nil ?_
        refine W_ret ?_
        have hxy := of_decide_eq_false hg42
        exact ⟨_, resR2 (res1_tmp rfl) (res1_tmp rfl), hX, by show Value.tuple #[.int .i64 (i : Nat), .bool false] = _; rw [hlb]; unfold isAt; rw [hlb, hy, decide_eq_false (fun e => hxy (Option.some.inj e))]⟩
    · refine wl_no rfl (congrArg Value.bool hg35) ?_
      refine wl_no rfl (congrArg Value.bool hg35) ?_
      refine wl_no rfl (congrArg Value.bool hg35) ?_
      refine wl_no rfl (congrArg Value.bool hg35) ?_
      refine wl_no rfl (congrArg Value.bool hg35) ?_
      refine wl_no rfl (congrArg Value.bool hg35) ?_
      refine wl_no rfl (congrArg Value.bool hg35) ?_
      refine wl_nou rfl rfl ?_
      refine wl_nou rfl rfl ?_
      refine wl_nou rfl rfl ?_
      refine wl_nou rfl rfl ?_
      refine wl_nou rfl rfl ?_
      refine wl_nou rfl rfl ?_
      refine wl_nou rfl rfl ?_
      refine wl_nou rfl rfl ?_
      refine wl_nou rfl rfl ?_
      refine wl_no rfl (congrArg Value.bool hg35) ?_
      refine wl_val (rn_pickF (congrArg Value.bool hg35) (by conv => lhs; whnf)) ?_
      refine wl_val (rn_assign (by conv => lhs; whnf)) ?_
      refine wl_val (rn_assign (by conv => lhs; whnf)) ?_
      refine wl_nil ?_
      refine W_ret ?_
      have hge2 := of_decide_eq_false hg35; simp only [Int.ofNat_lt, Nat.not_lt] at hge2
      exact ⟨_, resR2 (res1_tmp rfl) (res1_tmp rfl), hX, by show Value.tuple #[.int .i64 (i : Nat), .bool false] = _; rw [hlb]; unfold isAt; rw [hlb, List.getElem?_eq_none hge2, decide_eq_false (by simp)]⟩
-- slices.isNaN[string]
theorem sNaN_s (w : World) (x : Str) : Fn Tryz.prog 146 #[Sv x] w fun u w' => u = .bool false := by
  have hX := Ext.refl Non w
  refine fn_of_W (args := [_]) Tryz.func146 rfl (by kernel_rfl) rfl ?_
  refine W_seq ?_
  refine W_region ?_
  refine wl_val (rn_assign (by conv => lhs; whnf)) ?_
  refine wl_nil ?_
  refine W_seq ?_
  refine W_region ?_
  refine wl_val (rn_move (by conv => lhs; whnf)) ?_
  refine wl_val (rn_move (by conv => lhs; whnf)) ?_
  refine wl_val (rn_sneq rfl rfl) ?_
  refine wl_val (rn_assign (by conv => lhs; whnf)) ?_
  refine wl_nil ?_
  refine W_ret ?_
  exact ⟨_, resR1 (res1_tmp rfl), hX, by show Value.bool (decide (x ≠ x)) = _; simp⟩
-- cmp.isNaN[string]
theorem cNaN_s (w : World) (x : Str) : Fn Tryz.prog 169 #[Sv x] w fun u w' => u = .bool false := by
  have hX := Ext.refl Non w
  refine fn_of_W (args := [_]) Tryz.func169 rfl (by kernel_rfl) rfl ?_
  refine W_seq ?_
  refine W_region ?_
  refine wl_val (rn_assign (by conv => lhs; whnf)) ?_
  refine wl_nil ?_
  refine W_seq ?_
  refine W_region ?_
  refine wl_val (rn_move (by conv => lhs; whnf)) ?_
  refine wl_val (rn_move (by conv => lhs; whnf)) ?_
  refine wl_val (rn_sneq rfl rfl) ?_
  refine wl_val (rn_assign (by conv => lhs; whnf)) ?_
  refine wl_nil ?_
  refine W_ret ?_
  exact ⟨_, resR1 (res1_tmp rfl), hX, by show Value.bool (decide (x ≠ x)) = _; simp⟩
-- cmp.Less[string]
theorem less_s (w : World) (x y : Str) : Fn Tryz.prog 145 #[Sv x, Sv y] w fun u w' => u = .bool (ltS x y) := by
  have hX := Ext.refl Non w
  refine fn_of_W (args := [_, _]) Tryz.func145 rfl (by kernel_rfl) rfl ?_
  refine W_seq ?_
  refine W_region ?_
  refine wl_val (rn_assign (by conv => lhs; whnf)) ?_
  refine wl_nil ?_
  refine W_seq ?_
  refine W_region ?_
  refine wl_val (rn_move (by conv => lhs; whnf)) ?_
  refine wl_call e_169 rfl (cNaN_s w _) ?_; intro v6 w1 hE1 hR1
  replace hX := hX.tr hE1
  subst hR1
  refine wl_val (rn_move (by conv => lhs; whnf)) ?_
  refine wl_no rfl rfl ?_
  refine wl_no rfl rfl ?_
  refine wl_no rfl rfl ?_
  refine wl_val (rn_pickF rfl (by conv => lhs; whnf)) ?_
  refine wl_val (rn_move (by conv => lhs; whnf)) ?_
  refine wl_yes rfl rfl ?_
  refine wl_val (rn_move (by conv => lhs; whnf)) ?_
  refine wl_yes rfl rfl ?_
  refine wl_val (rn_move (by conv => lhs; whnf)) ?_
  refine wl_yes rfl rfl ?_
  refine wl_val (rn_slss rfl rfl) ?_
  refine wl_val (rn_pickF rfl (by conv => lhs; whnf)) ?_
  refine wl_val (rn_assign (by conv => lhs; whnf)) ?_
  refine wl_nil ?_
  refine W_ret ?_
  exact ⟨_, resR1 (res1_tmp rfl), hX, rfl⟩
-- slices.BinarySearch[[]string,string]
set_option maxHeartbeats 800000 in
theorem bs_s (w : World) (ks : List Str) (x : Str) {v : Value} (hs : Sl Non w v 1 (ks.map eS1)) (hord : Sorted ltS ks) (hn : ks.length ≤ 1000000) : Fn Tryz.prog 108 #[v, Sv x] w fun u w' => u = .tuple #[.int .i64 (lb ltS ks x : Nat), .bool (isAt ltS ks x)] := by
  obtain ⟨a, c, rfl, _⟩ := hs.len
  simp only [List.length_map] at hs ⊢
  have hX := Ext.refl Non w
  refine fn_of_W (args := [_, _]) Tryz.func108 rfl (by kernel_rfl) rfl ?_
  refine W_seq ?_
  refine W_region ?_
  refine wl_val (rn_assign (by conv => lhs; whnf)) ?_
  refine wl_val (rn_assign (by conv => lhs; whnf)) ?_
  refine wl_nil ?_
  refine W_seq ?_
  refine W_region ?_
  refine wl_val (rn_move (by conv => lhs; whnf)) ?_
  refine wl_val (rn_len sl_22 rfl) ?_
  refine wl_val (rn_assign (by conv => lhs; whnf)) ?_
  refine wl_nil ?_
  refine W_seq ?_
  refine W_region ?_
  refine wl_val (rn_move (by conv => lhs; whnf)) ?_
  refine wl_val (rn_assign (by conv => lhs; whnf)) ?_
  refine wl_val (rn_assign (by conv => lhs; whnf)) ?_
  refine wl_nil ?_
  refine W_seq ?_
  refine W_block ?_   -- block 0
  refine W_loopS (S := Nat × Nat) [0, 1, 6, 7, 8] (fun ⟨i, j⟩ => [.slice a ks.length c, Sv x, .int .i64 (ks.length : Nat), .int .i64 (i : Nat), .int .i64 (j : Nat)]) (fun ⟨i, j⟩ A => (Ext Non w A) ∧ (i ≤ j ∧ j ≤ ks.length ∧ (∀ p y, p < i → ks[p]? = some y → ltS y x = true) ∧ (∀ p y, j ≤ p → ks[p]? = some y → ltS y x = false))) (fun ⟨i, j⟩ => j - i) (0, ks.length) ⟨rfl, rfl, rfl, rfl, rfl, trivial⟩ ⟨hX, ⟨Nat.zero_le _, Nat.le_refl _, fun p y h => absurd h (Nat.not_lt_zero _), fun p y h hy => by have := (List.getElem?_eq_some_iff.1 hy).1; omega⟩⟩ ?_
  rintro τ0 ⟨i, j⟩ A0 ⟨hX, hI0⟩
  obtain ⟨hij, hjn, hlo, hhi⟩ := hI0
  refine W_seq ?_
  refine W_seq ?_
  refine W_region ?_
  refine wl_val (rn_move (by conv => lhs; whnf)) ?_
  refine wl_val (rn_move (by conv => lhs; whnf)) ?_
  refine wl_val (rn_lss rfl rfl) ?_
  refine wl_nil ?_
  refine W_cond rfl (fun hc0 => ?_) (fun hc0 => ?_)
  · have hlt := of_decide_eq_true hc0; simp only [Int.ofNat_lt] at hlt
    have hh : (i + j) / 2 < ks.length := by omega
    obtain ⟨y, hy⟩ : ∃ y, ks[(i + j) / 2]? = some y := ⟨_, List.getElem?_eq_getElem hh⟩
    obtain ⟨b, o, ea⟩ := hs.base (by intro e; simp at e; subst e; simp at hh); subst ea
    refine W_skip ?_
    refine W_block ?_   -- block 1
    refine W_seq ?_
    refine W_region ?_
    refine wl_val (rn_move (by conv => lhs; whnf)) ?_
    refine wl_val (rn_move (by conv => lhs; whnf)) ?_
    refine wl_val (rn_add rfl rfl (by omega)) ?_
    refine wl_val (rn_convert ui_3 ui_183 rfl (wrap_u64 (by omega))) ?_
    refine wl_val (Rn.cast (rn_shr1 rfl rfl) (congrArg (Value.int .u64) (fdiv2 i j))) ?_
    refine wl_val (rn_convert ui_183 ui_3 rfl (wrap_id (by omega))) ?_
    refine wl_val (rn_assign (by conv => lhs; whnf)) ?_
    refine wl_nil ?_
    refine W_seq ?_
    refine W_region ?_
    refine wl_val (rn_move (by conv => lhs; whnf)) ?_
    refine wl_val (rn_move (by conv => lhs; whnf)) ?_
    refine wl_val (rn_indexAddr sl_22 rfl rfl (by omega)) ?_
    refine wl_val (rn_load p_9 rfl ((hs.ext hX (fun _ h => h)).at0 (eS_at hy) rfl)) ?_
    refine wl_val (rn_move (by conv => lhs; whnf)) ?_
    refine wl_call e_145 rfl (less_s A0 _ _) ?_; intro v27 w1 hE1 hR1
    replace hX := hX.tr hE1
    subst hR1
    refine wl_nil ?_
    refine W_cond rfl (fun hc1 => ?_) (fun hc1 => ?_)
    · refine W_region ?_
      refine wl_val (rn_move (by conv => lhs; whnf)) ?_
      refine wl_val (rn_add rfl rfl (by omega)) ?_
      refine wl_val (rn_assign (by conv => lhs; whnf)) ?_
      refine wl_nil ?_
      exact ⟨rfl, ((i + j) / 2 + 1, j), ⟨rfl, rfl, rfl, rfl, rfl, trivial⟩, ⟨hX, ⟨by omega, hjn, fun p z hp hz => by by_cases e : p = (i + j) / 2; (subst e; rw [hz] at hy; cases hy; exact hc1); exact (lo_str).tr _ _ _ (hord.get hz hy (by omega)) hc1, hhi⟩⟩, by show j - ((i + j) / 2 + 1) < j - i; omega⟩
    · refine W_region ?_
      refine wl_val (rn_move (by conv => lhs; whnf)) ?_
      refine wl_val (rn_assign (by conv => lhs; whnf)) ?_
      refine wl_nil ?_
      exact ⟨rfl, (i, (i + j) / 2), ⟨rfl, rfl, rfl, rfl, rfl, trivial⟩, ⟨hX, ⟨by omega, by omega, hlo, fun p z hp hz => by by_cases e : p = (i + j) / 2; (subst e; rw [hz] at hy; cases hy; exact hc1); (cases hzx : ltS z x with | false => rfl | true => have := (lo_str).tr _ _ _ (hord.get hy hz (by omega)) hzx; rw [this] at hc1; cases hc1)⟩⟩, by show (i + j) / 2 - i < j - i; omega⟩
  · have hge := of_decide_eq_false hc0; simp only [Int.ofNat_lt, Nat.not_lt] at hge
    have hej : i = j := by omega
    subst hej
    have hlb : lb ltS ks x = i := lb_of hjn hlo (fun y hy => hhi i y (Nat.le_refl _) hy)
    refine W_exit ?_   -- exit 0
    refine W_seq ?_
    refine W_region ?_
    refine wl_val (rn_move (by conv => lhs; whnf)) ?_
    refine wl_val (rn_move (by conv => lhs; whnf)) ?_
    refine wl_val (rn_move (by conv => lhs; whnf)) ?_
    refine wl_val (rn_lss rfl rfl) ?_
    refine wl_val (rn_move (by conv => lhs; whnf)) ?_
    refine wl_split (d := 35) rfl (fun hg35 => ?_) (fun hg35 => ?_)
    · have hlt := of_decide_eq_true hg35; simp only [Int.ofNat_lt] at hlt
      obtain ⟨y, hy⟩ : ∃ y, ks[i]? = some y := ⟨_, List.getElem?_eq_getElem hlt⟩
      obtain ⟨b, o, ea⟩ := hs.base (by intro e; simp at e; subst e; simp at hlt); subst ea
      refine wl_yes rfl (congrArg Value.bool hg35) ?_
      refine wl_val (rn_move (by conv => lhs; whnf)) ?_
      refine wl_yes rfl (congrArg Value.bool hg35) ?_
      refine wl_val (rn_move (by conv => lhs; whnf)) ?_
      refine wl_yes rfl (congrArg Value.bool hg35) ?_
      refine wl_val (rn_indexAddr sl_22 rfl rfl (by omega)) ?_
      refine wl_yes rfl (congrArg Value.bool hg35) ?_
      refine wl_val (rn_load p_9 rfl ((hs.ext hX (fun _ h => h)).at0 (eS_at hy) rfl)) ?_
      refine wl_yes rfl (congrArg Value.bool hg35) ?_
      refine wl_val (rn_move (by conv => lhs; whnf)) ?_
      refine wl_yes rfl (congrArg Value.bool hg35) ?_
      refine wl_val (rn_seql rfl rfl) ?_
      refine wl_yes rfl (congrArg Value.bool hg35) ?_
      refine wl_val (rn_move (by conv => lhs; whnf)) ?_
      refine wl_split (d := 42) rfl (fun hg42 => ?_) (fun hg42 => ?_)
      · refine wl_no rfl (congrArg Value.bool hg42) ?_
        refine wl_no rfl (congrArg Value.bool hg42) ?_
        refine wl_no rfl (congrArg Value.bool hg42) ?_
        refine wl_no rfl (congrArg Value.bool hg42) ?_
        refine wl_no rfl (congrArg Value.bool hg42) ?_
        refine wl_no rfl (congrArg Value.bool hg42) ?_
        refine wl_nou rfl rfl ?_
        refine wl_nou rfl rfl ?_
        refine wl_no rfl (congrArg Value.bool hg42) ?_
        refine wl_yes rfl (congrArg Value.bool hg35) ?_
        refine wl_val (rn_pickT (congrArg Value.bool hg42) (by conv => lhs; whnf)) ?_
        refine wl_val (rn_pickT (congrArg Value.bool hg35) (by conv => lhs; whnf)) ?_
        refine wl_val (rn_assign (by conv => lhs; whnf)) ?_
        refine wl_val (rn_assign (by conv => lhs; whnf)) ?_
        refine wl_nil ?_
        refine W_ret ?_
        have hxy := of_decide_eq_true hg42
        exact ⟨_, resR2 (res1_tmp rfl) (res1_tmp rfl), hX, by show Value.tuple #[.int .i64 (i : Nat), .bool true] = _; rw [hlb]; unfold isAt; rw [hlb, hy, hxy, decide_eq_true rfl]⟩
      · refine wl_yes rfl (congrArg Value.bool hg42) ?_
        refine wl_val (rn_move (by conv => lhs; whnf)) ?_
        refine wl_yes rfl (congrArg Value.bool hg42) ?_
        refine wl_val (rn_move (by conv => lhs; whnf)) ?_
        refine wl_yes rfl (congrArg Value.bool hg42) ?_
        refine wl_val (rn_indexAddr sl_22 rfl rfl (by omega)) ?_
        refine wl_yes rfl (congrArg Value.bool hg42) ?_
        refine wl_val (rn_load p_9 rfl ((hs.ext hX (fun _ h => h)).at0 (eS_at hy) rfl)) ?_
        refine wl_yes rfl (congrArg Value.bool hg42) ?_
        refine wl_call e_146 rfl (sNaN_s A0 _) ?_; intro v47 w2 hE2 hR2
        replace hX := hX.tr hE2
        subst hR2
        refine wl_yes rfl (congrArg Value.bool hg42) ?_
        refine wl_val (rn_move (by conv => lhs; whnf)) ?_
        refine wl_no rfl rfl ?_
        refine wl_no rfl rfl ?_
        refine wl_yes rfl (congrArg Value.bool hg42) ?_
        refine wl_val (rn_pickF rfl (by conv => lhs; whnf)) ?_
        refine wl_yes rfl (congrArg Value.bool hg35) ?_
        refine wl_val (rn_pickF (congrArg Value.bool hg42) (by conv => lhs; whnf)) ?_
        refine wl_val (rn_pickT (congrArg Value.bool hg35) (by conv => lhs; whnf)) ?_
        refine wl_val (rn_assign (by conv => lhs; whnf)) ?_
        refine wl_val (rn_assign (by conv => lhs; whnf)) ?_
        refine wl_nil ?_
        refine W_ret ?_
        have hxy := of_decide_eq_false hg42
        exact ⟨_, resR2 (res1_tmp rfl) (res1_tmp rfl), hX, by show Value.tuple #[.int .i64 (i : Nat), .bool false] = _; rw [hlb]; unfold isAt; rw [hlb, hy, decide_eq_false (fun e => hxy (Option.some.inj e))]⟩
    · refine wl_no rfl (congrArg Value.bool hg35) ?_
      refine wl_no rfl (congrArg Value.bool hg35) ?_
      refine wl_no rfl (congrArg Value.bool hg35) ?_
      refine wl_no rfl (congrArg Value.bool hg35) ?_
      refine wl_no rfl (congrArg Value.bool hg35) ?_
      refine wl_no rfl (congrArg Value.bool hg35) ?_
      refine wl_no rfl (congrArg Value.bool hg35) ?_
      refine wl_nou rfl rfl ?_
      refine wl_nou rfl rfl ?_
      refine wl_nou rfl rfl ?_
      refine wl_nou rfl rfl ?_
      refine wl_nou rfl rfl ?_
      refine wl_nou rfl rfl ?_
      refine wl_nou rfl rfl ?_
      refine wl_nou rfl rfl ?_
      refine wl_nou rfl rfl ?_
      refine wl_no rfl (congrArg Value.bool hg35) ?_
      refine wl_val (rn_pickF (congrArg Value.bool hg35) (by conv => lhs; whnf)) ?_
      refine wl_val (rn_assign (by conv => lhs; whnf)) ?_
      refine wl_val (rn_assign (by conv => lhs; whnf)) ?_
      refine wl_nil ?_
      refine W_ret ?_
      have hge2 := of_decide_eq_false hg35; simp only [Int.ofNat_lt, Nat.not_lt] at hge2
      exact ⟨_, resR2 (res1_tmp rfl) (res1_tmp rfl), hX, by show Value.tuple #[.int .i64 (i : Nat), .bool false] = _; rw [hlb]; unfold isAt; rw [hlb, List.getElem?_eq_none hge2, decide_eq_false (by simp)]⟩
end Go.Proofs.YtaddeakfojpdoaaGreatDoorC

/- The functions of a map with rising keys. -/
set_option linter.unusedVariables false
set_option linter.unusedSimpArgs false
set_option maxRecDepth 100000
namespace Go.Proofs.YtaddeakfojpdoaaGreatDoorC
open Go.RowKit
def eE1 (x : Str × Int) : List Value := [Sv x.1, .int .i64 x.2]
theorem eE_at {ks : List (Str × Int)} {i : Nat} {x : Str × Int} (h : ks[i]? = some x) : (ks.map eE1)[i]? = some [Sv x.1, .int .i64 x.2] := by simp [h, eE1]
theorem eE_one (ks : List (Str × Int)) : ∀ r ∈ ks.map eE1, ∀ u ∈ r, u.oneCell' = true := by
  intro r hr u hu; obtain ⟨x, _, rfl⟩ := List.mem_map.1 hr; simp only [eE1, List.mem_cons, List.not_mem_nil, or_false] at hu; rcases hu with rfl | rfl <;> rfl
-- (bellman/set.Map[int, struct{}]).Put
set_option maxHeartbeats 800000 in
theorem mput_iu (w : World) (ks : List Int) (vs : List (List Value)) {v1 v2 : Value} (x : Int) (hm : MapR Non w eI1 0 v1 v2 ks vs) (hord : Sorted ltI ks) (hn : ks.length ≤ 1000000) (hv1 : ∀ r ∈ vs, ∀ u ∈ r, u.oneCell' = true)  : Fn Tryz.prog 105 #[.agg #[v1, v2], .int .i64 x, .agg #[]] w fun u w' => ∃ u1 u2, u = .agg #[u1, u2] ∧ MapR (Old w) w' eI1 0 u1 u2 (putK ltI ks x) (putV ltI ks x vs []) := by
  obtain ⟨q1, n1, c1, rfl⟩ := hm.keys.shape; obtain ⟨q2, n2, c2, rfl⟩ := hm.vals.shape
  have hlb := lb_le (lt := ltI) ks x
  have hlen := hm.len
  have hX := Ext.refl Non w
  refine fn_of_W (args := [_, _, _]) Tryz.func105 rfl (by kernel_rfl) rfl ?_
  refine W_seq ?_
  refine W_region ?_
  refine wl_boxS rfl ?_; intro b3 w1 hb3 hE1 hB3
  have hq3 : w.heap.size ≤ b3 := Nat.le_trans hX.size hb3
  have hl3 : Mine Non w b3 := .inr hq3
  replace hX := hX.tr hE1
  refine wl_boxS rfl ?_; intro b5 w2 hb5 hE2 hB5
  have hn3_5 : b3 < b5 := Nat.lt_of_lt_of_le hB3.lt hb5
  have hq5 : w.heap.size ≤ b5 := Nat.le_trans hX.size hb5
  have hl5 : Mine Non w b5 := .inr hq5
  replace hX := hX.tr hE2
  replace hB3 := hB3.ext hE2 id
  refine wl_alloc z_96 ?_; intro b6 w3 hb6 hE3 hB6
  have hn3_6 : b3 < b6 := Nat.lt_of_lt_of_le hB3.lt hb6
  have hn5_6 : b5 < b6 := Nat.lt_of_lt_of_le hB5.lt hb6
  have hq6 : w.heap.size ≤ b6 := Nat.le_trans hX.size hb6
  have hl6 : Mine Non w b6 := .inr hq6
  replace hX := hX.tr hE3
  replace hB3 := hB3.ext hE3 id; replace hB5 := hB5.ext hE3 id
  refine wl_nil ?_
  refine W_seq ?_
  refine W_region ?_
  refine wl_val (rn_fieldAddr f_96_0 (by decide) rfl) ?_
  refine wl_val (rn_load1 p_23 rfl hB3 rfl) ?_
  refine wl_val (rn_move (by conv => lhs; whnf)) ?_
  refine wl_call e_87 rfl (bs_i w3 ks x (hm.keys.ext hX (fun _ h => h)) hord hn) ?_; intro v13 w4 hE4 hR4
  replace hX := hX.tr hE4
  replace hB3 := hB3.ext hE4 id; replace hB5 := hB5.ext hE4 id; replace hB6 := hB6.ext hE4 id
  subst hR4
  refine wl_val (rn_move (by conv => lhs; whnf)) ?_
  refine wl_val (rn_extract rfl rfl) ?_
  refine wl_val (rn_extract rfl rfl) ?_
  refine wl_val (rn_assign (by conv => lhs; whnf)) ?_
  refine wl_val (rn_assign (by conv => lhs; whnf)) ?_
  refine wl_nil ?_
  refine W_seq ?_
  refine W_drawF (fun i => i = b6) mixed ?_; intro w5 hE5
  replace hX := hX.tr hE5
  replace hB3 := hB3.ext hE5 id; replace hB5 := hB5.ext hE5 id; replace hB6 := hB6.ext hE5 id
  have hS := Ext.refl (fun i => i = b6) w5
  have hzd6 := hB6.lt
  refine wd_take 0 _ _ rfl (by kernel_rfl) hS (yd_do fun A hA => rn_fieldAddr f_96_0 (by decide) rfl) ?_
  refine wd_take 1 _ _ rfl (by kernel_rfl) hS (yd_do fun A hA => rn_load1 p_23 rfl (hB3.ext hA (fun e => by omega)) rfl) ?_
  refine wd_take 2 _ _ rfl (by kernel_rfl) hS (yd_do fun A hA => rn_move (by conv => lhs; whnf)) ?_
  refine wd_take 3 _ _ rfl (by kernel_rfl) hS (yd_do fun A hA => rn_move (by conv => lhs; whnf)) ?_
  refine wd_take 4 _ _ rfl (by kernel_rfl) hS (yd_do fun A hA => rn_move (by conv => lhs; whnf)) ?_
  refine wd_take 6 _ _ rfl (by kernel_rfl) hS (yd_do fun A hA => rn_fieldAddr f_96_1 (by decide) rfl) ?_
  refine wd_take 7 _ _ rfl (by kernel_rfl) hS (yd_do fun A hA => rn_load1 p_94 rfl (hB3.ext hA (fun e => by omega)) rfl) ?_
  refine wd_take 8 _ _ rfl (by kernel_rfl) hS (yd_do fun A hA => rn_move (by conv => lhs; whnf)) ?_
  refine wd_take 9 _ _ rfl (by kernel_rfl) hS (yd_do fun A hA => rn_move (by conv => lhs; whnf)) ?_
  refine wd_take 10 _ _ rfl (by kernel_rfl) hS (yd_do fun A hA => rn_loadB s_158 rfl rfl (hB5.ext hA (fun e => by omega))) ?_
  refine wd_only 5 _ rfl (by kernel_rfl) ?_
  refine s1_do ?_
  refine wl_call e_88 rfl (put_i w5 (lb ltI ks x) (isAt ltI ks x) (ks.map eI1) (hm.keys.ext (hX.mine hS (.inr hq6)) (fun _ h => h)) (by rw [List.length_map]; exact hlb) (fun h => by rw [List.length_map]; exact isAt_lt h) rfl rfl (eI_one ks) (by rw [List.length_map]; exact hn)) ?_; intro v21 w6 hE6 hR6
  replace hB6 := hB6.ext hE6 id
  replace hS := hS.tr hE6
  obtain ⟨p21, s21, hp21, hO21⟩ := hR6
  obtain ⟨a21, l21, c21, rfl⟩ := id hO21.shape
  have hz6 := hB6.lt; have hzs := hS.size; have hzx := hX.size
  refine wl_nil ⟨hS, ?_⟩
  refine wd_only 11 _ rfl (by kernel_rfl) ?_
  refine s1_do ?_
  refine wl_call e_143 rfl (put_u w6 (lb ltI ks x) (isAt ltI ks x) vs (hm.vals.ext (hX.mine hS (.inr hq6)) (fun _ h => h)) (by rw [hlen]; exact hlb) (fun h => by rw [hlen]; exact isAt_lt h) rfl hv1 (by rw [hlen]; exact hn)) ?_; intro v27 w7 hE7 hR7
  replace hB6 := hB6.ext hE7 id
  replace hS := hS.tr hE7
  replace hO21 := hO21.ext hE7 id
  obtain ⟨p27, s27, hp27, hO27⟩ := hR7
  obtain ⟨a27, l27, c27, rfl⟩ := id hO27.shape
  have hzs2 := hS.size
  refine wl_nil ⟨hS, ?_⟩
  refine wd_take 12 _ _ rfl (by kernel_rfl) hS (yd_do fun A hA => rn_build' b_96 rfl rfl (cs := [.slice a21 l21 c21, .slice a27 l27 c27]) rfl) ?_
  refine wd_only 13 _ rfl (by kernel_rfl) ?_
  refine s1_do ?_
  refine wl_storeB s_96 rfl rfl rfl (two1 rfl rfl) hB6 rfl ?_; intro w8 hE8 hB6 hz8
  replace hS := hS.mine hE8 (by first | exact .inl rfl | exact .inl (.inl rfl) | exact .inl (.inr rfl) | exact .inl (.inr (.inr rfl)))
  replace hO21 := hO21.ext hE8 (fun e => by omega)
  replace hO27 := hO27.ext hE8 (fun e => by omega)
  refine wl_nil ⟨hS, ?_⟩
  refine wd_done (by kernel_rfl) ?_ _
  replace hX := hX.mine hS (.inr hq6)
  refine W_ret ?_
  exact ⟨_, resR1 (res1_box s_96 rfl hB6 rfl), hX, ⟨_, _, rfl, ⟨by rw [← putK_map]; exact hO21.sl (fun h => by unfold Old at h; omega), hO27.sl (fun h => by unfold Old at h; omega), putV_len hm.len⟩⟩⟩
-- (bellman/set.Map[int, struct{}]).Len
theorem mlen_iu (w : World) (ks : List Int) (vs : List (List Value)) {v1 v2 : Value} (hm : MapR Non w eI1 0 v1 v2 ks vs) (hn : ks.length ≤ 1000000) : Fn Tryz.prog 144 #[.agg #[v1, v2]] w fun u w' => u = .int .i64 (ks.length : Nat) := by
  obtain ⟨q1, c1, rfl, _⟩ := hm.keys.len; obtain ⟨q2, n2, c2, rfl⟩ := hm.vals.shape
  have hkl : (ks.map eI1).length = ks.length := List.length_map _
  have hX := Ext.refl Non w
  refine fn_of_W (args := [_]) Tryz.func144 rfl (by kernel_rfl) rfl ?_
  refine W_seq ?_
  refine W_region ?_
  refine wl_boxS rfl ?_; intro b1 w1 hb1 hE1 hB1
  have hq1 : w.heap.size ≤ b1 := Nat.le_trans hX.size hb1
  have hl1 : Mine Non w b1 := .inr hq1
  replace hX := hX.tr hE1
  refine wl_val (rn_assign (by conv => lhs; whnf)) ?_
  refine wl_nil ?_
  refine W_seq ?_
  refine W_region ?_
  refine wl_val (rn_fieldAddr f_96_0 (by decide) rfl) ?_
  refine wl_val (rn_load1 p_23 rfl hB1 rfl) ?_
  refine wl_val (rn_len sl_23 rfl) ?_
  refine wl_val (rn_assign (by conv => lhs; whnf)) ?_
  refine wl_nil ?_
  refine W_ret ?_
  exact ⟨_, resR1 (res1_tmp rfl), hX, by show Value.int .i64 ((ks.map eI1).length : Nat) = _; rw [hkl]⟩
-- (bellman/set.Map[int, struct{}]).Get
theorem mget_iu (w : World) (ks : List Int) (vs : List (List Value)) {v1 v2 : Value} (x : Int) (hm : MapR Non w eI1 0 v1 v2 ks vs) (hord : Sorted ltI ks) (hn : ks.length ≤ 1000000) : Fn Tryz.prog 152 #[.agg #[v1, v2], .int .i64 x] w fun u w' => u = .tuple #[.agg #[], .bool (isAt ltI ks x)] := by
  obtain ⟨q1, n1, c1, rfl⟩ := hm.keys.shape; obtain ⟨q2, c2, rfl, _⟩ := hm.vals.len
  have hlb := lb_le (lt := ltI) ks x
  have hlen := hm.len
  have hX := Ext.refl Non w
  refine fn_of_W (args := [_, _]) Tryz.func152 rfl (by kernel_rfl) rfl ?_
  refine W_seq ?_
  refine W_region ?_
  refine wl_boxS rfl ?_; intro b2 w1 hb2 hE1 hB2
  have hq2 : w.heap.size ≤ b2 := Nat.le_trans hX.size hb2
  have hl2 : Mine Non w b2 := .inr hq2
  replace hX := hX.tr hE1
  refine wl_alloc z_158 ?_; intro b4 w2 hb4 hE2 hB4
  have hn2_4 : b2 < b4 := Nat.lt_of_lt_of_le hB2.lt hb4
  have hq4 : w.heap.size ≤ b4 := Nat.le_trans hX.size hb4
  have hl4 : Mine Non w b4 := .inr hq4
  replace hX := hX.tr hE2
  replace hB2 := hB2.ext hE2 id
  refine wl_val (rn_assign (by conv => lhs; whnf)) ?_
  refine wl_nil ?_
  refine W_seq ?_
  refine W_region ?_
  refine wl_val (rn_fieldAddr f_96_0 (by decide) rfl) ?_
  refine wl_val (rn_load1 p_23 rfl hB2 rfl) ?_
  refine wl_val (rn_move (by conv => lhs; whnf)) ?_
  refine wl_call e_87 rfl (bs_i w2 ks x (hm.keys.ext hX (fun _ h => h)) hord hn) ?_; intro v13 w3 hE3 hR3
  replace hX := hX.tr hE3
  replace hB2 := hB2.ext hE3 id; replace hB4 := hB4.ext hE3 id
  subst hR3
  refine wl_val (rn_move (by conv => lhs; whnf)) ?_
  refine wl_val (rn_extract rfl rfl) ?_
  refine wl_val (rn_extract rfl rfl) ?_
  refine wl_val (rn_assign (by conv => lhs; whnf)) ?_
  refine wl_val (rn_assign (by conv => lhs; whnf)) ?_
  refine wl_nil ?_
  refine W_seq ?_
  refine W_seq ?_
  refine W_region ?_
  refine wl_val (rn_move (by conv => lhs; whnf)) ?_
  refine wl_val (rn_not rfl) ?_
  refine wl_nil ?_
  refine W_cond rfl (fun hc0 => ?_) (fun hc0 => ?_)
  · have hat : isAt ltI ks x = false := by simpa using hc0
    refine W_seq ?_
    refine W_region ?_
    refine wl_alloc z_158 ?_; intro b8 w4 hb8 hE4 hB8
    have hn2_8 : b2 < b8 := Nat.lt_of_lt_of_le hB2.lt hb8
    have hn4_8 : b4 < b8 := Nat.lt_of_lt_of_le hB4.lt hb8
    have hq8 : w.heap.size ≤ b8 := Nat.le_trans hX.size hb8
    have hl8 : Mine Non w b8 := .inr hq8
    replace hX := hX.tr hE4
    replace hB2 := hB2.ext hE4 id; replace hB4 := hB4.ext hE4 id
    refine wl_nil ?_
    refine W_seq ?_
    refine W_region ?_
    refine wl_val (rn_loadB s_158 rfl rfl hB8) ?_
    refine wl_storeB s_158 rfl rfl rfl (by simp) hB4 rfl ?_; intro w5 hE5 hB4 hz5
    replace hX := hX.mine hE5 hl4
    replace hB2 := hB2.ext hE5 (fun h => by omega); replace hB8 := hB8.ext hE5 (fun h => by omega)
    refine wl_val (rn_assign (by conv => lhs; whnf)) ?_
    refine wl_nil ?_
    refine W_ret ?_
    exact ⟨_, resR2 (res1_box s_158 rfl hB4 rfl) (res1_tmp rfl), hX, by rw [hat]; rfl⟩
  · have hat : isAt ltI ks x = true := by simpa using hc0
    obtain ⟨b2v, o2v, ea⟩ := hm.vals.base (by intro e; have := congrArg List.length e; rw [hlen] at this; have h2 := isAt_lt hat; simp only [List.length_nil] at this; omega); subst ea
    refine W_skip ?_
    refine W_seq ?_
    refine W_region ?_
    refine wl_val (rn_fieldAddr f_96_1 (by decide) rfl) ?_
    refine wl_val (rn_load1 p_94 rfl hB2 rfl) ?_
    refine wl_val (rn_move (by conv => lhs; whnf)) ?_
    refine wl_val (rn_indexAddr sl_94 rfl rfl (by rw [hlen]; have := isAt_lt hat; omega)) ?_
    refine wl_val (rn_loadS s_158 (vs := []) rfl rfl (fun j hj => absurd hj (Nat.not_lt_zero _))) ?_
    refine wl_storeB s_158 rfl rfl rfl (by simp) hB4 rfl ?_; intro w6 hE6 hB4 hz6
    replace hX := hX.mine hE6 hl4
    replace hB2 := hB2.ext hE6 (fun h => by omega)
    refine wl_val (rn_assign (by conv => lhs; whnf)) ?_
    refine wl_nil ?_
    refine W_ret ?_
    exact ⟨_, resR2 (res1_box s_158 rfl hB4 rfl) (res1_tmp rfl), hX, by rw [hat]; rfl⟩
-- (bellman/set.Map[string, *bellman/node.Node]).Put
set_option maxHeartbeats 800000 in
theorem mput_sn (w : World) (ks : List Str) (vs : List (List Value)) {v1 v2 : Value} (x : Str) (hm : MapR Non w eS1 1 v1 v2 ks vs) (hord : Sorted ltS ks) (hn : ks.length ≤ 1000000) (hv1 : ∀ r ∈ vs, ∀ u ∈ r, u.oneCell' = true) (y : Value) (hy1 : y.oneCell' = true) (hyc : y.cells = #[y]) : Fn Tryz.prog 74 #[.agg #[v1, v2], Sv x, y] w fun u w' => ∃ u1 u2, u = .agg #[u1, u2] ∧ MapR (Old w) w' eS1 1 u1 u2 (putK ltS ks x) (putV ltS ks x vs [y]) := by
  obtain ⟨q1, n1, c1, rfl⟩ := hm.keys.shape; obtain ⟨q2, n2, c2, rfl⟩ := hm.vals.shape
  have hlb := lb_le (lt := ltS) ks x
  have hlen := hm.len
  have hX := Ext.refl Non w
  refine fn_of_W (args := [_, _, _]) Tryz.func74 rfl (by kernel_rfl) rfl ?_
  refine W_seq ?_
  refine W_region ?_
  refine wl_boxS rfl ?_; intro b3 w1 hb3 hE1 hB3
  have hq3 : w.heap.size ≤ b3 := Nat.le_trans hX.size hb3
  have hl3 : Mine Non w b3 := .inr hq3
  replace hX := hX.tr hE1
  refine wl_alloc z_134 ?_; intro b6 w2 hb6 hE2 hB6
  have hn3_6 : b3 < b6 := Nat.lt_of_lt_of_le hB3.lt hb6
  have hq6 : w.heap.size ≤ b6 := Nat.le_trans hX.size hb6
  have hl6 : Mine Non w b6 := .inr hq6
  replace hX := hX.tr hE2
  replace hB3 := hB3.ext hE2 id
  refine wl_nil ?_
  refine W_seq ?_
  refine W_region ?_
  refine wl_val (rn_fieldAddr f_134_0 (by decide) rfl) ?_
  refine wl_val (rn_load1 p_22 rfl hB3 rfl) ?_
  refine wl_val (rn_move (by conv => lhs; whnf)) ?_
  refine wl_call e_108 rfl (bs_s w2 ks x (hm.keys.ext hX (fun _ h => h)) hord hn) ?_; intro v13 w3 hE3 hR3
  replace hX := hX.tr hE3
  replace hB3 := hB3.ext hE3 id; replace hB6 := hB6.ext hE3 id
  subst hR3
  refine wl_val (rn_move (by conv => lhs; whnf)) ?_
  refine wl_val (rn_extract rfl rfl) ?_
  refine wl_val (rn_extract rfl rfl) ?_
  refine wl_val (rn_assign (by conv => lhs; whnf)) ?_
  refine wl_val (rn_assign (by conv => lhs; whnf)) ?_
  refine wl_nil ?_
  refine W_seq ?_
  refine W_drawF (fun i => i = b6) mixed ?_; intro w4 hE4
  replace hX := hX.tr hE4
  replace hB3 := hB3.ext hE4 id; replace hB6 := hB6.ext hE4 id
  have hS := Ext.refl (fun i => i = b6) w4
  have hzd6 := hB6.lt
  refine wd_take 0 _ _ rfl (by kernel_rfl) hS (yd_do fun A hA => rn_fieldAddr f_134_0 (by decide) rfl) ?_
  refine wd_take 1 _ _ rfl (by kernel_rfl) hS (yd_do fun A hA => rn_load1 p_22 rfl (hB3.ext hA (fun e => by omega)) rfl) ?_
  refine wd_take 2 _ _ rfl (by kernel_rfl) hS (yd_do fun A hA => rn_move (by conv => lhs; whnf)) ?_
  refine wd_take 3 _ _ rfl (by kernel_rfl) hS (yd_do fun A hA => rn_move (by conv => lhs; whnf)) ?_
  refine wd_take 4 _ _ rfl (by kernel_rfl) hS (yd_do fun A hA => rn_move (by conv => lhs; whnf)) ?_
  refine wd_take 6 _ _ rfl (by kernel_rfl) hS (yd_do fun A hA => rn_fieldAddr f_134_1 (by decide) rfl) ?_
  refine wd_take 7 _ _ rfl (by kernel_rfl) hS (yd_do fun A hA => rn_load1 p_132 rfl (hB3.ext hA (fun e => by omega)) rfl) ?_
  refine wd_take 8 _ _ rfl (by kernel_rfl) hS (yd_do fun A hA => rn_move (by conv => lhs; whnf)) ?_
  refine wd_take 9 _ _ rfl (by kernel_rfl) hS (yd_do fun A hA => rn_move (by conv => lhs; whnf)) ?_
  refine wd_take 10 _ _ rfl (by kernel_rfl) hS (yd_do fun A hA => rn_move (by conv => lhs; whnf)) ?_
  refine wd_only 5 _ rfl (by kernel_rfl) ?_
  refine s1_do ?_
  refine wl_call e_113 rfl (put_s w4 (lb ltS ks x) (isAt ltS ks x) (ks.map eS1) (hm.keys.ext (hX.mine hS (.inr hq6)) (fun _ h => h)) (by rw [List.length_map]; exact hlb) (fun h => by rw [List.length_map]; exact isAt_lt h) rfl rfl (eS_one ks) (by rw [List.length_map]; exact hn)) ?_; intro v21 w5 hE5 hR5
  replace hB6 := hB6.ext hE5 id
  replace hS := hS.tr hE5
  obtain ⟨p21, s21, hp21, hO21⟩ := hR5
  obtain ⟨a21, l21, c21, rfl⟩ := id hO21.shape
  have hz6 := hB6.lt; have hzs := hS.size; have hzx := hX.size
  refine wl_nil ⟨hS, ?_⟩
  refine wd_only 11 _ rfl (by kernel_rfl) ?_
  refine s1_do ?_
  refine wl_call e_114 rfl (put_n w5 (lb ltS ks x) (isAt ltS ks x) vs (hm.vals.ext (hX.mine hS (.inr hq6)) (fun _ h => h)) (by rw [hlen]; exact hlb) (fun h => by rw [hlen]; exact isAt_lt h) hy1 hyc hv1 (by rw [hlen]; exact hn)) ?_; intro v27 w6 hE6 hR6
  replace hB6 := hB6.ext hE6 id
  replace hS := hS.tr hE6
  replace hO21 := hO21.ext hE6 id
  obtain ⟨p27, s27, hp27, hO27⟩ := hR6
  obtain ⟨a27, l27, c27, rfl⟩ := id hO27.shape
  have hzs2 := hS.size
  refine wl_nil ⟨hS, ?_⟩
  refine wd_take 12 _ _ rfl (by kernel_rfl) hS (yd_do fun A hA => rn_build' b_134 rfl rfl (cs := [.slice a21 l21 c21, .slice a27 l27 c27]) rfl) ?_
  refine wd_only 13 _ rfl (by kernel_rfl) ?_
  refine s1_do ?_
  refine wl_storeB s_134 rfl rfl rfl (two1 rfl rfl) hB6 rfl ?_; intro w7 hE7 hB6 hz7
  replace hS := hS.mine hE7 (by first | exact .inl rfl | exact .inl (.inl rfl) | exact .inl (.inr rfl) | exact .inl (.inr (.inr rfl)))
  replace hO21 := hO21.ext hE7 (fun e => by omega)
  replace hO27 := hO27.ext hE7 (fun e => by omega)
  refine wl_nil ⟨hS, ?_⟩
  refine wd_done (by kernel_rfl) ?_ _
  replace hX := hX.mine hS (.inr hq6)
  refine W_ret ?_
  exact ⟨_, resR1 (res1_box s_134 rfl hB6 rfl), hX, ⟨_, _, rfl, ⟨by rw [← putK_map]; exact hO21.sl (fun h => by unfold Old at h; omega), hO27.sl (fun h => by unfold Old at h; omega), putV_len hm.len⟩⟩⟩
-- (bellman/set.Map[string, *bellman/node.Node]).Len
theorem mlen_sn (w : World) (ks : List Str) (vs : List (List Value)) {v1 v2 : Value} (hm : MapR Non w eS1 1 v1 v2 ks vs) (hn : ks.length ≤ 1000000) : Fn Tryz.prog 107 #[.agg #[v1, v2]] w fun u w' => u = .int .i64 (ks.length : Nat) := by
  obtain ⟨q1, c1, rfl, _⟩ := hm.keys.len; obtain ⟨q2, n2, c2, rfl⟩ := hm.vals.shape
  have hkl : (ks.map eS1).length = ks.length := List.length_map _
  have hX := Ext.refl Non w
  refine fn_of_W (args := [_]) Tryz.func107 rfl (by kernel_rfl) rfl ?_
  refine W_seq ?_
  refine W_region ?_
  refine wl_boxS rfl ?_; intro b1 w1 hb1 hE1 hB1
  have hq1 : w.heap.size ≤ b1 := Nat.le_trans hX.size hb1
  have hl1 : Mine Non w b1 := .inr hq1
  replace hX := hX.tr hE1
  refine wl_val (rn_assign (by conv => lhs; whnf)) ?_
  refine wl_nil ?_
  refine W_seq ?_
  refine W_region ?_
  refine wl_val (rn_fieldAddr f_134_0 (by decide) rfl) ?_
  refine wl_val (rn_load1 p_22 rfl hB1 rfl) ?_
  refine wl_val (rn_len sl_22 rfl) ?_
  refine wl_val (rn_assign (by conv => lhs; whnf)) ?_
  refine wl_nil ?_
  refine W_ret ?_
  exact ⟨_, resR1 (res1_tmp rfl), hX, by show Value.int .i64 ((ks.map eS1).length : Nat) = _; rw [hkl]⟩
-- (bellman/set.Map[string, *bellman/node.Node]).Get
theorem mget_sn (w : World) (ks : List Str) (vs : List (List Value)) {v1 v2 : Value} (x : Str) (hm : MapR Non w eS1 1 v1 v2 ks vs) (hord : Sorted ltS ks) (hn : ks.length ≤ 1000000) : Fn Tryz.prog 75 #[.agg #[v1, v2], Sv x] w fun u w' => ∃ z : Value, u = .tuple #[z, .bool (isAt ltS ks x)] ∧ (isAt ltS ks x = true → vs[lb ltS ks x]? = some [z]) ∧ (isAt ltS ks x = false → z = .pointer none) := by
  obtain ⟨q1, n1, c1, rfl⟩ := hm.keys.shape; obtain ⟨q2, c2, rfl, _⟩ := hm.vals.len
  have hlb := lb_le (lt := ltS) ks x
  have hlen := hm.len
  have hX := Ext.refl Non w
  refine fn_of_W (args := [_, _]) Tryz.func75 rfl (by kernel_rfl) rfl ?_
  refine W_seq ?_
  refine W_region ?_
  refine wl_boxS rfl ?_; intro b2 w1 hb2 hE1 hB2
  have hq2 : w.heap.size ≤ b2 := Nat.le_trans hX.size hb2
  have hl2 : Mine Non w b2 := .inr hq2
  replace hX := hX.tr hE1
  refine wl_val (rn_assign (by conv => lhs; whnf)) ?_
  refine wl_val (rn_assign (by conv => lhs; whnf)) ?_
  refine wl_nil ?_
  refine W_seq ?_
  refine W_region ?_
  refine wl_val (rn_fieldAddr f_134_0 (by decide) rfl) ?_
  refine wl_val (rn_load1 p_22 rfl hB2 rfl) ?_
  refine wl_val (rn_move (by conv => lhs; whnf)) ?_
  refine wl_call e_108 rfl (bs_s w1 ks x (hm.keys.ext hX (fun _ h => h)) hord hn) ?_; intro v13 w2 hE2 hR2
  replace hX := hX.tr hE2
  replace hB2 := hB2.ext hE2 id
  subst hR2
  refine wl_val (rn_move (by conv => lhs; whnf)) ?_
  refine wl_val (rn_extract rfl rfl) ?_
  refine wl_val (rn_extract rfl rfl) ?_
  refine wl_val (rn_assign (by conv => lhs; whnf)) ?_
  refine wl_val (rn_assign (by conv => lhs; whnf)) ?_
  refine wl_nil ?_
  refine W_seq ?_
  refine W_seq ?_
  refine W_region ?_
  refine wl_val (rn_move (by conv => lhs; whnf)) ?_
  refine wl_val (rn_not rfl) ?_
  refine wl_nil ?_
  refine W_cond rfl (fun hc0 => ?_) (fun hc0 => ?_)
  · have hat : isAt ltS ks x = false := by simpa using hc0
    refine W_seq ?_
    refine W_region ?_
    refine wl_val (rn_assign (by conv => lhs; whnf)) ?_
    refine wl_nil ?_
    refine W_seq ?_
    refine W_region ?_
    refine wl_val (rn_move (by conv => lhs; whnf)) ?_
    refine wl_val (rn_assign (by conv => lhs; whnf)) ?_
    refine wl_val (rn_assign (by conv => lhs; whnf)) ?_
    refine wl_nil ?_
    refine W_ret ?_
    exact ⟨_, resR2 (res1_tmp rfl) (res1_tmp rfl), hX, ⟨_, by rw [hat]; rfl, fun h => by rw [hat] at h; (cases h), fun _ => rfl⟩⟩
  · have hat : isAt ltS ks x = true := by simpa using hc0
    obtain ⟨r, hr⟩ : ∃ r, vs[lb ltS ks x]? = some r := ⟨_, List.getElem?_eq_getElem (by rw [hlen]; exact isAt_lt hat)⟩
    obtain ⟨z, rfl⟩ : ∃ z, r = [z] := by have := hm.vals.each r (List.mem_of_getElem? hr); match r, this with | [z], _ => exact ⟨z, rfl⟩
    obtain ⟨b2v, o2v, ea⟩ := hm.vals.base (by intro e; have := congrArg List.length e; rw [hlen] at this; have h2 := isAt_lt hat; simp only [List.length_nil] at this; omega); subst ea
    refine W_skip ?_
    refine W_seq ?_
    refine W_region ?_
    refine wl_val (rn_fieldAddr f_134_1 (by decide) rfl) ?_
    refine wl_val (rn_load1 p_132 rfl hB2 rfl) ?_
    refine wl_val (rn_move (by conv => lhs; whnf)) ?_
    refine wl_val (rn_indexAddr sl_132 rfl rfl (by rw [hlen]; have := isAt_lt hat; omega)) ?_
    refine wl_val (rn_load p_26 rfl ((hm.vals.ext hX (fun _ h => h)).at0 hr rfl)) ?_
    refine wl_val (rn_assign (by conv => lhs; whnf)) ?_
    refine wl_val (rn_assign (by conv => lhs; whnf)) ?_
    refine wl_nil ?_
    refine W_ret ?_
    exact ⟨_, resR2 (res1_tmp rfl) (res1_tmp rfl), hX, ⟨z, by rw [hat]; rfl, fun _ => hr, fun h => by rw [hat] at h; (cases h)⟩⟩
-- (bellman/set.Map[string, bellman/keep.entry]).Put
set_option maxHeartbeats 800000 in
theorem mput_se (w : World) (ks : List Str) (vs : List (List Value)) {v1 v2 : Value} (x : Str) (hm : MapR Non w eS1 2 v1 v2 ks vs) (hord : Sorted ltS ks) (hn : ks.length ≤ 1000000) (hv1 : ∀ r ∈ vs, ∀ u ∈ r, u.oneCell' = true) (p q : Value) (hp1 : p.oneCell' = true) (hq1 : q.oneCell' = true) : Fn Tryz.prog 94 #[.agg #[v1, v2], Sv x, .agg #[p, q]] w fun u w' => ∃ u1 u2, u = .agg #[u1, u2] ∧ MapR (Old w) w' eS1 2 u1 u2 (putK ltS ks x) (putV ltS ks x vs [p, q]) := by
  obtain ⟨q1, n1, c1, rfl⟩ := hm.keys.shape; obtain ⟨q2, n2, c2, rfl⟩ := hm.vals.shape
  have hlb := lb_le (lt := ltS) ks x
  have hlen := hm.len
  have hX := Ext.refl Non w
  refine fn_of_W (args := [_, _, _]) Tryz.func94 rfl (by kernel_rfl) rfl ?_
  refine W_seq ?_
  refine W_region ?_
  refine wl_boxS rfl ?_; intro b3 w1 hb3 hE1 hB3
  have hq3 : w.heap.size ≤ b3 := Nat.le_trans hX.size hb3
  have hl3 : Mine Non w b3 := .inr hq3
  replace hX := hX.tr hE1
  refine wl_boxS rfl ?_; intro b5 w2 hb5 hE2 hB5
  have hn3_5 : b3 < b5 := Nat.lt_of_lt_of_le hB3.lt hb5
  have hq5 : w.heap.size ≤ b5 := Nat.le_trans hX.size hb5
  have hl5 : Mine Non w b5 := .inr hq5
  replace hX := hX.tr hE2
  replace hB3 := hB3.ext hE2 id
  refine wl_alloc z_55 ?_; intro b6 w3 hb6 hE3 hB6
  have hn3_6 : b3 < b6 := Nat.lt_of_lt_of_le hB3.lt hb6
  have hn5_6 : b5 < b6 := Nat.lt_of_lt_of_le hB5.lt hb6
  have hq6 : w.heap.size ≤ b6 := Nat.le_trans hX.size hb6
  have hl6 : Mine Non w b6 := .inr hq6
  replace hX := hX.tr hE3
  replace hB3 := hB3.ext hE3 id; replace hB5 := hB5.ext hE3 id
  refine wl_nil ?_
  refine W_seq ?_
  refine W_region ?_
  refine wl_val (rn_fieldAddr f_55_0 (by decide) rfl) ?_
  refine wl_val (rn_load1 p_22 rfl hB3 rfl) ?_
  refine wl_val (rn_move (by conv => lhs; whnf)) ?_
  refine wl_call e_108 rfl (bs_s w3 ks x (hm.keys.ext hX (fun _ h => h)) hord hn) ?_; intro v13 w4 hE4 hR4
  replace hX := hX.tr hE4
  replace hB3 := hB3.ext hE4 id; replace hB5 := hB5.ext hE4 id; replace hB6 := hB6.ext hE4 id
  subst hR4
  refine wl_val (rn_move (by conv => lhs; whnf)) ?_
  refine wl_val (rn_extract rfl rfl) ?_
  refine wl_val (rn_extract rfl rfl) ?_
  refine wl_val (rn_assign (by conv => lhs; whnf)) ?_
  refine wl_val (rn_assign (by conv => lhs; whnf)) ?_
  refine wl_nil ?_
  refine W_seq ?_
  refine W_drawF (fun i => i = b6) mixed ?_; intro w5 hE5
  replace hX := hX.tr hE5
  replace hB3 := hB3.ext hE5 id; replace hB5 := hB5.ext hE5 id; replace hB6 := hB6.ext hE5 id
  have hS := Ext.refl (fun i => i = b6) w5
  have hzd6 := hB6.lt
  refine wd_take 0 _ _ rfl (by kernel_rfl) hS (yd_do fun A hA => rn_fieldAddr f_55_0 (by decide) rfl) ?_
  refine wd_take 1 _ _ rfl (by kernel_rfl) hS (yd_do fun A hA => rn_load1 p_22 rfl (hB3.ext hA (fun e => by omega)) rfl) ?_
  refine wd_take 2 _ _ rfl (by kernel_rfl) hS (yd_do fun A hA => rn_move (by conv => lhs; whnf)) ?_
  refine wd_take 3 _ _ rfl (by kernel_rfl) hS (yd_do fun A hA => rn_move (by conv => lhs; whnf)) ?_
  refine wd_take 4 _ _ rfl (by kernel_rfl) hS (yd_do fun A hA => rn_move (by conv => lhs; whnf)) ?_
  refine wd_take 6 _ _ rfl (by kernel_rfl) hS (yd_do fun A hA => rn_fieldAddr f_55_1 (by decide) rfl) ?_
  refine wd_take 7 _ _ rfl (by kernel_rfl) hS (yd_do fun A hA => rn_load1 p_53 rfl (hB3.ext hA (fun e => by omega)) rfl) ?_
  refine wd_take 8 _ _ rfl (by kernel_rfl) hS (yd_do fun A hA => rn_move (by conv => lhs; whnf)) ?_
  refine wd_take 9 _ _ rfl (by kernel_rfl) hS (yd_do fun A hA => rn_move (by conv => lhs; whnf)) ?_
  refine wd_take 10 _ _ rfl (by kernel_rfl) hS (yd_do fun A hA => rn_loadB s_161 rfl rfl (hB5.ext hA (fun e => by omega))) ?_
  refine wd_only 5 _ rfl (by kernel_rfl) ?_
  refine s1_do ?_
  refine wl_call e_113 rfl (put_s w5 (lb ltS ks x) (isAt ltS ks x) (ks.map eS1) (hm.keys.ext (hX.mine hS (.inr hq6)) (fun _ h => h)) (by rw [List.length_map]; exact hlb) (fun h => by rw [List.length_map]; exact isAt_lt h) rfl rfl (eS_one ks) (by rw [List.length_map]; exact hn)) ?_; intro v21 w6 hE6 hR6
  replace hB6 := hB6.ext hE6 id
  replace hS := hS.tr hE6
  obtain ⟨p21, s21, hp21, hO21⟩ := hR6
  obtain ⟨a21, l21, c21, rfl⟩ := id hO21.shape
  have hz6 := hB6.lt; have hzs := hS.size; have hzx := hX.size
  refine wl_nil ⟨hS, ?_⟩
  refine wd_only 11 _ rfl (by kernel_rfl) ?_
  refine s1_do ?_
  refine wl_call e_133 rfl (put_e w6 (lb ltS ks x) (isAt ltS ks x) vs (hm.vals.ext (hX.mine hS (.inr hq6)) (fun _ h => h)) (by rw [hlen]; exact hlb) (fun h => by rw [hlen]; exact isAt_lt h) hp1 hq1 hv1 (by rw [hlen]; exact hn)) ?_; intro v27 w7 hE7 hR7
  replace hB6 := hB6.ext hE7 id
  replace hS := hS.tr hE7
  replace hO21 := hO21.ext hE7 id
  obtain ⟨p27, s27, hp27, hO27⟩ := hR7
  obtain ⟨a27, l27, c27, rfl⟩ := id hO27.shape
  have hzs2 := hS.size
  refine wl_nil ⟨hS, ?_⟩
  refine wd_take 12 _ _ rfl (by kernel_rfl) hS (yd_do fun A hA => rn_build' b_55 rfl rfl (cs := [.slice a21 l21 c21, .slice a27 l27 c27]) rfl) ?_
  refine wd_only 13 _ rfl (by kernel_rfl) ?_
  refine s1_do ?_
  refine wl_storeB s_55 rfl rfl rfl (two1 rfl rfl) hB6 rfl ?_; intro w8 hE8 hB6 hz8
  replace hS := hS.mine hE8 (by first | exact .inl rfl | exact .inl (.inl rfl) | exact .inl (.inr rfl) | exact .inl (.inr (.inr rfl)))
  replace hO21 := hO21.ext hE8 (fun e => by omega)
  replace hO27 := hO27.ext hE8 (fun e => by omega)
  refine wl_nil ⟨hS, ?_⟩
  refine wd_done (by kernel_rfl) ?_ _
  replace hX := hX.mine hS (.inr hq6)
  refine W_ret ?_
  exact ⟨_, resR1 (res1_box s_55 rfl hB6 rfl), hX, ⟨_, _, rfl, ⟨by rw [← putK_map]; exact hO21.sl (fun h => by unfold Old at h; omega), hO27.sl (fun h => by unfold Old at h; omega), putV_len hm.len⟩⟩⟩
end Go.Proofs.YtaddeakfojpdoaaGreatDoorC
