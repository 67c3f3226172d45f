/- Tries: the document's list of pairs; plain. -/
import Derived.Test.YtaddeakfojpdoaaGreatDoorBunP10
import Derived.Test.YtaddeakfojpdoaaGreatDoorBunP5
import Derived.Test.YtaddeakfojpdoaaGreatDoorBunP3
import Derived.Test.YtaddeakfojpdoaaGreatDoorBunP6
set_option linter.unusedVariables false
set_option linter.unusedSimpArgs false
namespace Go.Proofs.YtaddeakfojpdoaaGreatDoorC
open Go.RowKit
/-- Pairs in their order. -/
def ltT (a b : Str × Int) : Bool := ltQ (spl 47 a.1, a.2) (spl 47 b.1, b.2)
theorem lo_T : Lo ltT := by
  refine ⟨fun a => lo_Q.irr _, fun a b c h k => lo_Q.tr _ _ _ h k, fun a b h k => ?_⟩
  have e := lo_Q.tri _ _ h k
  simp only [Prod.mk.injEq] at e
  exact Prod.ext (by rw [← join_spl 47 a.1, e.1, join_spl]) e.2
/-- The document's list. -/
def docOf (xs : List (Str × Int)) : List (Str × Int) := xs.foldl (fun l q => if q.1 = [] then l else putK ltT l q) []
theorem docOf_snoc (xs : List (Str × Int)) (x : Str × Int) : docOf (xs ++ [x]) = if x.1 = [] then docOf xs else putK ltT (docOf xs) x := by simp [docOf]
theorem docOf_sorted : ∀ xs : List (Str × Int), Sorted ltT (docOf xs) := by
  refine snoc_ind List.Pairwise.nil ?_
  intro xs x ih
  rw [docOf_snoc]; split
  · exact ih
  · exact putK_sorted lo_T ih _
theorem docOf_len : ∀ xs : List (Str × Int), (docOf xs).length ≤ xs.length := by
  refine snoc_ind (Nat.le_refl _) ?_
  intro xs x ih
  rw [docOf_snoc, List.length_append, List.length_singleton]; split
  · omega
  · exact Nat.le_trans (putK_len _ _) (by omega)
theorem docOf_mem (q : Str × Int) : ∀ xs : List (Str × Int), q ∈ docOf xs ↔ q ∈ xs ∧ q.1 ≠ [] := by
  refine snoc_ind ?_ ?_
  · simp [docOf]
  · intro xs x ih
    rw [docOf_snoc]
    by_cases hx : x.1 = []
    · rw [if_pos hx, ih]
      constructor
      · rintro ⟨h1, h2⟩; exact ⟨by simp [h1], h2⟩
      · rintro ⟨h1, h2⟩
        rcases List.mem_append.1 h1 with h1 | h1
        · exact ⟨h1, h2⟩
        · simp only [List.mem_singleton] at h1; subst h1; exact absurd hx h2
    · rw [if_neg hx, putK_mem lo_T (docOf_sorted xs), ih]
      constructor
      · rintro (rfl | ⟨h1, h2⟩)
        · exact ⟨by simp, hx⟩
        · exact ⟨by simp [h1], h2⟩
      · rintro ⟨h1, h2⟩
        rcases List.mem_append.1 h1 with h1 | h1
        · exact .inr ⟨h1, h2⟩
        · simp only [List.mem_singleton] at h1; exact .inl h1
theorem tsOf_sorted (xs : List (Str × Int)) : Sorted ltT (tsOf xs) := by
  have h := qsOf_sorted xs
  unfold tsOf Sorted
  rw [List.pairwise_map]
  unfold Sorted at h
  refine List.Pairwise.imp_of_mem ?_ h
  intro a b ha hb hab
  obtain ⟨p, s⟩ := a; obtain ⟨q, r⟩ := b
  obtain ⟨x, _, _, rfl, rfl⟩ := (qsOf_mem p s xs).1 ha
  obtain ⟨y, _, _, rfl, rfl⟩ := (qsOf_mem q r xs).1 hb
  simp only [ltT, join_spl]; exact hab
/-- The document's list is what the tree tells. -/
theorem docOf_ts (xs : List (Str × Int)) : docOf xs = tsOf xs := sorted_ext lo_T _ _ (docOf_sorted xs) (tsOf_sorted xs) fun q => by rw [docOf_mem, tsOf_mem]
/-! ### how the document compares -/
theorem ltP_at : ∀ (i : Nat) (F G : List Str), F.take i = G.take i → ∀ {x y : Str}, F[i]? = some x → G[i]? = some y → x ≠ y → ltP F G = ltS x y
  | 0, F, G, _, x, y, h1, h2, hne => by
    cases F with
    | nil => simp at h1
    | cons a F =>
      cases G with
      | nil => simp at h2
      | cons b G => simp at h1 h2; subst h1; subst h2; simp [ltP, hne]
  | i + 1, F, G, ht, x, y, h1, h2, hne => by
    cases F with
    | nil => simp at h1
    | cons a F =>
      cases G with
      | nil => simp at h2
      | cons b G =>
        simp only [List.take_succ_cons, List.cons.injEq] at ht
        obtain ⟨rfl, ht⟩ := ht
        simp only [List.getElem?_cons_succ] at h1 h2
        simp only [ltP, lo_str.irr, Bool.false_or, decide_true, Bool.true_and]
        exact ltP_at i F G ht h1 h2 hne
theorem ltP_end : ∀ (F G : List Str), (∃ i : Nat, F.take i = G.take i ∧ (i = F.length ∨ i = G.length) ∧ i ≤ F.length ∧ i ≤ G.length) → ltP F G = decide (F.length < G.length)
  | [], [], _ => by simp [ltP]
  | [], b :: G, _ => by simp [ltP]
  | a :: F, [], _ => by simp [ltP]
  | a :: F, b :: G, ⟨i, ht, he, h1, h2⟩ => by
    cases i with
    | zero => simp at he
    | succ i =>
      simp only [List.take_succ_cons, List.cons.injEq] at ht
      obtain ⟨rfl, ht⟩ := ht
      simp only [ltP, lo_str.irr, Bool.false_or, decide_true, Bool.true_and, List.length_cons]
      rw [ltP_end F G ⟨i, ht, by simpa using he, by simpa using h1, by simpa using h2⟩]
      exact decide_eq_decide.2 (by omega)
theorem ltT_eq {a : Str} {x y : Int} : ltT (a, x) (a, y) = decide (x < y) := by simp [ltT, ltQ, lo_P.irr, ltI]
theorem ltT_ne {a b : Str} (h : a ≠ b) (x y : Int) : ltT (a, x) (b, y) = ltP (spl 47 a) (spl 47 b) := by
  have hs : spl 47 a ≠ spl 47 b := fun e => h (by rw [← join_spl 47 a, e, join_spl])
  simp [ltT, ltQ, hs]
theorem lb_step {κ : Type} {lt : κ → κ → Bool} {l : List κ} {x : κ} {j : Nat} (h : ∀ p y, p < j → l[p]? = some y → lt y x = true) (hj : j ≤ l.length) (he : ∀ y, l[j]? = some y → lt y x = false) : lb lt l x = j := lb_of hj h he
end Go.Proofs.YtaddeakfojpdoaaGreatDoorC

/- A key's going out of a map; a map's keys with their values, one by one; the document's maps. -/
set_option linter.unusedVariables false
set_option linter.unusedSimpArgs false
set_option maxRecDepth 100000
namespace Go.Proofs.YtaddeakfojpdoaaGreatDoorC
open Go.RowKit
theorem u8_ltd (c d : UInt8) : decide ((c.toNat : Int) < (d.toNat : Int)) = decide (c < d) := decide_eq_decide.2 (by rw [UInt8.lt_iff_toNat_lt]; omega)
theorem u8_eq2 {c d : UInt8} (h : (c.toNat : Int) = (d.toNat : Int)) : c = d := UInt8.toNat_inj.1 (by omega)
-- bellman/bellmanref03.Less
set_option maxHeartbeats 800000 in
theorem rless_ok (w : World) (a b : Str) (hna : a.length ≤ 1000000) (hnb : b.length ≤ 1000000) : Fn Tryz.prog 48 #[Sv a, Sv b] w fun u w' => u = .bool (ltS a b) := by
  have hX := Ext.refl Non w
  refine fn_of_W (args := [_, _]) Tryz.func48 rfl (by kernel_rfl) rfl ?_
  refine W_seq ?_
  refine W_region ?_
  refine wl_val (rn_assign (by conv => lhs; whnf)) ?_
  refine wl_nil ?_
  refine W_seq ?_
  refine W_seq ?_
  refine W_region ?_
  refine wl_val (rn_assign (by conv => lhs; whnf)) ?_
  refine wl_nil ?_
  refine W_block ?_   -- block 0
  refine W_loopS (S := Nat) [0, 1, 5] (fun i => [Sv a, Sv b, .int .i64 (i : Nat)]) (fun i A => (Ext Non w A) ∧ (i ≤ a.length ∧ i ≤ b.length ∧ a.take i = b.take i)) (fun i => a.length - i) 0 ⟨rfl, rfl, rfl, trivial⟩ ⟨hX, ⟨Nat.zero_le _, Nat.zero_le _, rfl⟩⟩ ?_
  rintro τ0 i A0 ⟨hX, hI0⟩
  obtain ⟨hia, hib, htk⟩ := hI0
  refine W_seq ?_
  refine W_seq ?_
  refine W_region ?_
  refine wl_val (rn_move (by conv => lhs; whnf)) ?_
  refine wl_val (rn_move (by conv => lhs; whnf)) ?_
  refine wl_val (rn_slen us_9 rfl) ?_
  refine wl_val (rn_lss rfl rfl) ?_
  refine wl_val (rn_move (by conv => lhs; whnf)) ?_
  refine wl_split (d := 10) rfl (fun hg10 => ?_) (fun hg10 => ?_)
  · have hlt := of_decide_eq_true hg10; simp only [Int.ofNat_lt] at hlt
    obtain ⟨x, hi⟩ : ∃ x, (a)[i]? = some x := ⟨_, List.getElem?_eq_getElem hlt⟩
    refine wl_yes rfl (congrArg Value.bool hg10) ?_
    refine wl_val (rn_move (by conv => lhs; whnf)) ?_
    refine wl_yes rfl (congrArg Value.bool hg10) ?_
    refine wl_val (rn_move (by conv => lhs; whnf)) ?_
    refine wl_yes rfl (congrArg Value.bool hg10) ?_
    refine wl_val (rn_slen us_9 rfl) ?_
    refine wl_yes rfl (congrArg Value.bool hg10) ?_
    refine wl_val (rn_lss rfl rfl) ?_
    refine wl_val (rn_pickT (congrArg Value.bool hg10) (by conv => lhs; whnf)) ?_
    refine wl_nil ?_
    refine W_cond rfl (fun hc0 => ?_) (fun hc0 => ?_)
    · have hlt2 := of_decide_eq_true hc0; simp only [Int.ofNat_lt] at hlt2
      obtain ⟨y, hj⟩ : ∃ y, (b)[i]? = some y := ⟨_, List.getElem?_eq_getElem hlt2⟩
      refine W_skip ?_
      refine W_seq ?_
      refine W_block ?_   -- block 1
      refine W_seq ?_
      refine W_drawE mixed ?_; intro w1 hE1
      replace hX := hX.tr hE1
      have hS := Ext.refl Non w1
      refine wd_take 0 _ _ rfl (by kernel_rfl) hS (yd_do fun A hA => rn_move (by conv => lhs; whnf)) ?_
      refine wd_take 1 _ _ rfl (by kernel_rfl) hS (yd_do fun A hA => rn_move (by conv => lhs; whnf)) ?_
      refine wd_take 2 _ _ rfl (by kernel_rfl) hS (yd_do fun A hA => rn_sindex us_9 rfl rfl (by omega) hi) ?_
      refine wd_take 3 _ _ rfl (by kernel_rfl) hS (yd_do fun A hA => rn_move (by conv => lhs; whnf)) ?_
      refine wd_take 4 _ _ rfl (by kernel_rfl) hS (yd_do fun A hA => rn_move (by conv => lhs; whnf)) ?_
      refine wd_take 5 _ _ rfl (by kernel_rfl) hS (yd_do fun A hA => rn_sindex us_9 rfl rfl (by omega) hj) ?_
      refine wd_take 6 _ _ rfl (by kernel_rfl) hS (yd_do fun A hA => rn_neq rfl rfl) ?_
      refine wd_done (by kernel_rfl) ?_ _
      replace hX := hX.tr hS
      refine W_cond rfl (fun hc1 => ?_) (fun hc1 => ?_)
      · have hne : x ≠ y := fun e => by have := of_decide_eq_true hc1; rw [e] at this; exact this rfl
        refine W_seq ?_
        refine W_drawE mixed ?_; intro w2 hE2
        replace hX := hX.tr hE2
        have hS := Ext.refl Non w2
        refine wd_take 0 _ _ rfl (by kernel_rfl) hS (yd_do fun A hA => rn_move (by conv => lhs; whnf)) ?_
        refine wd_take 1 _ _ rfl (by kernel_rfl) hS (yd_do fun A hA => rn_move (by conv => lhs; whnf)) ?_
        refine wd_take 2 _ _ rfl (by kernel_rfl) hS (yd_do fun A hA => rn_sindex us_9 rfl rfl (by omega) hi) ?_
        refine wd_take 3 _ _ rfl (by kernel_rfl) hS (yd_do fun A hA => rn_move (by conv => lhs; whnf)) ?_
        refine wd_take 4 _ _ rfl (by kernel_rfl) hS (yd_do fun A hA => rn_move (by conv => lhs; whnf)) ?_
        refine wd_take 5 _ _ rfl (by kernel_rfl) hS (yd_do fun A hA => rn_sindex us_9 rfl rfl (by omega) hj) ?_
        refine wd_take 6 _ _ rfl (by kernel_rfl) hS (yd_do fun A hA => rn_lss rfl rfl) ?_
        refine wd_take 7 _ _ rfl (by kernel_rfl) hS (yd_do fun A hA => rn_assign (by conv => lhs; whnf)) ?_
        refine wd_done (by kernel_rfl) ?_ _
        replace hX := hX.tr hS
        refine W_ret ?_
        first | exact ⟨_, resR1 (res1_tmp rfl), hX, (by rw [less_at i a b htk hi hj hne, ← u8_ltd]; rfl)⟩ | exact ⟨_, resR1 (res1_tmp rfl), hX, (by rw [hend]; exact congrArg Value.bool (decide_eq_decide.2 (by omega)))⟩
      · have hxy : x = y := u8_eq2 (by simpa using of_decide_eq_false hc1)
        refine W_skip ?_
        refine W_region ?_
        refine wl_val (rn_move (by conv => lhs; whnf)) ?_
        refine wl_val (rn_add rfl rfl (by omega)) ?_
        refine wl_val (rn_assign (by conv => lhs; whnf)) ?_
        refine wl_nil ?_
        exact ⟨rfl, i + 1, ⟨rfl, rfl, rfl, trivial⟩, ⟨hX, ⟨hlt, hlt2, by rw [List.take_add_one, List.take_add_one, htk, hi, hj, hxy]⟩⟩, by omega⟩
    · have hend : ltS a b = decide (a.length < b.length) := by first | assumption | exact less_end a b ⟨i, htk, .inr (by have := of_decide_eq_false hc0; omega), hia, hib⟩
      refine W_exit ?_   -- exit 0
      refine W_seq ?_
      refine W_region ?_
      refine wl_val (rn_move (by conv => lhs; whnf)) ?_
      refine wl_val (rn_slen us_9 rfl) ?_
      refine wl_val (rn_move (by conv => lhs; whnf)) ?_
      refine wl_val (rn_slen us_9 rfl) ?_
      refine wl_val (rn_lss rfl rfl) ?_
      refine wl_val (rn_assign (by conv => lhs; whnf)) ?_
      refine wl_nil ?_
      refine W_ret ?_
      first | exact ⟨_, resR1 (res1_tmp rfl), hX, (by rw [less_at i a b htk hi hj hne, ← u8_ltd]; rfl)⟩ | exact ⟨_, resR1 (res1_tmp rfl), hX, (by rw [hend]; exact congrArg Value.bool (decide_eq_decide.2 (by omega)))⟩
  · have hend : ltS a b = decide (a.length < b.length) := less_end a b ⟨i, htk, .inl (by have := of_decide_eq_false hg10; omega), hia, hib⟩
    refine wl_no rfl (congrArg Value.bool hg10) ?_
    refine wl_no rfl (congrArg Value.bool hg10) ?_
    refine wl_no rfl (congrArg Value.bool hg10) ?_
    refine wl_no rfl (congrArg Value.bool hg10) ?_
    refine wl_val (rn_pickF (congrArg Value.bool hg10) (by conv => lhs; whnf)) ?_
    refine wl_nil ?_
    refine W_condF rfl ?_
    refine W_exit ?_   -- exit 0
    refine W_seq ?_
    refine W_region ?_
    refine wl_val (rn_move (by conv => lhs; whnf)) ?_
    refine wl_val (rn_slen us_9 rfl) ?_
    refine wl_val (rn_move (by conv => lhs; whnf)) ?_
    refine wl_val (rn_slen us_9 rfl) ?_
    refine wl_val (rn_lss rfl rfl) ?_
    refine wl_val (rn_assign (by conv => lhs; whnf)) ?_
    refine wl_nil ?_
    refine W_ret ?_
    first | exact ⟨_, resR1 (res1_tmp rfl), hX, (by rw [less_at i a b htk hi hj hne, ← u8_ltd]; rfl)⟩ | exact ⟨_, resR1 (res1_tmp rfl), hX, (by rw [hend]; exact congrArg Value.bool (decide_eq_decide.2 (by omega)))⟩
end Go.Proofs.YtaddeakfojpdoaaGreatDoorC
