/- The functions of a set of numbers. -/
import Derived.Test.YtfdfphaiefbflaaSet3
import Derived.Test.YtfdfphaiefbflaaEnc
set_option linter.unusedVariables false
set_option linter.unusedSimpArgs false
set_option maxRecDepth 100000
namespace Go.Proofs.YtfdfphaiefbflaaC
open Go.RowKit
/-- A set of numbers reads as a rising list. -/
def SetR (M : Nat → Prop) (w : World) (v : Value) (ks : List Int) : Prop := ∃ v1 v2 vs, v = .agg #[v1, v2] ∧ MapR M w eI1 0 v1 v2 ks vs
theorem SetR.ext {M M' : Nat → Prop} {w w' : World} {v : Value} {ks : List Int} (h : SetR M w v ks) (hE : Ext M' w w') (hm : ∀ i, M' i → M i) : SetR M w' v ks := by
  obtain ⟨v1, v2, vs, e, h⟩ := h; exact ⟨v1, v2, vs, e, h.ext hE hm⟩
theorem SetR.sub {M M' : Nat → Prop} {w : World} {v : Value} {ks : List Int} (h : SetR M w v ks) (hm : ∀ i, M' i → i < w.heap.size → M i) : SetR M' w v ks := by
  obtain ⟨v1, v2, vs, e, h⟩ := h; exact ⟨v1, v2, vs, e, h.sub hm⟩
theorem unit_one {M : Nat → Prop} {w : World} {v : Value} {vs : List (List Value)} (h : Sl M w v 0 vs) : ∀ r ∈ vs, ∀ u ∈ r, u.oneCell' = true := fun r hr u hu => by
  have := List.length_eq_zero_iff.1 (h.each r hr); subst this; cases hu
/-- The set of a list. -/
def ofL (l : List Int) : List Int := l.foldl (putK ltI) []
theorem ofL_snoc (l : List Int) (x : Int) : ofL (l ++ [x]) = putK ltI (ofL l) x := by simp [ofL]
theorem foldK_sorted (l : List Int) : ∀ s, Sorted ltI s → Sorted ltI (l.foldl (putK ltI) s) := by
  induction l with
  | nil => intro s h; exact h
  | cons x l ih => intro s h; exact ih _ (putK_sorted lo_int h x)
theorem foldK_len (l : List Int) : ∀ s : List Int, (l.foldl (putK ltI) s).length ≤ s.length + l.length := by
  induction l with
  | nil => intro s; simp
  | cons x l ih => intro s; have := ih (putK ltI s x); have := putK_len (lt := ltI) s x; simp only [List.foldl_cons, List.length_cons]; omega
theorem foldK_mem (l : List Int) : ∀ s, Sorted ltI s → ∀ y, y ∈ l.foldl (putK ltI) s ↔ y ∈ s ∨ y ∈ l := by
  induction l with
  | nil => intro s h y; simp
  | cons x l ih =>
    intro s h y
    rw [List.foldl_cons, ih _ (putK_sorted lo_int h x), putK_mem lo_int h]
    simp only [List.mem_cons]
    constructor
    · rintro ((h | h) | h); exact .inr (.inl h); exact .inl h; exact .inr (.inr h)
    · rintro (h | h | h); exact .inl (.inr h); exact .inl (.inl h); exact .inr h
theorem sorted_nil : Sorted ltI [] := List.Pairwise.nil
theorem ofL_sorted (l : List Int) : Sorted ltI (ofL l) := foldK_sorted l [] sorted_nil
theorem ofL_len (l : List Int) : (ofL l).length ≤ l.length := by have := foldK_len l []; unfold ofL; simpa using this
theorem ofL_mem (l : List Int) (y : Int) : y ∈ ofL l ↔ y ∈ l := by have := foldK_mem l [] sorted_nil y; unfold ofL; simpa using this
theorem fold_take {l : List Int} {s : List Int} {i : Nat} {x : Int} (h : l[i]? = some x) : (l.take (i + 1)).foldl (putK ltI) s = putK ltI ((l.take i).foldl (putK ltI) s) x := by
  rw [List.take_add_one, h]; simp
-- (bellman/set.Set[int]).With
theorem with_ok (w : World) (ks : List Int) {v : Value} (hs : SetR Non w v ks) (x : Int) (hord : Sorted ltI ks) (hn : ks.length ≤ 1000000) : Fn Try.prog 38 #[v, .int .i64 x] w fun u w' => SetR (Old w) w' u (putK ltI ks x) := by
  obtain ⟨v1, v2, vs, rfl, hm⟩ := hs
  obtain ⟨q1, n1, c1, rfl⟩ := hm.keys.shape; obtain ⟨q2, n2, c2, rfl⟩ := hm.vals.shape
  have hX := Ext.refl Non w
  refine fn_of_W (args := [_, _]) Try.func38 rfl (by kernel_rfl) rfl ?_
  refine W_seq ?_
  refine W_region ?_
  refine wl_boxS rfl ?_; intro b2 w1 hb2 hE1 hB2
  have hq2 : w.heap.size ≤ b2 := Nat.le_trans hX.size hb2
  have hl2 : Mine Non w b2 := .inr hq2
  replace hX := hX.tr hE1
  refine wl_alloc z_43 ?_; intro b4 w2 hb4 hE2 hB4
  have hn2_4 : b2 < b4 := Nat.lt_of_lt_of_le hB2.lt hb4
  have hq4 : w.heap.size ≤ b4 := Nat.le_trans hX.size hb4
  have hl4 : Mine Non w b4 := .inr hq4
  replace hX := hX.tr hE2
  replace hB2 := hB2.ext hE2 id
  refine wl_nil ?_
  refine W_seq ?_
  refine W_region ?_
  refine wl_val (rn_fieldAddr f_43_0 (by decide) rfl) ?_
  refine wl_val (rn_loadS s_41 (vs := [.slice q1 n1 c1, .slice q2 n2 c2]) rfl rfl (hB2.part rfl (Nat.le_of_ble_eq_true rfl))) ?_
  refine wl_val (rn_move (by conv => lhs; whnf)) ?_
  refine wl_val (rn_build' b_112 rfl rfl (cs := _) rfl) ?_
  have hz4 := hB4.lt
  have hXc := hX
  refine wl_call e_84 rfl (mput_iu w2 ks vs x (hm.ext hX (fun _ h => h)) hord hn (unit_one hm.vals)) ?_; intro v9 w3 hE3 hR3
  replace hX := hX.tr hE3
  replace hB2 := hB2.ext hE3 id; replace hB4 := hB4.ext hE3 id
  obtain ⟨u1, u2, rfl, hM9⟩ := hR3
  obtain ⟨a1, l1, c1, rfl⟩ := id hM9.keys.shape; obtain ⟨a2, l2, c2, rfl⟩ := id hM9.vals.shape
  refine wl_val (rn_build' b_43 rfl rfl (cs := [.slice a1 l1 c1, .slice a2 l2 c2]) rfl) ?_
  have hBo := hB4
  refine wl_storeB s_43 rfl rfl rfl (two1 rfl rfl) hB4 rfl ?_; intro w4 hE4 hB4 hz4
  replace hX := hX.mine hE4 hl4
  replace hB2 := hB2.ext hE4 (fun h => by omega)
  replace hM9 := hM9.ext hE4 (fun i e => by unfold Old; omega)
  refine wl_nil ?_
  refine W_ret ?_
  exact ⟨_, resR1 (res1_box s_43 rfl hB4 rfl), hX, ⟨_, _, _, rfl, hM9.sub (fun i h _ => Nat.lt_of_lt_of_le h hXc.size)⟩⟩
-- (bellman/set.Set[int]).Has
theorem has_ok (w : World) (ks : List Int) {v : Value} (hs : SetR Non w v ks) (x : Int) (hord : Sorted ltI ks) (hn : ks.length ≤ 1000000) : Fn Try.prog 27 #[v, .int .i64 x] w fun u w' => u = .bool (isAt ltI ks x) := by
  obtain ⟨v1, v2, vs, rfl, hm⟩ := hs
  obtain ⟨q1, n1, c1, rfl⟩ := hm.keys.shape; obtain ⟨q2, n2, c2, rfl⟩ := hm.vals.shape
  have hX := Ext.refl Non w
  refine fn_of_W (args := [_, _]) Try.func27 rfl (by kernel_rfl) rfl ?_
  refine W_seq ?_
  refine W_region ?_
  refine wl_boxS rfl ?_; intro b2 w1 hb2 hE1 hB2
  have hq2 : w.heap.size ≤ b2 := Nat.le_trans hX.size hb2
  have hl2 : Mine Non w b2 := .inr hq2
  replace hX := hX.tr hE1
  refine wl_val (rn_assign (by conv => lhs; whnf)) ?_
  refine wl_nil ?_
  refine W_seq ?_
  refine W_region ?_
  refine wl_val (rn_fieldAddr f_43_0 (by decide) rfl) ?_
  refine wl_val (rn_loadS s_41 (vs := [.slice q1 n1 c1, .slice q2 n2 c2]) rfl rfl (hB2.part rfl (Nat.le_of_ble_eq_true rfl))) ?_
  refine wl_val (rn_move (by conv => lhs; whnf)) ?_
  refine wl_call e_72 rfl (mget_iu w1 ks vs x (hm.ext hX (fun _ h => h)) hord hn) ?_; intro v11 w2 hE2 hR2
  replace hX := hX.tr hE2
  replace hB2 := hB2.ext hE2 id
  subst hR2
  refine wl_val (rn_move (by conv => lhs; whnf)) ?_
  refine wl_val (rn_extract rfl rfl) ?_
  refine wl_val (rn_extract rfl rfl) ?_
  refine wl_alloc z_112 ?_; intro b5 w3 hb5 hE3 hB5
  have hn2_5 : b2 < b5 := Nat.lt_of_lt_of_le hB2.lt hb5
  have hq5 : w.heap.size ≤ b5 := Nat.le_trans hX.size hb5
  have hl5 : Mine Non w b5 := .inr hq5
  replace hX := hX.tr hE3
  replace hB2 := hB2.ext hE3 id
  refine wl_storeB s_112 rfl rfl rfl (by simp) hB5 rfl ?_; intro w4 hE4 hB5 hz4
  replace hX := hX.mine hE4 hl5
  replace hB2 := hB2.ext hE4 (fun h => by omega)
  refine wl_val (rn_assign (by conv => lhs; whnf)) ?_
  refine wl_nil ?_
  refine W_seq ?_
  refine W_region ?_
  refine wl_val (rn_move (by conv => lhs; whnf)) ?_
  refine wl_val (rn_assign (by conv => lhs; whnf)) ?_
  refine wl_nil ?_
  refine W_ret ?_
  exact ⟨_, resR1 (res1_tmp rfl), hX, rfl⟩
-- (bellman/set.Set[int]).Len
theorem len_ok (w : World) (ks : List Int) {v : Value} (hs : SetR Non w v ks) (hn : ks.length ≤ 1000000) : Fn Try.prog 28 #[v] w fun u w' => u = .int .i64 (ks.length : Nat) := by
  obtain ⟨v1, v2, vs, rfl, hm⟩ := hs
  obtain ⟨q1, n1, c1, rfl⟩ := hm.keys.shape; obtain ⟨q2, n2, c2, rfl⟩ := hm.vals.shape
  have hX := Ext.refl Non w
  refine fn_of_W (args := [_]) Try.func28 rfl (by kernel_rfl) rfl ?_
  refine W_seq ?_
  refine W_region ?_
  refine wl_boxS rfl ?_; intro b1 w1 hb1 hE1 hB1
  have hq1 : w.heap.size ≤ b1 := Nat.le_trans hX.size hb1
  have hl1 : Mine Non w b1 := .inr hq1
  replace hX := hX.tr hE1
  refine wl_val (rn_assign (by conv => lhs; whnf)) ?_
  refine wl_nil ?_
  refine W_seq ?_
  refine W_region ?_
  refine wl_val (rn_fieldAddr f_43_0 (by decide) rfl) ?_
  refine wl_val (rn_loadS s_41 (vs := [.slice q1 n1 c1, .slice q2 n2 c2]) rfl rfl (hB1.part rfl (Nat.le_of_ble_eq_true rfl))) ?_
  refine wl_call e_73 rfl (mlen_iu w1 ks vs (hm.ext hX (fun _ h => h)) hn) ?_; intro v5 w2 hE2 hR2
  replace hX := hX.tr hE2
  replace hB1 := hB1.ext hE2 id
  subst hR2
  refine wl_val (rn_assign (by conv => lhs; whnf)) ?_
  refine wl_nil ?_
  refine W_ret ?_
  exact ⟨_, resR1 (res1_tmp rfl), hX, rfl⟩
-- bellman/set.Of[int]
theorem of_ok (w : World) (l : List Int) {v : Value} (hs : Sl Non w v 1 (l.map eI1)) (hn : l.length ≤ 100000) : Fn Try.prog 25 #[v] w fun u w' => SetR (Old w) w' u (ofL l) := by
  obtain ⟨a, c, rfl, _⟩ := hs.len
  simp only [List.length_map] at hs ⊢
  have hzz : MapR (fun i => w.heap.size ≤ i → False) w eI1 0 (.slice none 0 0) (.slice none 0 0) [] [] := ⟨Sl.nil _ _ _, Sl.nil _ _ _, rfl⟩
  have hX := Ext.refl Non w
  refine fn_of_W (args := [_]) Try.func25 rfl (by kernel_rfl) rfl ?_
  refine W_seq ?_
  refine W_region ?_
  refine wl_alloc z_43 ?_; intro b2 w1 hb2 hE1 hB2
  have hq2 : w.heap.size ≤ b2 := Nat.le_trans hX.size hb2
  have hl2 : Mine Non w b2 := .inr hq2
  replace hX := hX.tr hE1
  refine wl_nil ?_
  refine W_seq ?_
  refine W_region ?_
  refine wl_alloc z_43 ?_; intro b3 w2 hb3 hE2 hB3
  have hn2_3 : b2 < b3 := Nat.lt_of_lt_of_le hB2.lt hb3
  have hq3 : w.heap.size ≤ b3 := Nat.le_trans hX.size hb3
  have hl3 : Mine Non w b3 := .inr hq3
  replace hX := hX.tr hE2
  replace hB2 := hB2.ext hE2 id
  refine wl_nil ?_
  refine W_seq ?_
  refine W_seq ?_
  refine W_region ?_
  refine wl_val (rn_move (by conv => lhs; whnf)) ?_
  refine wl_val (rn_len sl_36 rfl) ?_
  refine wl_val (rn_move (by conv => lhs; whnf)) ?_
  refine wl_nil ?_
  refine W_block ?_   -- block 0
  refine W_loopS (S := Nat × Value × Value) [2, 3, 6, 7, 8] (fun ⟨i, u1, u2⟩ => [.pointer (some ⟨b2, 0, none⟩), .pointer (some ⟨b3, 0, none⟩), .slice a l.length c, .int .i64 (l.length : Nat), .int .i64 (i : Nat)]) (fun ⟨i, u1, u2⟩ A => (Ext Non w A) ∧ (IsBox A b2 [.slice none 0 0, .slice none 0 0]) ∧ (IsBox A b3 [u1, u2]) ∧ (Mine Non w b2) ∧ (Mine Non w b3) ∧ (b2 < b3) ∧ (i ≤ l.length ∧ (∃ vs, MapR (fun j => j < w.heap.size ∨ j = b2 ∨ j = b3) A eI1 0 u1 u2 (ofL (l.take i)) vs) ∧ (∃ q n c, u1 = .slice q n c) ∧ (∃ q n c, u2 = .slice q n c))) (fun ⟨i, u1, u2⟩ => l.length - i) (0, .slice none 0 0, .slice none 0 0) ⟨rfl, rfl, rfl, rfl, rfl, trivial⟩ ⟨hX, hB2, hB3, hl2, hl3, hn2_3, ⟨Nat.zero_le _, ⟨[], Sl.nil _ _ _, Sl.nil _ _ _, rfl⟩, ⟨_, _, _, rfl⟩, ⟨_, _, _, rfl⟩⟩⟩ ?_
  rintro τ0 ⟨i, u1, u2⟩ A0 ⟨hX, hB2, hB3, hl2, hl3, hn2_3, hI0⟩
  obtain ⟨hil, ⟨vs, hm⟩, ⟨q1, n1, c1, hu1⟩, ⟨q2, n2, c2, hu2⟩⟩ := hI0
  refine W_seq ?_
  refine W_region ?_
  refine wl_val (rn_lss rfl rfl) ?_
  refine wl_nil ?_
  refine W_seq ?_
  refine W_cond rfl (fun hc0 => ?_) (fun hc0 => ?_)
  · have hlt := of_decide_eq_true hc0; simp only [Int.ofNat_lt] at hlt
    obtain ⟨x, hi⟩ : ∃ x, l[i]? = some x := ⟨_, List.getElem?_eq_getElem hlt⟩
    obtain ⟨b, o, ea⟩ := hs.base (by intro e; simp at e; subst e; simp at hlt); subst ea
    have htk : ofL (l.take (i + 1)) = putK ltI (ofL (l.take i)) x := by unfold ofL; exact fold_take hi
    have hol := ofL_len (l.take i)
    have hzl : (l.take i).length ≤ l.length := by rw [List.length_take]; omega
    have hz2 := hB2.lt; have hz3 := hB3.lt; have hXc := hX
    refine W_skip ?_
    refine W_seq ?_
    refine W_block ?_   -- block 1
    refine W_seq ?_
    refine W_region ?_
    refine wl_val (rn_indexAddr sl_36 rfl rfl (by omega)) ?_
    refine wl_val (rn_load p_3 rfl ((hs.ext hX (fun _ h => h)).at0 (eI_at hi) rfl)) ?_
    refine wl_val (rn_assign (by conv => lhs; whnf)) ?_
    refine wl_nil ?_
    refine W_region ?_
    refine wl_val (rn_loadB s_43 rfl rfl hB3) ?_
    refine wl_val (rn_move (by conv => lhs; whnf)) ?_
    refine wl_call e_38 rfl (with_ok A0 (ofL (l.take i)) ⟨_, _, _, rfl, (hm.sub (M' := Non) (fun _ h _ => h.elim)).ext (Ext.refl _ _) (fun _ h => h)⟩ x (ofL_sorted _) (by omega)) ?_; intro v14 w3 hE3 hR3
    replace hX := hX.tr hE3
    replace hB2 := hB2.ext hE3 id; replace hB3 := hB3.ext hE3 id
    replace hm := hm.ext hE3 (fun _ h => h.elim)
    obtain ⟨u1n, u2n, vsn, rfl, hM14⟩ := hR3
    obtain ⟨a1, l1, c1, rfl⟩ := id hM14.keys.shape; obtain ⟨a2, l2, c2, rfl⟩ := id hM14.vals.shape
    replace hM14 := hM14.sub (M' := fun j => j < w.heap.size ∨ j = b2 ∨ j = b3) (fun j h _ => by unfold Old; have := hXc.size; rcases h with h | h | h <;> omega)
    have hBo := hB3
    refine wl_storeB s_43 rfl rfl rfl (two1 rfl rfl) hB3 rfl ?_; intro w4 hE4 hB3 hz4
    replace hX := hX.mine hE4 hl3
    replace hB2 := hB2.ext hE4 (fun h => by omega)
    replace hm := hm.ext hE4 (fun j e => by omega)
    replace hM14 := hM14.ext hE4 (fun j e => by omega)
    refine wl_nil ?_
    refine W_region ?_
    refine wl_val (rn_add rfl rfl (by omega)) ?_
    refine wl_val (rn_move (by conv => lhs; whnf)) ?_
    refine wl_nil ?_
    exact ⟨rfl, (i + 1, .slice a1 l1 c1, .slice a2 l2 c2), ⟨rfl, rfl, rfl, rfl, rfl, trivial⟩, ⟨hX, hB2, hB3, hl2, hl3, hn2_3, ⟨hlt, ⟨_, by rw [htk]; exact hM14⟩, ⟨_, _, _, rfl⟩, ⟨_, _, _, rfl⟩⟩⟩, by show l.length - (i + 1) < l.length - i; omega⟩
  · have hge := of_decide_eq_false hc0; simp only [Int.ofNat_lt, Nat.not_lt] at hge
    have hie : i = l.length := by omega
    subst hie
    rw [List.take_length] at hm
    refine W_exit ?_   -- exit 0
    refine W_seq ?_
    refine W_region ?_
    refine wl_val (rn_loadB s_43 rfl rfl hB3) ?_
    have hBo := hB2
    refine wl_storeB s_43 rfl rfl rfl (two1 (by rw [hu1]; rfl) (by rw [hu2]; rfl)) hB2 rfl ?_; intro w5 hE5 hB2 hz5
    replace hX := hX.mine hE5 hl2
    replace hB3 := hB3.ext hE5 (fun h => by omega)
    replace hm := hm.ext hE5 (fun j e => by omega)
    refine wl_nil ?_
    refine W_ret ?_
    exact ⟨_, resR1 (res1_box s_43 rfl hB2 rfl), hX, ⟨_, _, vs, rfl, hm.sub (fun j h _ => .inl h)⟩⟩
-- slices.Values[[]int,int]$1
theorem values_iter (ks : List Int) {v : Value} (M : Nat → Prop) (w0 : World) (b1 : Nat) (hs : Sl M w0 v 1 (ks.map eI1)) (hC1 : IsBox w0 b1 [v]) (h1 : ¬ M b1) :
    Iter Try.prog M w0 (.func (.func 115) #[] #[.pointer (some ⟨b1, 0, none⟩)]) (fun x : Int => #[.int .i64 x]) ks := by
  refine iter_of e_115 fun l W J Jx hW hX hY => ?_
  obtain ⟨a, c, rfl, _⟩ := hs.len
  simp only [List.length_map] at hs hC1 ⊢
  have hbig : ks.length ≤ big := by obtain ⟨⟨a1, c1, e1, e2, e3, _⟩, _⟩ := hs; simp at e2; omega
  have hbig2 : big = 9223372036854775807 := rfl
  have ea : (#[Value.func (.yield l) #[] #[]] ++ #[.pointer (some ⟨b1, 0, none⟩)] : Array Value) = [Value.func (.yield l) #[] #[], .pointer (some ⟨b1, 0, none⟩)].toArray := by simp
  rw [ea]
  refine calls_of_W (R := fun v W' => Tl M w0 W (J ks) [] W' ∨ Tl M w0 W Jx [] W') Try.func115 rfl (by kernel_rfl) rfl ?_
  refine W_seq ?_
  refine W_region ?_
  refine wl_val (rn_load1 p_36 rfl (hC1.ext hX.w0 h1) rfl) ?_
  refine wl_val (rn_len sl_36 rfl) ?_
  refine wl_val (rn_move (by conv => lhs; whnf)) ?_
  refine wl_nil ?_
  refine W_block ?_   -- block 0
  refine W_loopS (S := Nat) [0, 5, 6, 7] (fun i => [.func (.yield l) #[] #[], .slice a ks.length c, .int .i64 (ks.length : Nat), .int .i64 (i : Nat)]) (fun i A => (Tl M w0 W (J (ks.take i)) [] A) ∧ (i ≤ ks.length)) (fun i => ks.length - i) 0 ⟨rfl, rfl, rfl, rfl, trivial⟩ ⟨(hX.less (by simp)), Nat.zero_le _⟩ ?_
  rintro τ0 i A0 ⟨hX, hI0⟩
  refine W_seq ?_
  refine W_region ?_
  refine wl_val (rn_lss rfl rfl) ?_
  refine wl_nil ?_
  refine W_seq ?_
  refine W_cond rfl (fun hc0 => ?_) (fun hc0 => ?_)
  · have hlt := of_decide_eq_true hc0; simp only [Int.ofNat_lt] at hlt
    obtain ⟨x, hi⟩ : ∃ x, ks[i]? = some x := ⟨_, List.getElem?_eq_getElem hlt⟩
    obtain ⟨b, o, ea⟩ := hs.base (by intro e; simp at e; subst e; simp at hlt); subst ea
    have htk : ks.take (i + 1) = ks.take i ++ [x] := by rw [List.take_add_one, hi]; rfl
    have hsp : ks = ks.take i ++ x :: ks.drop (i + 1) := by obtain ⟨h1, h2⟩ := List.getElem?_eq_some_iff.1 hi; rw [← h2, List.getElem_cons_drop, List.take_append_drop]
    refine W_skip ?_
    refine W_seq ?_
    refine W_block ?_   -- block 1
    refine W_seq ?_
    refine W_region ?_
    refine wl_val (rn_indexAddr sl_36 rfl rfl (by omega)) ?_
    refine wl_val (rn_load p_3 rfl ((hs.ext hX.w0 (fun _ h => h)).at0 (eI_at hi) rfl)) ?_
    refine wl_val (rn_assign (by conv => lhs; whnf)) ?_
    refine wl_nil ?_
    refine W_seq ?_
    refine W_region ?_
    refine wl_val (rn_move (by conv => lhs; whnf)) ?_
    refine wl_val (rn_move (by conv => lhs; whnf)) ?_
    refine wl_yield rfl rfl (hY _ _ _ _ _ hsp hX) ?_; rintro b13 w1 ⟨hE1, hyT, hyF⟩
    refine wl_val (rn_not rfl) ?_
    refine wl_nil ?_
    refine W_cond rfl (fun hc1 => ?_) (fun hc1 => ?_)
    · refine W_ret ?_
      first | exact ⟨_, rfl, .inr ((hyF (by simpa using hc1)).less (by simp))⟩ | exact ⟨_, rfl, .inl (by have hge := of_decide_eq_false hc0; simp only [Int.ofNat_lt, Nat.not_lt] at hge; have hie : i = ks.length := (by omega); subst hie; rw [List.take_length] at hX; exact hX.less (by simp))⟩
    · refine W_skip ?_
      refine W_region ?_
      refine wl_val (rn_add rfl rfl (by omega)) ?_
      refine wl_val (rn_move (by conv => lhs; whnf)) ?_
      refine wl_nil ?_
      replace hX := hyT (by simpa using hc1)
      rw [← htk] at hX
      exact ⟨rfl, i + 1, ⟨rfl, rfl, rfl, rfl, trivial⟩, ⟨(hX.less (by simp)), hlt⟩, by omega⟩
  · refine W_exit ?_   -- exit 0
    first | exact ⟨_, rfl, .inr ((hyF (by simpa using hc1)).less (by simp))⟩ | exact ⟨_, rfl, .inl (by have hge := of_decide_eq_false hc0; simp only [Int.ofNat_lt, Nat.not_lt] at hge; have hie : i = ks.length := (by omega); subst hie; rw [List.take_length] at hX; exact hX.less (by simp))⟩
-- slices.Values[[]int,int]
theorem values_ok (w : World) (ks : List Int) {v : Value} (M : Nat → Prop) (hM : ∀ i, M i → i < w.heap.size) (hs : Sl M w v 1 (ks.map eI1)) : Fn Try.prog 99 #[v] w fun u w' => Iter Try.prog M w' u (fun x : Int => #[.int .i64 x]) ks := by
  obtain ⟨a, c, rfl, _⟩ := hs.len
  have hX := Ext.refl Non w
  refine fn_of_W (args := [_]) Try.func99 rfl (by kernel_rfl) rfl ?_
  refine W_seq ?_
  refine W_region ?_
  refine wl_box1 (by conv => lhs; whnf) rfl ?_; intro b1 w1 hb1 hE1 hB1
  have hq1 : w.heap.size ≤ b1 := Nat.le_trans hX.size hb1
  have hl1 : Mine Non w b1 := .inr hq1
  replace hX := hX.tr hE1
  refine wl_val (rn_assign (by conv => lhs; whnf)) ?_
  refine wl_nil ?_
  refine W_seq ?_
  refine W_region ?_
  refine wl_val (rn_makeFunc rfl) ?_
  refine wl_val (rn_assign (by conv => lhs; whnf)) ?_
  refine wl_nil ?_
  refine W_ret ?_
  exact ⟨_, resR1 (res1_tmp rfl), hX, values_iter ks M _ b1 (hs.ext hX.of_non (fun _ h => h)) hB1 (fun h => by have := hM _ h; omega)⟩
-- (bellman/set.Set[int]).All
theorem all_ok (w : World) (ks : List Int) {v : Value} (M : Nat → Prop) (hM : ∀ i, M i → i < w.heap.size) (hs : SetR M w v ks) : Fn Try.prog 71 #[v] w fun u w' => Iter Try.prog M w' u (fun x : Int => #[.int .i64 x]) ks := by
  obtain ⟨v1, v2, vs, rfl, hm⟩ := hs
  obtain ⟨q1, n1, c1, rfl⟩ := hm.keys.shape; obtain ⟨q2, n2, c2, rfl⟩ := hm.vals.shape
  have hX := Ext.refl Non w
  refine fn_of_W (args := [_]) Try.func71 rfl (by kernel_rfl) rfl ?_
  refine W_seq ?_
  refine W_region ?_
  refine wl_boxS rfl ?_; intro b1 w1 hb1 hE1 hB1
  have hq1 : w.heap.size ≤ b1 := Nat.le_trans hX.size hb1
  have hl1 : Mine Non w b1 := .inr hq1
  replace hX := hX.tr hE1
  refine wl_val (rn_assign (by conv => lhs; whnf)) ?_
  refine wl_nil ?_
  refine W_seq ?_
  refine W_region ?_
  refine wl_val (rn_fieldAddr f_43_0 (by decide) rfl) ?_
  refine wl_val (rn_fieldAddr f_41_0 (by decide) rfl) ?_
  refine wl_val (rn_load1 p_36 rfl hB1 rfl) ?_
  refine wl_call e_99 rfl (values_ok w1 ks M (fun i h => Nat.lt_of_lt_of_le (hM i h) hX.size) (hm.keys.ext hX.of_non (fun _ h => h))) ?_; intro v6 w2 hE2 hR2
  replace hX := hX.tr hE2
  replace hB1 := hB1.ext hE2 id
  have hIt := hR2
  refine wl_val (rn_assign (by conv => lhs; whnf)) ?_
  refine wl_nil ?_
  refine W_ret ?_
  exact ⟨_, resR1 (res1_tmp rfl), hX, hIt⟩
-- bellman/bellmanref01.Ints
theorem ints_ok (w : World) (l m : List Int) {v x : Value} (hs : Sl Non w v 1 (l.map eI1)) (hx : Sl Non w x 1 (m.map eI1)) (hn : l.length ≤ 1000000) : Fn Try.prog 30 #[v, x] w fun u w' => u = .bool (decide (l = m)) := by
  obtain ⟨a, c, rfl, _⟩ := hs.len
  obtain ⟨a2, c2, rfl, _⟩ := hx.len
  simp only [List.length_map] at hs hx ⊢
  have hX := Ext.refl Non w
  refine fn_of_W (args := [_, _]) Try.func30 rfl (by kernel_rfl) rfl ?_
  refine W_seq ?_
  refine W_region ?_
  refine wl_val (rn_assign (by conv => lhs; whnf)) ?_
  refine wl_nil ?_
  refine W_seq ?_
  refine W_seq ?_
  refine W_region ?_
  refine wl_val (rn_move (by conv => lhs; whnf)) ?_
  refine wl_val (rn_len sl_36 rfl) ?_
  refine wl_val (rn_move (by conv => lhs; whnf)) ?_
  refine wl_val (rn_len sl_36 rfl) ?_
  refine wl_val (rn_neq rfl rfl) ?_
  refine wl_nil ?_
  refine W_cond rfl (fun hc0 => ?_) (fun hc0 => ?_)
  · refine W_seq ?_
    refine W_region ?_
    refine wl_val (rn_assign (by conv => lhs; whnf)) ?_
    refine wl_nil ?_
    refine W_ret ?_
    have hnl : ¬ l = m := fun e => by have := of_decide_eq_true hc0; simp only [ne_eq, Int.natCast_inj] at this; exact this (by rw [e])
    exact ⟨_, resR1 (res1_tmp rfl), hX, by rw [decide_eq_false hnl]; rfl⟩
  · have hln : l.length = m.length := by have := of_decide_eq_false hc0; simp only [ne_eq, Int.natCast_inj, Classical.not_not] at this; exact this
    refine W_skip ?_
    refine W_seq ?_
    refine W_seq ?_
    refine W_region ?_
    refine wl_val (rn_assign (by conv => lhs; whnf)) ?_
    refine wl_nil ?_
    refine W_block ?_   -- block 0
    refine W_loopS (S := Nat) [0, 1, 5] (fun i => [.slice a l.length c, .slice a2 m.length c2, .int .i64 (i : Nat)]) (fun i A => (Ext Non w A) ∧ (i ≤ l.length ∧ l.take i = m.take i)) (fun i => l.length - i) 0 ⟨rfl, rfl, rfl, trivial⟩ ⟨hX, ⟨Nat.zero_le _, by simp⟩⟩ ?_
    rintro τ0 i A0 ⟨hX, hI0⟩
    obtain ⟨hil, htk⟩ := hI0
    refine W_seq ?_
    refine W_seq ?_
    refine W_region ?_
    refine wl_val (rn_move (by conv => lhs; whnf)) ?_
    refine wl_val (rn_move (by conv => lhs; whnf)) ?_
    refine wl_val (rn_len sl_36 rfl) ?_
    refine wl_val (rn_lss rfl rfl) ?_
    refine wl_nil ?_
    refine W_cond rfl (fun hc1 => ?_) (fun hc1 => ?_)
    · have hlt := of_decide_eq_true hc1; simp only [Int.ofNat_lt] at hlt
      obtain ⟨x, hi⟩ : ∃ x, l[i]? = some x := ⟨_, List.getElem?_eq_getElem hlt⟩
      obtain ⟨y, hj⟩ : ∃ y, m[i]? = some y := ⟨_, List.getElem?_eq_getElem (by omega)⟩
      obtain ⟨b, o, ea⟩ := hs.base (by intro e; simp at e; subst e; simp at hlt); subst ea
      obtain ⟨b2, o2, ea2⟩ := hx.base (by intro e; have := congrArg List.length e; simp only [List.length_map, List.length_nil] at this; omega); subst ea2
      refine W_skip ?_
      refine W_seq ?_
      refine W_block ?_   -- block 1
      refine W_seq ?_
      refine W_drawE mixed ?_; intro w1 hE1
      replace hX := hX.tr hE1
      have hS := Ext.refl Non w1
      refine wd_take 0 _ _ rfl (by kernel_rfl) hS (yd_do fun A hA => rn_move (by conv => lhs; whnf)) ?_
      refine wd_take 1 _ _ rfl (by kernel_rfl) hS (yd_do fun A hA => rn_move (by conv => lhs; whnf)) ?_
      refine wd_take 2 _ _ rfl (by kernel_rfl) hS (yd_do fun A hA => rn_indexAddr sl_36 rfl rfl (by omega)) ?_
      refine wd_take 3 _ _ rfl (by kernel_rfl) hS (yd_do fun A hA => rn_load p_3 rfl (((hs.ext hX (fun _ h => h)).ext hA (fun _ h => h.elim)).at0 (eI_at hi) rfl)) ?_
      refine wd_take 4 _ _ rfl (by kernel_rfl) hS (yd_do fun A hA => rn_move (by conv => lhs; whnf)) ?_
      refine wd_take 5 _ _ rfl (by kernel_rfl) hS (yd_do fun A hA => rn_move (by conv => lhs; whnf)) ?_
      refine wd_take 6 _ _ rfl (by kernel_rfl) hS (yd_do fun A hA => rn_indexAddr sl_36 rfl rfl (by omega)) ?_
      refine wd_take 7 _ _ rfl (by kernel_rfl) hS (yd_do fun A hA => rn_load p_3 rfl (((hx.ext hX (fun _ h => h)).ext hA (fun _ h => h.elim)).at0 (eI_at hj) rfl)) ?_
      refine wd_take 8 _ _ rfl (by kernel_rfl) hS (yd_do fun A hA => rn_neq rfl rfl) ?_
      refine wd_done (by kernel_rfl) ?_ _
      replace hX := hX.tr hS
      refine W_cond rfl (fun hc2 => ?_) (fun hc2 => ?_)
      · refine W_seq ?_
        refine W_region ?_
        refine wl_val (rn_assign (by conv => lhs; whnf)) ?_
        refine wl_nil ?_
        refine W_ret ?_
        have hnl : ¬ l = m := fun e => by have h1 := of_decide_eq_true hc2; rw [e, hj] at hi; cases hi; exact h1 rfl
        exact ⟨_, resR1 (res1_tmp rfl), hX, by rw [decide_eq_false hnl]; rfl⟩
      · refine W_skip ?_
        refine W_region ?_
        refine wl_val (rn_move (by conv => lhs; whnf)) ?_
        refine wl_val (rn_add rfl rfl (by omega)) ?_
        refine wl_val (rn_assign (by conv => lhs; whnf)) ?_
        refine wl_nil ?_
        have hxy : x = y := by have := of_decide_eq_false hc2; simpa using this
        exact ⟨rfl, i + 1, ⟨rfl, rfl, rfl, trivial⟩, ⟨hX, ⟨hlt, by rw [List.take_add_one, List.take_add_one, htk, hi, hj, hxy]⟩⟩, by omega⟩
    · have hge := of_decide_eq_false hc1; simp only [Int.ofNat_lt, Nat.not_lt] at hge
      have hlm : l = m := by have h1 : l.take i = l := List.take_of_length_le hge; have h2 : m.take i = m := List.take_of_length_le (by omega); rw [← h1, ← h2, htk]
      refine W_exit ?_   -- exit 0
      refine W_seq ?_
      refine W_region ?_
      refine wl_val (rn_assign (by conv => lhs; whnf)) ?_
      refine wl_nil ?_
      refine W_ret ?_
      exact ⟨_, resR1 (res1_tmp rfl), hX, by rw [decide_eq_true hlm]; rfl⟩
-- bellman/bellmanlaw03.list
theorem list_ok (w : World) (ks : List Int) {v : Value} (hs : SetR Non w v ks) (hn : ks.length ≤ 2000) : Fn Try.prog 26 #[v] w fun u w' => Sl Non w' u 1 (ks.map eI1) := by
  obtain ⟨v1, v2, vs, rfl, hm⟩ := hs
  obtain ⟨q1, n1, c1, rfl⟩ := hm.keys.shape; obtain ⟨q2, n2, c2, rfl⟩ := hm.vals.shape
  have hX := Ext.refl Non w
  refine fn_of_W (args := [_]) Try.func26 rfl (by kernel_rfl) rfl ?_
  refine W_seq ?_
  refine W_region ?_
  refine wl_boxS rfl ?_; intro b1 w1 hb1 hE1 hB1
  have hq1 : w.heap.size ≤ b1 := Nat.le_trans hX.size hb1
  have hl1 : Mine Non w b1 := .inr hq1
  replace hX := hX.tr hE1
  refine wl_alloc z_36 ?_; intro b2 w2 hb2 hE2 hB2
  have hn1_2 : b1 < b2 := Nat.lt_of_lt_of_le hB1.lt hb2
  have hq2 : w.heap.size ≤ b2 := Nat.le_trans hX.size hb2
  have hl2 : Mine Non w b2 := .inr hq2
  replace hX := hX.tr hE2
  replace hB1 := hB1.ext hE2 id
  refine wl_nil ?_
  refine W_seq ?_
  refine W_region ?_
  refine wl_alloc z_36 ?_; intro b3 w3 hb3 hE3 hB3
  have hn1_3 : b1 < b3 := Nat.lt_of_lt_of_le hB1.lt hb3
  have hn2_3 : b2 < b3 := Nat.lt_of_lt_of_le hB2.lt hb3
  have hq3 : w.heap.size ≤ b3 := Nat.le_trans hX.size hb3
  have hl3 : Mine Non w b3 := .inr hq3
  replace hX := hX.tr hE3
  replace hB1 := hB1.ext hE3 id; replace hB2 := hB2.ext hE3 id
  refine wl_nil ?_
  refine W_seq ?_
  refine W_region ?_
  refine wl_val (rn_loadB s_43 rfl rfl hB1) ?_
  refine wl_call e_71 rfl (all_ok w3 ks (fun i => i = b3) (fun i e => by rw [e]; exact hB3.lt) ⟨_, _, vs, rfl, (hm.sub (M' := fun i => i = b3) (fun i e hlt => by omega)).ext hX.of_non (fun _ h => h)⟩) ?_; intro v7 w4 hE4 hR4
  replace hX := hX.tr hE4
  replace hB1 := hB1.ext hE4 id; replace hB2 := hB2.ext hE4 id; replace hB3 := hB3.ext hE4 id
  have hIt := hR4; obtain ⟨fk, ck, hfk, _⟩ := id hIt; subst hfk
  have hW := Ext.refl (fun i => i = b3) w4; have hz1 := hB1.lt; have hz2 := hB2.lt; have hz3 := hB3.lt
  refine wl_val (rn_assign (by conv => lhs; whnf)) ?_
  refine wl_nil ?_
  refine W_seq ?_
  refine W_seq ?_
  refine W_region ?_
  refine wl_val (rn_move (by conv => lhs; whnf)) ?_
  refine wl_val (rn_func_eql uf_110 rfl rfl) ?_
  refine wl_nil ?_
  refine W_condF rfl ?_
  refine W_skip ?_
  refine W_seq ?_
  refine W_seq ?_
  refine W_region ?_
  refine wl_val (rn_move (by conv => lhs; whnf)) ?_
  refine wl_nil ?_
  refine W_block ?_   -- block 0
  have hszr := hX.size
  have hsz_hW := hW.size
  have ho1 : w.heap.size ≤ b1 := by rcases hl1 with h | h; exact h.elim; exact h
  have ho2 : w.heap.size ≤ b2 := by rcases hl2 with h | h; exact h.elim; exact h
  have ho3 : w.heap.size ≤ b3 := by rcases hl3 with h | h; exact h.elim; exact h
  refine W_rangeFunc (M := fun i => i = b3) (w0 := w4) (I := fun pre N A => ∃ v3 : Value, ∃ oo : Option Nat, Box N A b1 [.slice q1 n1 c1, .slice q2 n2 c2] ∧ Box N A b2 [.slice none 0 0] ∧ Box N A b3 [v3] ∧ Ext Non w A ∧ Ext (fun i => i = b3) w4 A ∧ MkN w [] N A ∧ (OwX w4.heap.size N A v3 oo 1 (pre.map eI1)) ∧ (True)) (X := fun c N A => False) (encs := fun x : Int => [.int .i64 x]) (xs := ks) rfl (hIt) (hW) (fun _ => rfl) (fun pre => Stab.ex fun v3 => Stab.ex fun oo => (Stab.box _ _).and ((Stab.box _ _).and ((Stab.box _ _).and ((Stab.old hX.size).and ((Stab.oldM hW.size).and ((Stab.mk _ _).and ((Stab.owx _ _ _ _ _).and ((Stab.pure _))))))))) (fun c => Stab.false) ⟨.slice none 0 0, none, ⟨hB1, id⟩, ⟨hB2, id⟩, ⟨hB3, id⟩, hX, hW, (Mk.nil : Mk w [] w4).toN, ⟨OwO.nil, by simp⟩, trivial⟩ ?_ ?_ ?_
  · rintro l N pre x A hl hN hA hst ⟨v3, oo, hK1, hK2, hK3, hXo, hW, hDk, hO, hIr⟩ ⟨post, hpre⟩
    have hB1 := hK1.1
    have hB2 := hK2.1
    have hB3 := hK3.1; have hl3 : Mine (Yc (fun i => i = b3) w4 N) A b3 := .inl ⟨hK3.2, .inl rfl⟩
    have hX := Ext.refl (Yc (fun i => i = b3) w4 N) A
    refine W_region ?_
    refine wl_val (rn_assign (by conv => lhs; whnf)) ?_
    refine wl_nil ?_
    refine ⟨rfl, hX, fun A2 hE2r hz2r hst2 => ?_⟩
    have hNl := (hN l hl).2
    replace hB1 := hB1.ext hE2r (fun e => hK1.2 (by rw [e]; exact hl))
    replace hB2 := hB2.ext hE2r (fun e => hK2.2 (by rw [e]; exact hl))
    replace hB3 := hB3.ext hE2r (fun e => hK3.2 (by rw [e]; exact hl))
    replace hXo := hXo.mine hE2r (.inr (Nat.le_trans hszr (hN l hl).1)); replace hDk := hDk.lp hE2r hl
    replace hW := hW.mine hE2r (.inr (Nat.le_trans hsz_hW (hN l hl).1))
    replace hO := hO.ext hE2r (fun i hi e => (hO.2 i hi).1 (by rw [e]; exact hl))
    have hl3 : Mine (Yc (fun i => i = b3) w4 N) A2 b3 := .inl ⟨hK3.2, .inl rfl⟩
    have hX := Ext.refl (Yc (fun i => i = b3) w4 N) A2
    refine W_block ?_   -- block 1
    refine W_seq ?_
    refine W_region ?_
    have hpl : ks.length = pre.length + (post.length + 1) := by rw [hpre]; simp
    refine wl_val (rn_load1 p_36 rfl hB3 rfl) ?_
    refine wl_val (rn_move (by conv => lhs; whnf)) ?_
    refine wl_lit1 (r := [.int .i64 x]) sl_36 rfl rfl rfl rfl (by decide) ?_; intro v15 w5 b15 hb15 hE5 hO15
    replace hX := hX.tr hE5
    replace hB1 := hB1.ext hE5 id; replace hB2 := hB2.ext hE5 id; replace hB3 := hB3.ext hE5 id
    replace hXo := hXo.tr hE5
    replace hDk := hDk.non hE5
    replace hW := hW.tr hE5
    replace hO := hO.ext hE5 (fun _ _ h => h)
    have hsx := hX.size; have hsw := hW.size
    refine wl_app sl_36 rfl rfl rfl hO.1 (hO15.sl (M := Non) id) (fun r hr => by simp only [List.mem_singleton] at hr; subst hr; exact one1 rfl) (by simp only [List.length_map, List.length_cons, List.length_nil]; omega) (by simp only [List.length_map, List.length_cons, List.length_nil, big]; omega) ?_; intro v16 w6 o16 hE6 hO16 hf16
    obtain ⟨a16, c16, hv16⟩ := id hO16.len; subst hv16
    replace hX := hX.mineO hE6 (fun i hi => .inl ⟨(hO.2 i hi).1, .inr (hO.2 i hi).2⟩); replace hXo := hXo.mineO hE6 (fun i hi => .inr (Nat.le_trans hszr (hO.2 i hi).2)); replace hW := hW.mineO hE6 (fun i hi => .inr (hO.2 i hi).2); replace hDk : MkN w [] N w6 := ⟨Mk.nil, fun r h => by cases h⟩
    replace hB1 := hB1.ext hE6 (fun e => by have := (hO.2 _ e).2; omega); replace hB2 := hB2.ext hE6 (fun e => by have := (hO.2 _ e).2; omega); replace hB3 := hB3.ext hE6 (fun e => by have := (hO.2 _ e).2; omega)
    have hOn : OwX w4.heap.size N w6 _ o16 1 ((pre ++ [x]).map eI1) := ⟨by rw [List.map_append]; exact hO16, fun i hi => by rcases hf16 i hi with h | h; exact hO.2 i h; exact ⟨fun hNi => by have := (hN i hNi).2; omega, by omega⟩⟩
    have hBo := hB3
    refine wl_store1 p_36 rfl (by conv => lhs; whnf) rfl rfl hB3 (Nat.le_of_ble_eq_true rfl) ?_; intro w7 hE7 hB3 hz7
    replace hX := hX.mine hE7 hl3
    replace hB1 := hB1.ext hE7 (fun h => by omega); replace hB2 := hB2.ext hE7 (fun h => by omega)
    replace hXo := hXo.mine hE7 (.inr ho3)
    replace hDk := hDk.box hE7 hBo
    replace hW := hW.mine hE7 (.inl rfl)
    replace hOn := hOn.ext hE7 (fun i hi e => by have := (hOn.2 i hi).2; omega)
    refine wl_nil ?_
    refine W_seq ?_
    refine W_region ?_
    refine wl_val (rn_load1 p_36 rfl hB3 rfl) ?_
    refine wl_val (rn_len sl_36 rfl) ?_
    refine wl_val (rn_gtr rfl rfl) ?_
    refine wl_nil ?_
    refine W_cond rfl (fun hc1 => ?_) (fun hc1 => ?_)
    · exact absurd (of_decide_eq_true hc1) (by simp only [List.length_append, List.length_cons, List.length_map, List.length_nil]; omega)
    · refine W_skip ?_
      exact ⟨hX, .slice a16 _ c16, o16, ⟨hB1, hK1.2⟩, ⟨hB2, hK2.2⟩, ⟨hB3, hK3.2⟩, hXo, hW, hDk, hOn, trivial⟩
  · rintro N rk w' ⟨v3, oo, hK1, hK2, hK3, hXo, hW, hDk, hO, hIr⟩ hN hA hr hrd
    have hB1 := hK1.1
    have hB2 := hK2.1
    have hB3 := hK3.1
    have hX := hXo; have hD := hDk.add hrd (Nat.le_trans hszr (hN rk hr).1) hr
    obtain ⟨a3, c3, hv3⟩ := id hO.1.len; subst hv3
    refine W_seq ?_
    refine W_region ?_
    refine wl_val (rn_load1 p_36 rfl hB3 rfl) ?_
    have hBo := hB2
    refine wl_store1 p_36 rfl (by conv => lhs; whnf) rfl rfl hB2 (Nat.le_of_ble_eq_true rfl) ?_; intro w8 hE8 hB2 hz8
    replace hX := hX.mine hE8 hl2
    replace hB1 := hB1.ext hE8 (fun h => by omega); replace hB3 := hB3.ext hE8 (fun h => by omega)
    replace hD := hD.box hE8 hBo
    replace hO := hO.ext hE8 (fun i hi e => by have := (hO.2 i hi).2; omega)
    refine wl_nil ?_
    refine W_ret ?_
    refine hD.leave fun B hB => ?_
    have hB1 := hB1.ext hB (hD.ne hB1)
    have hB2 := hB2.ext hB (hD.ne hB2)
    have hB3 := hB3.ext hB (hD.ne hB3)
    have hX := hD.out hX hB
    exact ⟨_, resR1 (res1_cell p_36 rfl hB2), hX, (hO.ext hB (fun i hi h => (hO.2 i hi).1 (by simp only [List.mem_singleton] at h; rw [mark_inj h]; exact hr))).1.sl (fun i hi => id)⟩
  · intro c N rk w' h; exact h.elim
end Go.Proofs.YtfdfphaiefbflaaC
