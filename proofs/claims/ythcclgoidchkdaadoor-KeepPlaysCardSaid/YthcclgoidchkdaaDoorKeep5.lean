/- The document's store: getting, scanning, putting. -/
import Derived.Test.YthcclgoidchkdaaDoorKeep3
import Derived.Test.YthcclgoidchkdaaDoorKp
set_option linter.unusedVariables false
set_option linter.unusedSimpArgs false
set_option maxRecDepth 100000
namespace Go.Proofs.YthcclgoidchkdaaDoorC
open Go.RowKit
theorem fst_at {ys : List (Str × Int)} {i : Nat} {y : Str × Int} (h : ys[i]? = some y) : ((ys.map Prod.fst).map eS1)[i]? = some [Sv y.1] := by simp [h, eS1]
theorem snd_at {ys : List (Str × Int)} {i : Nat} {y : Str × Int} (h : ys[i]? = some y) : ((ys.map Prod.snd).map eI1)[i]? = some [.int .i64 y.2] := by simp [h, eI1]
theorem kGet_at5 {ks : List Str} {ys : List (Str × Int)} (h : Sorted ltS ks) (hle : ys.length = ks.length) {i : Nat} {k : Str} {y : Str × Int} (hk : ks[i]? = some k) (hy : ys[i]? = some y) : isAt ltS ks k = true ∧ kGet ks ys k = y := by
  have h1 := (key_at lo_str h (x := k) hk).2.1 rfl
  exact ⟨h1.1, kGet_yes h1.1 (by rw [← h1.2]; exact hy)⟩
theorem zip_at5 {α β : Type} {l : List α} {m : List β} {i : Nat} {x : α} {y : β} (hx : l[i]? = some x) (hy : m[i]? = some y) : (l.zip m).take (i + 1) = (l.zip m).take i ++ [(x, y)] := by
  rw [List.take_add_one, show (l.zip m)[i]? = some (x, y) from by simp [List.getElem?_zip_eq_some, hx, hy]]; rfl
def oAt {β : Type} (e : Bool) (n : Nat) (a : Bool) (vs : List β) (r : β) (i : Nat) : List β := if e = true then dropAt n a vs i else putAt n a vs r i
theorem dropAt_len5 {β : Type} {n : Nat} {a : Bool} {vs : List β} {i : Nat} : (dropAt n a vs i).length ≤ i := by
  unfold dropAt; split
  · rename_i h; rw [List.length_append, List.length_take, List.length_drop, List.length_take]; omega
  · rw [List.length_take]; omega
theorem putAt_len5 {β : Type} {n : Nat} {a : Bool} {vs : List β} {r : β} {i : Nat} : (putAt n a vs r i).length ≤ i + 1 := by
  unfold putAt; split
  · rw [List.length_append, List.length_cons, List.length_take, List.length_drop, List.length_take]; omega
  · rw [List.length_take]; omega
section
variable {β : Type} {e a : Bool} {n i : Nat} {vs : List β} {r v : β}
theorem oAt_len : (oAt e n a vs r i).length ≤ i + 1 := by
  unfold oAt; split
  · exact Nat.le_trans dropAt_len5 (Nat.le_succ _)
  · exact putAt_len5
theorem oAt_end (he : e = false) (hl : vs.length = i) (hn : i = n) : oAt e n a vs r (i + 1) = oAt e n a vs r i ++ [r] := by
  unfold oAt; rw [he, if_neg (by simp), if_neg (by simp)]
  unfold putAt; rw [if_pos (by omega), if_neg (by omega), List.take_of_length_le (by omega), List.take_of_length_le (by omega), List.take_of_length_le (by omega), List.drop_of_length_le (by omega)]
theorem oAt_ne (he : e = false) (ha : a = false) (hn : i = n) (hv : vs[i]? = some v) : oAt e n a vs r (i + 1) = oAt e n a vs r i ++ [r] ++ [v] := by
  subst hn; unfold oAt; rw [he, if_neg (by simp), if_neg (by simp), ha]; exact putAt_ne hv
theorem oAt_eq (he : e = false) (ha : a = true) (hn : i = n) (hv : vs[i]? = some v) : oAt e n a vs r (i + 1) = oAt e n a vs r i ++ [r] := by
  subst hn; unfold oAt; rw [he, if_neg (by simp), if_neg (by simp), ha]; exact putAt_eq hv
theorem oAt_lo (he : e = false) (hn : i < n) (hv : vs[i]? = some v) : oAt e n a vs r (i + 1) = oAt e n a vs r i ++ [v] := by
  unfold oAt; rw [he, if_neg (by simp), if_neg (by simp)]; exact putAt_lo hn hv
theorem oAt_dn (hd : e = true ∨ n < i) (h : ¬ (a = true ∧ i = n)) (hv : vs[i]? = some v) : oAt e n a vs r (i + 1) = oAt e n a vs r i ++ [v] := by
  unfold oAt
  cases e with
  | true => rw [if_pos rfl, if_pos rfl]; exact dropAt_ne h hv
  | false => rw [if_neg (by simp), if_neg (by simp)]; exact putAt_hi (by simpa using hd) hv
theorem oAt_sk (hd : e = true ∨ n < i) (ha : a = true) (hn : i = n) (hv : vs[i]? = some v) : oAt e n a vs r (i + 1) = oAt e n a vs r i := by
  have he : e = true := by rcases hd with h | h; exact h; omega
  subst hn; unfold oAt; rw [he, if_pos rfl, if_pos rfl, ha]; exact dropAt_eq hv
theorem oAt_past (hd : e = true ∨ n < i) (hl : vs.length = i) : oAt e n a vs r (i + 1) = oAt e n a vs r i := by
  unfold oAt
  cases e with
  | true =>
    rw [if_pos rfl, if_pos rfl]; unfold dropAt
    rw [List.take_of_length_le (show vs.length ≤ i + 1 by omega), List.take_of_length_le (show vs.length ≤ i by omega)]
    by_cases h : a = true ∧ n < i
    · rw [if_pos h, if_pos ⟨h.1, by omega⟩]
    · rw [if_neg h]
      by_cases h2 : a = true ∧ n < i + 1
      · rw [if_pos h2]
        have hni : n = i := by have := h2.2; have : ¬ n < i := fun h3 => h ⟨h2.1, h3⟩; omega
        rw [List.take_of_length_le (by omega), List.drop_of_length_le (by omega), List.append_nil]
      · rw [if_neg h2]
  | false =>
    have hn : n < i := by simpa using hd
    rw [if_neg (by simp), if_neg (by simp)]; unfold putAt
    rw [if_pos (by omega), if_pos hn, List.take_of_length_le (show vs.length ≤ i + 1 by omega), List.take_of_length_le (show vs.length ≤ i by omega)]
end
theorem oAt_0 {β : Type} {e a : Bool} {n : Nat} {vs : List β} {r : β} : oAt e n a vs r 0 = [] := by unfold oAt dropAt putAt; split <;> simp
theorem oAt_fin {β : Type} (p : Str) {ks : List Str} {t : Str} {vs : List β} {r : β} (hl : vs.length = ks.length) : oAt (decide (p = [])) (lb ltS ks t) (isAt ltS ks t) vs r (ks.length + 1) = if p = [] then dropV ltS ks t vs else putW ltS ks t vs r := by
  by_cases hp : p = []
  · rw [if_pos hp, oAt_past (by simp [hp]) hl, ← dropAt_end hl]; unfold oAt; rw [if_pos (by simp [hp])]
  · have hd : decide (p = []) = false := by simp [hp]
    have hlb := lb_le (lt := ltS) ks t
    rw [if_neg hp, ← putAt_end hl, hd]
    by_cases h : lb ltS ks t < ks.length
    · rw [if_pos h, oAt_past (.inr h) hl]; rfl
    · rw [if_neg h, oAt_end rfl hl (by omega)]; rfl
theorem dropV_self5 {κ : Type} [DecidableEq κ] {lt : κ → κ → Bool} (l : List κ) (x : κ) : dropV lt l x l = dropK lt l x := rfl
theorem putW_self5 {κ : Type} [DecidableEq κ] {lt : κ → κ → Bool} (l : List κ) (x : κ) : putW lt l x l x = putK lt l x := by
  unfold putW putK
  by_cases h : isAt lt l x = true
  · rw [if_pos h, if_pos h]
    have h2 : l[lb lt l x]? = some x := of_decide_eq_true h
    refine List.ext_getElem? fun j => ?_
    rw [List.getElem?_set]
    split
    · rename_i hj; subst hj; rw [h2, if_pos (List.getElem?_eq_some_iff.1 h2).1]
    · rfl
  · rw [if_neg h, if_neg h]
theorem kK_eq (ks : List Str) (t p : Str) : (if p = [] then dropV ltS ks t ks else putW ltS ks t ks t) = kK ks t p := by unfold kK; rw [dropV_self5, putW_self5]
theorem kY_fst (ks : List Str) (ys : List (Str × Int)) (ver : Int) (t p : Str) : (if p = [] then dropV ltS ks t (ys.map Prod.fst) else putW ltS ks t (ys.map Prod.fst) p) = (kY ks ys ver t p).map Prod.fst := by
  unfold kY; split
  · rw [dropV_map]
  · rw [← putW_map Prod.fst]
theorem kY_snd (ks : List Str) (ys : List (Str × Int)) (ver : Int) (t p : Str) : (if p = [] then dropV ltS ks t (ys.map Prod.snd) else putW ltS ks t (ys.map Prod.snd) (ver + 1)) = (kY ks ys ver t p).map Prod.snd := by
  unfold kY; split
  · rw [dropV_map]
  · rw [← putW_map Prod.snd]
-- (bellman/bellmanref15.Store).Get
set_option maxHeartbeats 800000 in
theorem rget15_ok (w : World) (ks : List Str) (ys : List (Str × Int)) (ver : Int) {v1 v2 v3 : Value} (hk : Sl Non w v1 1 (ks.map eS1)) (hp : Sl Non w v2 1 ((ys.map Prod.fst).map eS1)) (hv : Sl Non w v3 1 ((ys.map Prod.snd).map eI1)) (hle : ys.length = ks.length) (hord : Sorted ltS ks) (hn : ks.length ≤ 1000000) (t : Str) : Fn Tryd.prog 37 #[.agg #[v1, v2, v3, .int .i64 ver], Sv t] w fun u w' => u = .tuple #[Sv (kGet ks ys t).1, .int .i64 (kGet ks ys t).2, .bool (isAt ltS ks t)] := by
  obtain ⟨a, c, rfl, _⟩ := hk.len; obtain ⟨a2, c2, rfl, _⟩ := hp.len; obtain ⟨a3, c3, rfl, _⟩ := hv.len
  simp only [List.length_map] at hk hp hv ⊢
  have hX := Ext.refl Non w
  refine fn_of_W (args := [_, _]) Tryd.func37 rfl (by kernel_rfl) rfl ?_
  refine W_seq ?_
  refine W_region ?_
  refine wl_boxS rfl ?_; intro b2 w1 hb2 hE1 hB2
  have hq2 : w.heap.size ≤ b2 := Nat.le_trans hX.size hb2
  have hl2 : Mine Non w b2 := .inr hq2
  replace hX := hX.tr hE1
  refine wl_val (rn_assign (by conv => lhs; whnf)) ?_
  refine wl_val (rn_assign (by conv => lhs; whnf)) ?_
  refine wl_val (rn_assign (by conv => lhs; whnf)) ?_
  refine wl_nil ?_
  refine W_seq ?_
  refine W_seq ?_
  refine W_region ?_
  refine wl_val (rn_assign (by conv => lhs; whnf)) ?_
  refine wl_nil ?_
  refine W_block ?_   -- block 0
  refine W_loopS (S := Nat) [1, 2, 7] (fun i => [Sv t, .pointer (some ⟨b2, 0, none⟩), .int .i64 (i : Nat)]) (fun i A => (Ext Non w A) ∧ (IsBox A b2 [.slice a ks.length c, .slice a2 ys.length c2, .slice a3 ys.length c3, .int .i64 ver]) ∧ (Mine Non w b2) ∧ (i ≤ ks.length ∧ ¬ t ∈ ks.take i)) (fun i => ks.length - i) 0 ⟨rfl, rfl, rfl, trivial⟩ ⟨hX, hB2, hl2, ⟨Nat.zero_le _, by simp⟩⟩ ?_
  rintro τ0 i A0 ⟨hX, hB2, hl2, hI0⟩
  obtain ⟨hik, hno⟩ := hI0
  refine W_seq ?_
  refine W_seq ?_
  refine W_region ?_
  refine wl_val (rn_move (by conv => lhs; whnf)) ?_
  refine wl_val (rn_fieldAddr f_76_0 (by decide) rfl) ?_
  refine wl_val (rn_load1 p_68 rfl hB2 rfl) ?_
  refine wl_val (rn_len sl_68 rfl) ?_
  refine wl_val (rn_lss rfl rfl) ?_
  refine wl_nil ?_
  refine W_cond rfl (fun hc0 => ?_) (fun hc0 => ?_)
  · have hlt := of_decide_eq_true hc0; simp only [Int.ofNat_lt] at hlt
    obtain ⟨y, hi⟩ : ∃ y, (ks)[i]? = some y := ⟨_, List.getElem?_eq_getElem hlt⟩
    obtain ⟨z, hj⟩ : ∃ z, ys[i]? = some z := ⟨_, List.getElem?_eq_getElem (by omega)⟩
    obtain ⟨bb, oo, ea⟩ := hk.base (by intro e; have := congrArg List.length e; simp only [List.length_map, List.length_nil] at this; omega); subst ea
    obtain ⟨bb2, oo2, ea2⟩ := hp.base (by intro e; have := congrArg List.length e; simp only [List.length_map, List.length_nil] at this; omega); subst ea2
    obtain ⟨bb3, oo3, ea3⟩ := hv.base (by intro e; have := congrArg List.length e; simp only [List.length_map, List.length_nil] at this; omega); subst ea3
    refine W_skip ?_
    refine W_seq ?_
    refine W_block ?_   -- block 1
    refine W_seq ?_
    refine W_region ?_
    refine wl_val (rn_fieldAddr f_76_0 (by decide) rfl) ?_
    refine wl_val (rn_load1 p_68 rfl hB2 rfl) ?_
    refine wl_val (rn_move (by conv => lhs; whnf)) ?_
    refine wl_val (rn_indexAddr sl_68 rfl rfl (by omega)) ?_
    refine wl_val (rn_load p_9 rfl ((hk.ext hX (fun _ h => h)).at0 (eS_at hi) rfl)) ?_
    refine wl_val (rn_move (by conv => lhs; whnf)) ?_
    refine wl_val (rn_seql rfl rfl) ?_
    refine wl_nil ?_
    refine W_cond rfl (fun hc1 => ?_) (fun hc1 => ?_)
    · have hyx : y = t := of_decide_eq_true hc1
      subst hyx
      obtain ⟨ha, hgt⟩ := kGet_at5 hord hle hi hj
      refine W_seq ?_
      refine W_drawE mixed ?_; intro w2 hE2
      replace hX := hX.tr hE2
      replace hB2 := hB2.ext hE2 id
      have hS := Ext.refl Non w2
      refine wd_take 0 _ _ rfl (by kernel_rfl) hS (yd_do fun A hA => rn_fieldAddr f_76_1 (by decide) rfl) ?_
      refine wd_take 1 _ _ rfl (by kernel_rfl) hS (yd_do fun A hA => rn_load1 p_68 rfl (hB2.ext hA id) rfl) ?_
      refine wd_take 2 _ _ rfl (by kernel_rfl) hS (yd_do fun A hA => rn_move (by conv => lhs; whnf)) ?_
      refine wd_take 3 _ _ rfl (by kernel_rfl) hS (yd_do fun A hA => rn_indexAddr sl_68 rfl rfl (by omega)) ?_
      refine wd_take 4 _ _ rfl (by kernel_rfl) hS (yd_do fun A hA => rn_load p_9 rfl (((hp.ext hX (fun _ h => h)).ext hA (fun _ h => h.elim)).at0 (fst_at hj) rfl)) ?_
      refine wd_take 5 _ _ rfl (by kernel_rfl) hS (yd_do fun A hA => rn_fieldAddr f_76_2 (by decide) rfl) ?_
      refine wd_take 6 _ _ rfl (by kernel_rfl) hS (yd_do fun A hA => rn_load1 p_39 rfl (hB2.ext hA id) rfl) ?_
      refine wd_take 7 _ _ rfl (by kernel_rfl) hS (yd_do fun A hA => rn_move (by conv => lhs; whnf)) ?_
      refine wd_take 8 _ _ rfl (by kernel_rfl) hS (yd_do fun A hA => rn_indexAddr sl_39 rfl rfl (by omega)) ?_
      refine wd_take 9 _ _ rfl (by kernel_rfl) hS (yd_do fun A hA => rn_load p_3 rfl (((hv.ext hX (fun _ h => h)).ext hA (fun _ h => h.elim)).at0 (snd_at hj) rfl)) ?_
      refine wd_take 10 _ _ rfl (by kernel_rfl) hS (yd_do fun A hA => rn_assign (by conv => lhs; whnf)) ?_
      refine wd_take 11 _ _ rfl (by kernel_rfl) hS (yd_do fun A hA => rn_assign (by conv => lhs; whnf)) ?_
      refine wd_take 12 _ _ rfl (by kernel_rfl) hS (yd_do fun A hA => rn_assign (by conv => lhs; whnf)) ?_
      refine wd_done (by kernel_rfl) ?_ _
      replace hX := hX.tr hS
      replace hB2 := hB2.ext hS id
      refine W_ret ?_
      exact ⟨_, resR3 (res1_tmp rfl) (res1_tmp rfl) (res1_tmp rfl), hX, by rw [ha, hgt]; rfl⟩
    · have hyx : ¬ y = t := of_decide_eq_false hc1
      refine W_skip ?_
      refine W_region ?_
      refine wl_val (rn_move (by conv => lhs; whnf)) ?_
      refine wl_val (rn_add rfl rfl (by omega)) ?_
      refine wl_val (rn_assign (by conv => lhs; whnf)) ?_
      refine wl_nil ?_
      exact ⟨rfl, i + 1, ⟨rfl, rfl, rfl, trivial⟩, ⟨hX, hB2, hl2, ⟨hlt, by rw [List.take_add_one, hi]; simp only [Option.toList_some, List.mem_append, List.mem_singleton, not_or]; exact ⟨hno, fun e => hyx e.symm⟩⟩⟩, by omega⟩
  · have hge := of_decide_eq_false hc0; simp only [Int.ofNat_lt, Nat.not_lt] at hge
    rw [List.take_of_length_le hge] at hno
    have ha : isAt ltS ks t = false := by cases h : isAt ltS ks t; rfl; exact absurd ((isAt_iff lo_str hord t).1 h) hno
    refine W_exit ?_   -- exit 0
    refine W_seq ?_
    refine W_region ?_
    refine wl_val (rn_assign (by conv => lhs; whnf)) ?_
    refine wl_val (rn_assign (by conv => lhs; whnf)) ?_
    refine wl_val (rn_assign (by conv => lhs; whnf)) ?_
    refine wl_nil ?_
    refine W_ret ?_
    exact ⟨_, resR3 (res1_tmp rfl) (res1_tmp rfl) (res1_tmp rfl), hX, by rw [ha, kGet_no ha]; rfl⟩
-- (bellman/bellmanref15.Store).Scan
set_option maxHeartbeats 800000 in
theorem rscan15_ok (w : World) (ks : List Str) (ys : List (Str × Int)) (ver : Int) {v1 v2 v3 : Value} (hk : Sl Non w v1 1 (ks.map eS1)) (hp : Sl Non w v2 1 ((ys.map Prod.fst).map eS1)) (hv : Sl Non w v3 1 ((ys.map Prod.snd).map eI1)) (hle : ys.length = ks.length) (hord : Sorted ltS ks) (hn : ks.length ≤ 1000000) (f : Str) (hnf : f.length ≤ 1000000) (hkl : ∀ y ∈ ks, y.length ≤ 1000000) : Fn Tryd.prog 41 #[.agg #[v1, v2, v3, .int .i64 ver], Sv f] w fun u w' => Sl Non w' u 3 (((ks.zip ys).filter fun q => matchB f q.1).map eM1) := by
  obtain ⟨a, c, rfl, _⟩ := hk.len; obtain ⟨a2, c2, rfl, _⟩ := hp.len; obtain ⟨a3, c3, rfl, _⟩ := hv.len
  simp only [List.length_map] at hk hp hv ⊢
  have hX := Ext.refl Non w
  refine fn_of_W (args := [_, _]) Tryd.func41 rfl (by kernel_rfl) rfl ?_
  refine W_seq ?_
  refine W_region ?_
  refine wl_boxS rfl ?_; intro b2 w1 hb2 hE1 hB2
  have hq2 : w.heap.size ≤ b2 := Nat.le_trans hX.size hb2
  have hl2 : Mine Non w b2 := .inr hq2
  replace hX := hX.tr hE1
  refine wl_val (rn_assign (by conv => lhs; whnf)) ?_
  refine wl_nil ?_
  refine W_seq ?_
  refine W_region ?_
  refine wl_val (rn_assign (by conv => lhs; whnf)) ?_
  refine wl_nil ?_
  refine W_seq ?_
  refine W_seq ?_
  refine W_region ?_
  obtain ⟨wB, hwB⟩ : ∃ x, x = w1 := ⟨_, rfl⟩; have hBw : w.heap.size ≤ wB.heap.size := by rw [hwB]; exact hX.size
  have hzB : wB.heap.size ≤ w1.heap.size := by rw [hwB]; exact Nat.le_refl _
  have hlB2 : b2 < wB.heap.size := by rw [hwB]; exact hB2.lt
  refine wl_val (rn_assign (by conv => lhs; whnf)) ?_
  refine wl_nil ?_
  refine W_block ?_   -- block 0
  refine W_loopS (S := Nat × Value × Option Nat) [1, 2, 5, 6] (fun ⟨i, v, qo⟩ => [Sv f, .pointer (some ⟨b2, 0, none⟩), v, .int .i64 (i : Nat)]) (fun ⟨i, v, qo⟩ A => (Ext Non w A) ∧ (IsBox A b2 [.slice a ks.length c, .slice a2 ys.length c2, .slice a3 ys.length c3, .int .i64 ver]) ∧ (Mine Non w b2) ∧ ((wB.heap.size ≤ A.heap.size) ∧ i ≤ ks.length ∧ OwO A v qo 3 ((((ks.zip ys).take i).filter fun q => matchB f q.1).map eM1) ∧ (∀ j, qo = some j → wB.heap.size ≤ j))) (fun ⟨i, v, qo⟩ => ks.length - i) (0, .slice none 0 0, none) ⟨rfl, rfl, rfl, rfl, trivial⟩ ⟨hX, hB2, hl2, ⟨hzB, Nat.zero_le _, by simpa using OwO.nil, by simp⟩⟩ ?_
  rintro τ0 ⟨i, v, qo⟩ A0 ⟨hX, hB2, hl2, hI0⟩
  obtain ⟨hzB, hik, hO, ho⟩ := hI0
  obtain ⟨av, cv, hvv⟩ := id hO.len; subst hvv
  refine W_seq ?_
  refine W_seq ?_
  refine W_region ?_
  refine wl_val (rn_move (by conv => lhs; whnf)) ?_
  refine wl_val (rn_fieldAddr f_76_0 (by decide) rfl) ?_
  refine wl_val (rn_load1 p_68 rfl hB2 rfl) ?_
  refine wl_val (rn_len sl_68 rfl) ?_
  refine wl_val (rn_lss rfl rfl) ?_
  refine wl_nil ?_
  refine W_cond rfl (fun hc0 => ?_) (fun hc0 => ?_)
  · have hlt := of_decide_eq_true hc0; simp only [Int.ofNat_lt] at hlt
    obtain ⟨y, hi⟩ : ∃ y, (ks)[i]? = some y := ⟨_, List.getElem?_eq_getElem hlt⟩
    obtain ⟨z, hj⟩ : ∃ z, ys[i]? = some z := ⟨_, List.getElem?_eq_getElem (by omega)⟩
    obtain ⟨bb, oo, ea⟩ := hk.base (by intro e; have := congrArg List.length e; simp only [List.length_map, List.length_nil] at this; omega); subst ea
    obtain ⟨bb2, oo2, ea2⟩ := hp.base (by intro e; have := congrArg List.length e; simp only [List.length_map, List.length_nil] at this; omega); subst ea2
    obtain ⟨bb3, oo3, ea3⟩ := hv.base (by intro e; have := congrArg List.length e; simp only [List.length_map, List.length_nil] at this; omega); subst ea3
    have hyl := hkl y (List.mem_of_getElem? hi)
    have htk := zip_at5 hi hj
    have hfl : (((ks.zip ys).take i).filter fun q => matchB f q.1).length ≤ i := Nat.le_trans (List.length_filter_le _ _) (by rw [List.length_take]; omega)
    refine W_skip ?_
    refine W_seq ?_
    refine W_block ?_   -- block 1
    refine W_seq ?_
    refine W_region ?_
    refine wl_val (rn_move (by conv => lhs; whnf)) ?_
    refine wl_val (rn_fieldAddr f_76_0 (by decide) rfl) ?_
    refine wl_val (rn_load1 p_68 rfl hB2 rfl) ?_
    refine wl_val (rn_move (by conv => lhs; whnf)) ?_
    refine wl_val (rn_indexAddr sl_68 rfl rfl (by omega)) ?_
    refine wl_val (rn_load p_9 rfl ((hk.ext hX (fun _ h => h)).at0 (eS_at hi) rfl)) ?_
    refine wl_call e_86 rfl (rmatch_ok A0 f y hnf hyl) ?_; intro v20 w2 hE2 hR2
    replace hX := hX.tr hE2
    replace hB2 := hB2.ext hE2 id
    replace hO := hO.ext hE2 (fun _ _ h => h)
    replace hzB := Nat.le_trans hzB hE2.size
    subst hR2
    refine wl_nil ?_
    refine W_cond rfl (fun hc1 => ?_) (fun hc1 => ?_)
    · refine W_drawX (fun j => j == 13 || j == 14) mixed ?_; intro w3 hE3
      replace hX := hX.tr hE3
      replace hB2 := hB2.ext hE3 id
      replace hO := hO.ext hE3 (fun _ _ h => h)
      replace hzB := Nat.le_trans hzB hE3.size
      have hS := Ext.refl Non w3
      refine wx_take 0 [13, 14] _ _ rfl (by kernel_rfl) hS (yd_do fun A hA => rn_move (by conv => lhs; whnf)) ?_
      refine wx_take 1 [2, 4, 5, 11, 12, 13, 14] _ _ rfl (by kernel_rfl) hS (yd_do fun A hA => rn_fieldAddr f_76_0 (by decide) rfl) ?_
      refine wx_take 2 [4, 5, 11, 12, 13, 14] _ _ rfl (by kernel_rfl) hS (yd_do fun A hA => rn_load1 p_68 rfl (hB2.ext hA id) rfl) ?_
      refine wx_take 3 [4, 5, 11, 12, 13, 14] _ _ rfl (by kernel_rfl) hS (yd_do fun A hA => rn_move (by conv => lhs; whnf)) ?_
      refine wx_take 4 [5, 11, 12, 13, 14] _ _ rfl (by kernel_rfl) hS (yd_do fun A hA => rn_indexAddr sl_68 rfl rfl (by omega)) ?_
      refine wx_take 5 [11, 12, 13, 14] _ _ rfl (by kernel_rfl) hS (yd_do fun A hA => rn_load p_9 rfl (((hk.ext hX (fun _ h => h)).ext hA (fun _ h => h.elim)).at0 (eS_at hi) rfl)) ?_
      refine wx_take 6 [7, 9, 10, 11, 12, 13, 14] _ _ rfl (by kernel_rfl) hS (yd_do fun A hA => rn_fieldAddr f_76_1 (by decide) rfl) ?_
      refine wx_take 7 [9, 10, 11, 12, 13, 14] _ _ rfl (by kernel_rfl) hS (yd_do fun A hA => rn_load1 p_68 rfl (hB2.ext hA id) rfl) ?_
      refine wx_take 8 [9, 10, 11, 12, 13, 14] _ _ rfl (by kernel_rfl) hS (yd_do fun A hA => rn_move (by conv => lhs; whnf)) ?_
      refine wx_take 9 [10, 11, 12, 13, 14] _ _ rfl (by kernel_rfl) hS (yd_do fun A hA => rn_indexAddr sl_68 rfl rfl (by omega)) ?_
      refine wx_take 10 [11, 12, 13, 14] _ _ rfl (by kernel_rfl) hS (yd_do fun A hA => rn_load p_9 rfl (((hp.ext hX (fun _ h => h)).ext hA (fun _ h => h.elim)).at0 (fst_at hj) rfl)) ?_
      refine wx_take 11 [12, 13, 14] _ _ rfl (by kernel_rfl) hS (yd_do fun A hA => rn_build' b_32 rfl rfl (cs := _) rfl) ?_
      refine wx_only 12 _ rfl (by kernel_rfl) ?_
      refine s1_do ?_
      refine wl_lit1 (r := eM1 (y, z)) sl_81 rfl rfl rfl rfl (by decide) ?_; intro v33 w4 b33 hb33 hE4 hO33
      replace hS := hS.tr hE4
      refine wl_nil ⟨fun _ => hS, ?_⟩
      replace hX := hX.tr hS
      replace hB2 := hB2.ext hS id
      replace hO := hO.ext hS (fun _ _ h => h)
      replace hzB := Nat.le_trans hzB hS.size
      refine wx_only 13 _ rfl (by kernel_rfl) ?_
      refine s1_do ?_
      refine wl_app sl_81 rfl rfl rfl hO (hO33.sl (M := Non) id) (fun r hr => by simp only [List.mem_singleton] at hr; subst hr; exact three1 rfl rfl rfl) (by simp only [List.length_map, List.length_append, List.length_cons, List.length_nil]; omega) (by simp only [List.length_map, List.length_append, List.length_cons, List.length_nil, big]; omega) ?_; intro v34 w5 o34 hE5 hO34 hf34
      obtain ⟨a34, c34, hv34⟩ := id hO34.len; subst hv34
      have ho34 : ∀ i, o34 = some i → wB.heap.size ≤ i := fun j hj => by rcases hf34 j hj with h | h; exact ho j h; omega
      replace hX := hX.mineO hE5 (fun i hi => .inr (Nat.le_trans hBw (ho i hi)))
      replace hzB := Nat.le_trans hzB hE5.size
      replace hB2 := hB2.ext hE5 (fun e => by have := ho _ e; omega)
      refine wl_nil ⟨fun h => absurd h (by decide), ?_⟩
      refine wx_only 14 _ rfl (by kernel_rfl) ?_
      refine s1_do ?_
      refine wl_val (rn_assign (by conv => lhs; whnf)) ?_
      refine wl_nil ⟨fun h => absurd h (by decide), ?_⟩
      refine wx_done (by kernel_rfl) ?_ _
      refine W_region ?_
      refine wl_val (rn_move (by conv => lhs; whnf)) ?_
      refine wl_val (rn_add rfl rfl (by omega)) ?_
      refine wl_val (rn_assign (by conv => lhs; whnf)) ?_
      refine wl_nil ?_
      exact ⟨rfl, (i + 1, _, o34), ⟨rfl, rfl, rfl, rfl, trivial⟩, ⟨hX, hB2, hl2, ⟨hzB, hlt, by rw [htk, List.filter_append, List.filter_cons_of_pos (by exact hc1), List.filter_nil, List.map_append]; exact hO34, ho34⟩⟩, by show ks.length - (i + 1) < ks.length - i; omega⟩
    · refine W_skip ?_
      refine W_region ?_
      refine wl_val (rn_move (by conv => lhs; whnf)) ?_
      refine wl_val (rn_add rfl rfl (by omega)) ?_
      refine wl_val (rn_assign (by conv => lhs; whnf)) ?_
      refine wl_nil ?_
      exact ⟨rfl, (i + 1, _, qo), ⟨rfl, rfl, rfl, rfl, trivial⟩, ⟨hX, hB2, hl2, ⟨hzB, hlt, by rw [htk, List.filter_append, List.filter_cons_of_neg (by rw [hc1]; simp), List.filter_nil, List.append_nil]; exact hO, ho⟩⟩, by show ks.length - (i + 1) < ks.length - i; omega⟩
  · have hge := of_decide_eq_false hc0; simp only [Int.ofNat_lt, Nat.not_lt] at hge
    have hfin : (((ks.zip ys).take i).filter fun q => matchB f q.1) = ((ks.zip ys).filter fun q => matchB f q.1) := by rw [List.take_of_length_le (by rw [List.length_zip]; omega)]
    refine W_exit ?_   -- exit 0
    refine W_seq ?_
    refine W_region ?_
    refine wl_val (rn_move (by conv => lhs; whnf)) ?_
    refine wl_val (rn_assign (by conv => lhs; whnf)) ?_
    refine wl_nil ?_
    refine W_ret ?_
    exact ⟨_, resR1 (res1_tmp rfl), hX, by rw [← hfin]; exact hO.sl (M := Non) (fun i hi => id)⟩
-- (bellman/bellmanref15.Store).Put
set_option maxHeartbeats 8000000 in
theorem rput15_ok (w : World) (ks : List Str) (ys : List (Str × Int)) (ver : Int) {v1 v2 v3 : Value} (M : Nat → Prop) (hM : ∀ i, M i → i < w.heap.size) (hkM : Sl M w v1 1 (ks.map eS1)) (hpM : Sl M w v2 1 ((ys.map Prod.fst).map eS1)) (hvM : Sl M w v3 1 ((ys.map Prod.snd).map eI1)) (hle : ys.length = ks.length) (hord : Sorted ltS ks) (hn : ks.length ≤ 1000000) (t p : Str) (hnt : t.length ≤ 1000000) (hkl : ∀ y ∈ ks, y.length ≤ 1000000) (hv0 : 0 ≤ ver ∧ ver ≤ 1000000) : Fn Tryd.prog 34 #[.agg #[v1, v2, v3, .int .i64 ver], Sv t, Sv p] w fun u w' => ∃ x1 x2 x3, u = .tuple #[.agg #[x1, x2, x3, .int .i64 (if kErr t p = 0 then ver + 1 else ver)], .int .i64 (kErr t p)] ∧ Sl M w' x1 1 ((if kErr t p = 0 then kK ks t p else ks).map eS1) ∧ Sl M w' x2 1 (((if kErr t p = 0 then kY ks ys ver t p else ys).map Prod.fst).map eS1) ∧ Sl M w' x3 1 (((if kErr t p = 0 then kY ks ys ver t p else ys).map Prod.snd).map eI1) := by
  have hk := hkM.sub (M' := Non) (fun _ h _ => h.elim); have hp := hpM.sub (M' := Non) (fun _ h _ => h.elim); have hv := hvM.sub (M' := Non) (fun _ h _ => h.elim)
  obtain ⟨a, c, rfl, _⟩ := hk.len; obtain ⟨a2, c2, rfl, _⟩ := hp.len; obtain ⟨a3, c3, rfl, _⟩ := hv.len
  simp only [List.length_map] at hk hp hv hkM hpM hvM ⊢
  have hlb := lb_le (lt := ltS) ks t
  have hX := Ext.refl Non w
  refine fn_of_W (args := [_, _, _]) Tryd.func34 rfl (by kernel_rfl) rfl ?_
  refine W_seq ?_
  refine W_region ?_
  refine wl_boxS rfl ?_; intro b3 w1 hb3 hE1 hB3
  have hq3 : w.heap.size ≤ b3 := Nat.le_trans hX.size hb3
  have hl3 : Mine Non w b3 := .inr hq3
  replace hX := hX.tr hE1
  refine wl_alloc z_76 ?_; intro b6 w2 hb6 hE2 hB6
  have hn3_6 : b3 < b6 := Nat.lt_of_lt_of_le hB3.lt hb6
  have hq6 : w.heap.size ≤ b6 := Nat.le_trans hX.size hb6
  have hl6 : Mine Non w b6 := .inr hq6
  replace hX := hX.tr hE2
  replace hB3 := hB3.ext hE2 id
  refine wl_val (rn_assign (by conv => lhs; whnf)) ?_
  refine wl_nil ?_
  refine W_seq ?_
  refine W_seq ?_
  refine W_region ?_
  refine wl_val (rn_move (by conv => lhs; whnf)) ?_
  refine wl_call e_81 rfl (rtopic_any w2 t) ?_; intro v12 w3 hE3 hR3
  replace hX := hX.tr hE3
  replace hB3 := hB3.ext hE3 id; replace hB6 := hB6.ext hE3 id
  subst hR3
  refine wl_val (rn_not rfl) ?_
  refine wl_nil ?_
  refine W_cond rfl (fun hc0 => ?_) (fun hc0 => ?_)
  · have he0 : kErr t p = 2 := by unfold kErr; rw [if_pos (by simpa using hc0)]
    refine W_seq ?_
    refine W_region ?_
    refine wl_val (rn_loadB s_76 rfl rfl hB3) ?_
    refine wl_storeB s_76 rfl rfl rfl (by intro x hx; simp only [List.mem_cons, List.not_mem_nil, or_false] at hx; rcases hx with rfl | rfl | rfl | rfl <;> rfl) hB6 rfl ?_; intro w4 hE4 hB6 hz4
    replace hX := hX.mine hE4 hl6
    replace hB3 := hB3.ext hE4 (fun h => by omega)
    refine wl_val (rn_assign (by conv => lhs; whnf)) ?_
    refine wl_nil ?_
    refine W_ret ?_
    exact ⟨_, resR2 (res1_box s_76 rfl hB6 rfl) (res1_tmp rfl), hX, ⟨_, _, _, by rw [he0]; rfl, by rw [he0]; exact hkM.ext hX (fun _ h => h.elim), by rw [he0]; exact hpM.ext hX (fun _ h => h.elim), by rw [he0]; exact hvM.ext hX (fun _ h => h.elim)⟩⟩
  · have ht : topicB t = true := by simpa using hc0
    refine W_skip ?_
    refine W_seq ?_
    refine W_seq ?_
    refine W_region ?_
    refine wl_val (rn_move (by conv => lhs; whnf)) ?_
    refine wl_val (rn_slen us_9 rfl) ?_
    refine wl_val (rn_gtr rfl rfl) ?_
    refine wl_nil ?_
    refine W_cond rfl (fun hc1 => ?_) (fun hc1 => ?_)
    · have he0 : kErr t p = 1 := by unfold kErr; rw [if_neg (by rw [ht]; simp), if_pos (by have := of_decide_eq_true hc1; omega)]
      refine W_seq ?_
      refine W_region ?_
      refine wl_val (rn_loadB s_76 rfl rfl hB3) ?_
      refine wl_storeB s_76 rfl rfl rfl (by intro x hx; simp only [List.mem_cons, List.not_mem_nil, or_false] at hx; rcases hx with rfl | rfl | rfl | rfl <;> rfl) hB6 rfl ?_; intro w5 hE5 hB6 hz5
      replace hX := hX.mine hE5 hl6
      replace hB3 := hB3.ext hE5 (fun h => by omega)
      refine wl_val (rn_assign (by conv => lhs; whnf)) ?_
      refine wl_nil ?_
      refine W_ret ?_
      exact ⟨_, resR2 (res1_box s_76 rfl hB6 rfl) (res1_tmp rfl), hX, ⟨_, _, _, by rw [he0]; rfl, by rw [he0]; exact hkM.ext hX (fun _ h => h.elim), by rw [he0]; exact hpM.ext hX (fun _ h => h.elim), by rw [he0]; exact hvM.ext hX (fun _ h => h.elim)⟩⟩
    · have he0 : kErr t p = 0 := by unfold kErr; rw [if_neg (by rw [ht]; simp), if_neg (by have := of_decide_eq_false hc1; omega)]
      have hpl16 : p.length ≤ 16 := by have := of_decide_eq_false hc1; omega
      refine W_skip ?_
      refine W_seq ?_
      refine W_region ?_
      refine wl_val (rn_fieldAddr f_76_3 (by decide) rfl) ?_
      refine wl_val (rn_load1 p_3 rfl hB3 rfl) ?_
      refine wl_val (rn_add rfl rfl (by omega)) ?_
      refine wl_val (rn_build' b_76 rfl rfl (cs := [.slice none 0 0, .slice none 0 0, .slice none 0 0, .int .i64 (ver + 1)]) rfl) ?_
      refine wl_alloc z_76 ?_; intro b8 w6 hb8 hE6 hB8
      have hn3_8 : b3 < b8 := Nat.lt_of_lt_of_le hB3.lt hb8
      have hn6_8 : b6 < b8 := Nat.lt_of_lt_of_le hB6.lt hb8
      have hq8 : w.heap.size ≤ b8 := Nat.le_trans hX.size hb8
      have hl8 : Mine Non w b8 := .inr hq8
      replace hX := hX.tr hE6
      replace hB3 := hB3.ext hE6 id; replace hB6 := hB6.ext hE6 id
      refine wl_storeB s_76 rfl rfl rfl (by intro x hx; simp only [List.mem_cons, List.not_mem_nil, or_false] at hx; rcases hx with rfl | rfl | rfl | rfl <;> rfl) hB8 rfl ?_; intro w7 hE7 hB8 hz7
      replace hX := hX.mine hE7 hl8
      replace hB3 := hB3.ext hE7 (fun h => by omega); replace hB6 := hB6.ext hE7 (fun h => by omega)
      refine wl_nil ?_
      refine W_seq ?_
      refine W_region ?_
      refine wl_val (rn_move (by conv => lhs; whnf)) ?_
      refine wl_val (rn_seql rfl rfl) ?_
      refine wl_val (rn_assign (by conv => lhs; whnf)) ?_
      refine wl_nil ?_
      refine W_seq ?_
      refine W_seq ?_
      refine W_region ?_
      obtain ⟨wB, hwB⟩ : ∃ x, x = w7 := ⟨_, rfl⟩; have hBw : w.heap.size ≤ wB.heap.size := by rw [hwB]; exact hX.size
      have hzB : wB.heap.size ≤ w7.heap.size := by rw [hwB]; exact Nat.le_refl _
      have hlB3 : b3 < wB.heap.size := by rw [hwB]; exact hB3.lt
      have hlB6 : b6 < wB.heap.size := by rw [hwB]; exact hB6.lt
      have hlB8 : b8 < wB.heap.size := by rw [hwB]; exact hB8.lt
      refine wl_val (rn_assign (by conv => lhs; whnf)) ?_
      refine wl_nil ?_
      refine W_block ?_   -- block 0
      refine W_loopS (S := Nat × Value × Value × Value × Option Nat × Option Nat × Option Nat) [1, 2, 3, 6, 8, 9, 10] (fun ⟨i, kv, pv, vv, qk, qp, qv⟩ => [Sv t, Sv p, .pointer (some ⟨b3, 0, none⟩), .pointer (some ⟨b6, 0, none⟩), .pointer (some ⟨b8, 0, none⟩), .bool (decide (p = []) || decide (lb ltS ks t < i)), .int .i64 (i : Nat)]) (fun ⟨i, kv, pv, vv, qk, qp, qv⟩ A => (Ext Non w A) ∧ (IsBox A b3 [.slice a ks.length c, .slice a2 ys.length c2, .slice a3 ys.length c3, .int .i64 ver]) ∧ (IsBox A b6 [.slice none 0 0, .slice none 0 0, .slice none 0 0, .int .i64 0]) ∧ (IsBox A b8 [kv, pv, vv, .int .i64 (ver + 1)]) ∧ (Mine Non w b3) ∧ (Mine Non w b6) ∧ (Mine Non w b8) ∧ (b3 < b6) ∧ (b3 < b8) ∧ (b6 < b8) ∧ ((wB.heap.size ≤ A.heap.size) ∧ i ≤ ks.length + 1 ∧ OwO A kv qk 1 ((oAt (decide (p = [])) (lb ltS ks t) (isAt ltS ks t) ks t i).map eS1) ∧ OwO A pv qp 1 ((oAt (decide (p = [])) (lb ltS ks t) (isAt ltS ks t) (ys.map Prod.fst) p i).map eS1) ∧ OwO A vv qv 1 ((oAt (decide (p = [])) (lb ltS ks t) (isAt ltS ks t) (ys.map Prod.snd) (ver + 1) i).map eI1) ∧ (∀ j, qk = some j → wB.heap.size ≤ j) ∧ (∀ j, qp = some j → wB.heap.size ≤ j) ∧ (∀ j, qv = some j → wB.heap.size ≤ j) ∧ (∀ j, qk = some j → qp ≠ some j) ∧ (∀ j, qk = some j → qv ≠ some j) ∧ (∀ j, qp = some j → qv ≠ some j))) (fun ⟨i, kv, pv, vv, qk, qp, qv⟩ => ks.length + 1 - i) (0, .slice none 0 0, .slice none 0 0, .slice none 0 0, none, none, none) ⟨rfl, rfl, rfl, rfl, rfl, (congrArg Value.bool (show decide (p = []) = (decide (p = []) || decide (lb ltS ks t < 0)) by simp)), rfl, trivial⟩ ⟨hX, hB3, hB6, hB8, hl3, hl6, hl8, hn3_6, hn3_8, hn6_8, ⟨hzB, Nat.zero_le _, by rw [oAt_0]; exact OwO.nil, by rw [oAt_0]; exact OwO.nil, by rw [oAt_0]; exact OwO.nil, by simp, by simp, by simp, by simp, by simp, by simp⟩⟩ ?_
      rintro τ0 ⟨i, kv, pv, vv, qk, qp, qv⟩ A0 ⟨hX, hB3, hB6, hB8, hl3, hl6, hl8, hn3_6, hn3_8, hn6_8, hI0⟩
      obtain ⟨hzB, hik, hO, hP, hV, hoK, hoP, hoV, dKP, dKV, dPV⟩ := hI0
      obtain ⟨avk, cvk, hvk⟩ := id hO.len; subst hvk; obtain ⟨avp, cvp, hvp⟩ := id hP.len; subst hvp; obtain ⟨avv, cvv, hvvv⟩ := id hV.len; subst hvvv
      have hpl1 := oAt_len (e := decide (p = [])) (n := lb ltS ks t) (a := isAt ltS ks t) (vs := ks) (r := t) (i := i)
      have hpl2 := oAt_len (e := decide (p = [])) (n := lb ltS ks t) (a := isAt ltS ks t) (vs := ys.map Prod.fst) (r := p) (i := i)
      have hpl3 := oAt_len (e := decide (p = [])) (n := lb ltS ks t) (a := isAt ltS ks t) (vs := ys.map Prod.snd) (r := ver + 1) (i := i)
      refine W_seq ?_
      refine W_seq ?_
      refine W_region ?_
      refine wl_val (rn_move (by conv => lhs; whnf)) ?_
      refine wl_val (rn_fieldAddr f_76_0 (by decide) rfl) ?_
      refine wl_val (rn_load1 p_68 rfl hB3 rfl) ?_
      refine wl_val (rn_len sl_68 rfl) ?_
      refine wl_val (rn_leq rfl rfl) ?_
      refine wl_nil ?_
      refine W_cond rfl (fun hc2 => ?_) (fun hc2 => ?_)
      · have hil := of_decide_eq_true hc2
        refine W_skip ?_
        refine W_seq ?_
        refine W_block ?_   -- block 1
        refine W_seq ?_
        refine W_seq ?_
        refine W_region ?_
        refine wl_val (rn_move (by conv => lhs; whnf)) ?_
        refine wl_val (rn_not rfl) ?_
        refine wl_val (rn_move (by conv => lhs; whnf)) ?_
        refine wl_split (d := 34) rfl (fun hg34 => ?_) (fun hg34 => ?_)
        · obtain ⟨hpe, hnd⟩ : ¬ p = [] ∧ ¬ lb ltS ks t < i := by simpa using hg34
          have he : decide (p = []) = false := by simp [hpe]
          refine wl_yes rfl (congrArg Value.bool hg34) ?_
          refine wl_val (rn_move (by conv => lhs; whnf)) ?_
          refine wl_yes rfl (congrArg Value.bool hg34) ?_
          refine wl_val (rn_fieldAddr f_76_0 (by decide) rfl) ?_
          refine wl_yes rfl (congrArg Value.bool hg34) ?_
          refine wl_val (rn_load1 p_68 rfl hB3 rfl) ?_
          refine wl_yes rfl (congrArg Value.bool hg34) ?_
          refine wl_val (rn_len sl_68 rfl) ?_
          refine wl_yes rfl (congrArg Value.bool hg34) ?_
          refine wl_val (rn_eql rfl rfl) ?_
          refine wl_yes rfl (congrArg Value.bool hg34) ?_
          refine wl_val (rn_move (by conv => lhs; whnf)) ?_
          refine wl_split (d := 40) rfl (fun hg40 => ?_) (fun hg40 => ?_)
          · have hie : i = ks.length := by have := of_decide_eq_true hg40; omega
            have hin : i = lb ltS ks t := by omega
            refine wl_no rfl (congrArg Value.bool hg40) ?_
            refine wl_no rfl (congrArg Value.bool hg40) ?_
            refine wl_no rfl (congrArg Value.bool hg40) ?_
            refine wl_no rfl (congrArg Value.bool hg40) ?_
            refine wl_no rfl (congrArg Value.bool hg40) ?_
            refine wl_no rfl (congrArg Value.bool hg40) ?_
            refine wl_no rfl (congrArg Value.bool hg40) ?_
            refine wl_no rfl (congrArg Value.bool hg40) ?_
            refine wl_yes rfl (congrArg Value.bool hg34) ?_
            refine wl_val (rn_pickT (congrArg Value.bool hg40) (by conv => lhs; whnf)) ?_
            refine wl_val (rn_pickT (congrArg Value.bool hg34) (by conv => lhs; whnf)) ?_
            refine wl_nil ?_
            refine W_condT rfl ?_
            refine W_seq ?_
            refine W_region ?_
            refine wl_val (rn_fieldAddr f_76_0 (by decide) rfl) ?_
            refine wl_val (rn_load1 p_68 rfl hB8 rfl) ?_
            refine wl_val (rn_move (by conv => lhs; whnf)) ?_
            refine wl_lit1 (r := eS1 t) sl_68 rfl rfl rfl rfl (by decide) ?_; intro v54 w8 b54 hb54 hE8 hO54
            replace hX := hX.tr hE8
            replace hB3 := hB3.ext hE8 id; replace hB6 := hB6.ext hE8 id; replace hB8 := hB8.ext hE8 id
            replace hO := hO.ext hE8 (fun _ _ h => h)
            replace hP := hP.ext hE8 (fun _ _ h => h)
            replace hV := hV.ext hE8 (fun _ _ h => h)
            replace hzB := Nat.le_trans hzB hE8.size
            have hUo0 := hP
            have hUo1 := hV
            refine wl_app sl_68 rfl rfl rfl hO (hO54.sl (M := Non) id) (fun r hr => by simp only [List.mem_singleton] at hr; subst hr; exact one1 rfl) (by simp only [List.length_map, List.length_append, List.length_cons, List.length_nil]; omega) (by simp only [List.length_map, List.length_append, List.length_cons, List.length_nil, big]; omega) ?_; intro v55 w9 o55 hE9 hO55 hf55
            obtain ⟨a55, c55, hv55⟩ := id hO55.len; subst hv55
            have ho55 : ∀ i, o55 = some i → wB.heap.size ≤ i := fun j hj => by rcases hf55 j hj with h | h; exact hoK j h; omega
            have dKP55 : ∀ j, o55 = some j → qp ≠ some j := fun j hj e => by rcases hf55 j hj with h | h; exact dKP j h e; have := hUo0.lt e; omega
            have dKV55 : ∀ j, o55 = some j → qv ≠ some j := fun j hj e => by rcases hf55 j hj with h | h; exact dKV j h e; have := hUo1.lt e; omega
            replace hX := hX.mineO hE9 (fun i hi => .inr (Nat.le_trans hBw (hoK i hi)))
            replace hzB := Nat.le_trans hzB hE9.size
            replace hP := hP.ext hE9 (fun i hi e => dKP i e hi)
            replace hV := hV.ext hE9 (fun i hi e => dKV i e hi)
            replace hB3 := hB3.ext hE9 (fun e => by have := hoK _ e; omega)
            replace hB6 := hB6.ext hE9 (fun e => by have := hoK _ e; omega)
            replace hB8 := hB8.ext hE9 (fun e => by have := hoK _ e; omega)
            refine wl_val (rn_fieldAddr f_76_0 (by decide) rfl) ?_
            have hBo := hB8
            refine wl_store1 (b := b8) p_68 rfl (by conv => lhs; whnf) rfl rfl hB8 (Nat.le_of_ble_eq_true rfl) ?_; intro w10 hE10 hB8 hz10
            replace hX := hX.mine hE10 hl8
            replace hB3 := hB3.ext hE10 (fun h => by omega); replace hB6 := hB6.ext hE10 (fun h => by omega)
            replace hP := hP.ext hE10 (fun i hi e => by have := hoP _ hi; omega)
            replace hV := hV.ext hE10 (fun i hi e => by have := hoV _ hi; omega)
            replace hzB := Nat.le_trans hzB hE10.size
            replace hO55 := hO55.ext hE10 (fun i hi e => by have := ho55 _ hi; omega)
            refine wl_nil ?_
            refine W_seq ?_
            refine W_region ?_
            refine wl_val (rn_fieldAddr f_76_1 (by decide) rfl) ?_
            refine wl_val (rn_load1 p_68 rfl hB8 rfl) ?_
            refine wl_val (rn_move (by conv => lhs; whnf)) ?_
            refine wl_lit1 (r := eS1 p) sl_68 rfl rfl rfl rfl (by decide) ?_; intro v60 w11 b60 hb60 hE11 hO60
            replace hX := hX.tr hE11
            replace hB3 := hB3.ext hE11 id; replace hB6 := hB6.ext hE11 id; replace hB8 := hB8.ext hE11 id
            replace hP := hP.ext hE11 (fun _ _ h => h)
            replace hV := hV.ext hE11 (fun _ _ h => h)
            replace hzB := Nat.le_trans hzB hE11.size
            replace hO55 := hO55.ext hE11 (fun _ _ h => h)
            have hUo0 := hO55
            have hUo1 := hV
            refine wl_app sl_68 rfl rfl rfl hP (hO60.sl (M := Non) id) (fun r hr => by simp only [List.mem_singleton] at hr; subst hr; exact one1 rfl) (by simp only [List.length_map, List.length_append, List.length_cons, List.length_nil]; omega) (by simp only [List.length_map, List.length_append, List.length_cons, List.length_nil, big]; omega) ?_; intro v61 w12 o61 hE12 hO61 hf61
            obtain ⟨a61, c61, hv61⟩ := id hO61.len; subst hv61
            have ho61 : ∀ i, o61 = some i → wB.heap.size ≤ i := fun j hj => by rcases hf61 j hj with h | h; exact hoP j h; omega
            have dKP61 : ∀ j, o55 = some j → o61 ≠ some j := fun j hj e => by rcases hf61 j e with h | h; exact dKP55 j hj h; have := hUo0.lt hj; omega
            have dPV61 : ∀ j, o61 = some j → qv ≠ some j := fun j hj e => by rcases hf61 j hj with h | h; exact dPV j h e; have := hUo1.lt e; omega
            replace hX := hX.mineO hE12 (fun i hi => .inr (Nat.le_trans hBw (hoP i hi)))
            replace hzB := Nat.le_trans hzB hE12.size
            replace hO55 := hO55.ext hE12 (fun i hi e => dKP55 i hi e)
            replace hV := hV.ext hE12 (fun i hi e => dPV i e hi)
            replace hB3 := hB3.ext hE12 (fun e => by have := hoP _ e; omega)
            replace hB6 := hB6.ext hE12 (fun e => by have := hoP _ e; omega)
            replace hB8 := hB8.ext hE12 (fun e => by have := hoP _ e; omega)
            refine wl_val (rn_fieldAddr f_76_1 (by decide) rfl) ?_
            have hBo := hB8
            refine wl_store1 (b := b8) p_68 rfl (by conv => lhs; whnf) rfl rfl hB8 (Nat.le_of_ble_eq_true rfl) ?_; intro w13 hE13 hB8 hz13
            replace hX := hX.mine hE13 hl8
            replace hB3 := hB3.ext hE13 (fun h => by omega); replace hB6 := hB6.ext hE13 (fun h => by omega)
            replace hV := hV.ext hE13 (fun i hi e => by have := hoV _ hi; omega)
            replace hzB := Nat.le_trans hzB hE13.size
            replace hO55 := hO55.ext hE13 (fun i hi e => by have := ho55 _ hi; omega)
            replace hO61 := hO61.ext hE13 (fun i hi e => by have := ho61 _ hi; omega)
            refine wl_nil ?_
            refine W_seq ?_
            refine W_region ?_
            refine wl_val (rn_fieldAddr f_76_2 (by decide) rfl) ?_
            refine wl_val (rn_load1 p_39 rfl hB8 rfl) ?_
            refine wl_val (rn_fieldAddr f_76_3 (by decide) rfl) ?_
            refine wl_val (rn_load1 p_3 rfl hB8 rfl) ?_
            refine wl_lit1 (r := eI1 (ver + 1)) sl_39 rfl rfl rfl rfl (by decide) ?_; intro v67 w14 b67 hb67 hE14 hO67
            replace hX := hX.tr hE14
            replace hB3 := hB3.ext hE14 id; replace hB6 := hB6.ext hE14 id; replace hB8 := hB8.ext hE14 id
            replace hV := hV.ext hE14 (fun _ _ h => h)
            replace hzB := Nat.le_trans hzB hE14.size
            replace hO55 := hO55.ext hE14 (fun _ _ h => h)
            replace hO61 := hO61.ext hE14 (fun _ _ h => h)
            have hUo0 := hO55
            have hUo1 := hO61
            refine wl_app sl_39 rfl rfl rfl hV (hO67.sl (M := Non) id) (fun r hr => by simp only [List.mem_singleton] at hr; subst hr; exact one1 rfl) (by simp only [List.length_map, List.length_append, List.length_cons, List.length_nil]; omega) (by simp only [List.length_map, List.length_append, List.length_cons, List.length_nil, big]; omega) ?_; intro v68 w15 o68 hE15 hO68 hf68
            obtain ⟨a68, c68, hv68⟩ := id hO68.len; subst hv68
            have ho68 : ∀ i, o68 = some i → wB.heap.size ≤ i := fun j hj => by rcases hf68 j hj with h | h; exact hoV j h; omega
            have dKV68 : ∀ j, o55 = some j → o68 ≠ some j := fun j hj e => by rcases hf68 j e with h | h; exact dKV55 j hj h; have := hUo0.lt hj; omega
            have dPV68 : ∀ j, o61 = some j → o68 ≠ some j := fun j hj e => by rcases hf68 j e with h | h; exact dPV61 j hj h; have := hUo1.lt hj; omega
            replace hX := hX.mineO hE15 (fun i hi => .inr (Nat.le_trans hBw (hoV i hi)))
            replace hzB := Nat.le_trans hzB hE15.size
            replace hO55 := hO55.ext hE15 (fun i hi e => dKV55 i hi e)
            replace hO61 := hO61.ext hE15 (fun i hi e => dPV61 i hi e)
            replace hB3 := hB3.ext hE15 (fun e => by have := hoV _ e; omega)
            replace hB6 := hB6.ext hE15 (fun e => by have := hoV _ e; omega)
            replace hB8 := hB8.ext hE15 (fun e => by have := hoV _ e; omega)
            refine wl_val (rn_fieldAddr f_76_2 (by decide) rfl) ?_
            have hBo := hB8
            refine wl_store1 (b := b8) p_39 rfl (by conv => lhs; whnf) rfl rfl hB8 (Nat.le_of_ble_eq_true rfl) ?_; intro w16 hE16 hB8 hz16
            replace hX := hX.mine hE16 hl8
            replace hB3 := hB3.ext hE16 (fun h => by omega); replace hB6 := hB6.ext hE16 (fun h => by omega)
            replace hzB := Nat.le_trans hzB hE16.size
            replace hO55 := hO55.ext hE16 (fun i hi e => by have := ho55 _ hi; omega)
            replace hO61 := hO61.ext hE16 (fun i hi e => by have := ho61 _ hi; omega)
            replace hO68 := hO68.ext hE16 (fun i hi e => by have := ho68 _ hi; omega)
            refine wl_nil ?_
            refine W_region ?_
            refine wl_val (rn_assign (by conv => lhs; whnf)) ?_
            refine wl_nil ?_
            refine W_seq ?_
            refine W_region ?_
            refine wl_val (rn_move (by conv => lhs; whnf)) ?_
            refine wl_val (rn_fieldAddr f_76_0 (by decide) rfl) ?_
            refine wl_val (rn_load1 p_68 rfl hB3 rfl) ?_
            refine wl_val (rn_len sl_68 rfl) ?_
            refine wl_val (rn_lss rfl rfl) ?_
            refine wl_val (rn_move (by conv => lhs; whnf)) ?_
            refine wl_split (d := 75) rfl (fun hg75 => ?_) (fun hg75 => ?_)
            · have hlt : i < ks.length := by have := of_decide_eq_true hg75; omega
              obtain ⟨y, hi⟩ : ∃ y, ks[i]? = some y := ⟨_, List.getElem?_eq_getElem hlt⟩
              obtain ⟨z, hj⟩ : ∃ z, ys[i]? = some z := ⟨_, List.getElem?_eq_getElem (by omega)⟩
              try (obtain ⟨bb, oo, ea⟩ := hk.base (by intro e; have := congrArg List.length e; simp only [List.length_map, List.length_nil] at this; omega); subst ea)
              try (obtain ⟨bb2, oo2, ea2⟩ := hp.base (by intro e; have := congrArg List.length e; simp only [List.length_map, List.length_nil] at this; omega); subst ea2)
              try (obtain ⟨bb3, oo3, ea3⟩ := hv.base (by intro e; have := congrArg List.length e; simp only [List.length_map, List.length_nil] at this; omega); subst ea3)
              have hka := (key_at lo_str hord hi (x := t)).2
              exact absurd (of_decide_eq_true hg75) (by omega)
            · have hie2 : i = ks.length := by have := of_decide_eq_false hg75; omega
              refine wl_no rfl (congrArg Value.bool hg75) ?_
              refine wl_no rfl (congrArg Value.bool hg75) ?_
              refine wl_no rfl (congrArg Value.bool hg75) ?_
              refine wl_no rfl (congrArg Value.bool hg75) ?_
              refine wl_no rfl (congrArg Value.bool hg75) ?_
              refine wl_no rfl (congrArg Value.bool hg75) ?_
              refine wl_no rfl (congrArg Value.bool hg75) ?_
              refine wl_val (rn_pickF (congrArg Value.bool hg75) (by conv => lhs; whnf)) ?_
              refine wl_nil ?_
              refine W_condF rfl ?_
              refine W_skip ?_
              refine W_region ?_
              refine wl_val (rn_move (by conv => lhs; whnf)) ?_
              refine wl_val (rn_add rfl rfl (by omega)) ?_
              refine wl_val (rn_assign (by conv => lhs; whnf)) ?_
              refine wl_nil ?_
              
              exact ⟨rfl, (i + 1, _, _, _, o55, o61, o68), ⟨rfl, rfl, rfl, rfl, rfl, (congrArg Value.bool (show true = (decide (p = []) || decide (lb ltS ks t < i + 1)) from by rw [decide_eq_true (show lb ltS ks t < i + 1 by omega), Bool.or_true])), rfl, trivial⟩, ⟨hX, hB3, hB6, hB8, hl3, hl6, hl8, hn3_6, hn3_8, hn6_8, ⟨hzB, by omega, by rw [oAt_end he (by omega) hin, List.map_append]; exact hO55, by rw [oAt_end he (by rw [List.length_map]; omega) hin, List.map_append]; exact hO61, by rw [oAt_end he (by rw [List.length_map]; omega) hin, List.map_append]; exact hO68, ho55, ho61, ho68, dKP61, dKV68, dPV68⟩⟩, by show ks.length + 1 - (i + 1) < ks.length + 1 - i; omega⟩
          · have hil2 : i < ks.length := by have := of_decide_eq_false hg40; omega
            obtain ⟨yq, hiq⟩ : ∃ y, ks[i]? = some y := ⟨_, List.getElem?_eq_getElem hil2⟩
            obtain ⟨bb, oo, ea⟩ := hk.base (by intro e; have := congrArg List.length e; simp only [List.length_map, List.length_nil] at this; omega); subst ea
            obtain ⟨bb2, oo2, ea2⟩ := hp.base (by intro e; have := congrArg List.length e; simp only [List.length_map, List.length_nil] at this; omega); subst ea2
            obtain ⟨bb3, oo3, ea3⟩ := hv.base (by intro e; have := congrArg List.length e; simp only [List.length_map, List.length_nil] at this; omega); subst ea3
            have hkq := key_at lo_str hord hiq (x := t)
            have hyql := hkl yq (List.mem_of_getElem? hiq)
            refine wl_yes rfl (congrArg Value.bool hg40) ?_
            refine wl_val (rn_fieldAddr f_76_0 (by decide) rfl) ?_
            refine wl_yes rfl (congrArg Value.bool hg40) ?_
            refine wl_val (rn_load1 p_68 rfl hB3 rfl) ?_
            refine wl_yes rfl (congrArg Value.bool hg40) ?_
            refine wl_val (rn_move (by conv => lhs; whnf)) ?_
            refine wl_yes rfl (congrArg Value.bool hg40) ?_
            refine wl_val (rn_indexAddr sl_68 rfl rfl (by omega)) ?_
            refine wl_yes rfl (congrArg Value.bool hg40) ?_
            refine wl_val (rn_load p_9 rfl ((hk.ext hX (fun _ h => h)).at0 (eS_at hiq) rfl)) ?_
            refine wl_yes rfl (congrArg Value.bool hg40) ?_
            refine wl_val (rn_move (by conv => lhs; whnf)) ?_
            refine wl_yes rfl (congrArg Value.bool hg40) ?_
            refine wl_call e_82 rfl (rless_ok A0 yq t hyql hnt) ?_; intro v47 w17 hE17 hR17
            replace hX := hX.tr hE17
            replace hB3 := hB3.ext hE17 id; replace hB6 := hB6.ext hE17 id; replace hB8 := hB8.ext hE17 id
            replace hO := hO.ext hE17 (fun _ _ h => h)
            replace hP := hP.ext hE17 (fun _ _ h => h)
            replace hV := hV.ext hE17 (fun _ _ h => h)
            replace hzB := Nat.le_trans hzB hE17.size
            subst hR17
            refine wl_yes rfl (congrArg Value.bool hg40) ?_
            refine wl_val (rn_not rfl) ?_
            refine wl_yes rfl (congrArg Value.bool hg34) ?_
            refine wl_val (rn_pickF (congrArg Value.bool hg40) (by conv => lhs; whnf)) ?_
            refine wl_val (rn_pickT (congrArg Value.bool hg34) (by conv => lhs; whnf)) ?_
            refine wl_nil ?_
            refine W_cond rfl (fun hc3 => ?_) (fun hc3 => ?_)
            · have hin : i = lb ltS ks t := by have h1 : ltS yq t = false := (by simpa using hc3); have h2 : ¬ i < lb ltS ks t := (fun h => by rw [hkq.1.2 h] at h1; cases h1); omega
              refine W_seq ?_
              refine W_region ?_
              refine wl_val (rn_fieldAddr f_76_0 (by decide) rfl) ?_
              refine wl_val (rn_load1 p_68 rfl hB8 rfl) ?_
              refine wl_val (rn_move (by conv => lhs; whnf)) ?_
              refine wl_lit1 (r := eS1 t) sl_68 rfl rfl rfl rfl (by decide) ?_; intro v54 w18 b54 hb54 hE18 hO54
              replace hX := hX.tr hE18
              replace hB3 := hB3.ext hE18 id; replace hB6 := hB6.ext hE18 id; replace hB8 := hB8.ext hE18 id
              replace hO := hO.ext hE18 (fun _ _ h => h)
              replace hP := hP.ext hE18 (fun _ _ h => h)
              replace hV := hV.ext hE18 (fun _ _ h => h)
              replace hzB := Nat.le_trans hzB hE18.size
              have hUo0 := hP
              have hUo1 := hV
              refine wl_app sl_68 rfl rfl rfl hO (hO54.sl (M := Non) id) (fun r hr => by simp only [List.mem_singleton] at hr; subst hr; exact one1 rfl) (by simp only [List.length_map, List.length_append, List.length_cons, List.length_nil]; omega) (by simp only [List.length_map, List.length_append, List.length_cons, List.length_nil, big]; omega) ?_; intro v55 w19 o55 hE19 hO55 hf55
              obtain ⟨a55, c55, hv55⟩ := id hO55.len; subst hv55
              have ho55 : ∀ i, o55 = some i → wB.heap.size ≤ i := fun j hj => by rcases hf55 j hj with h | h; exact hoK j h; omega
              have dKP55 : ∀ j, o55 = some j → qp ≠ some j := fun j hj e => by rcases hf55 j hj with h | h; exact dKP j h e; have := hUo0.lt e; omega
              have dKV55 : ∀ j, o55 = some j → qv ≠ some j := fun j hj e => by rcases hf55 j hj with h | h; exact dKV j h e; have := hUo1.lt e; omega
              replace hX := hX.mineO hE19 (fun i hi => .inr (Nat.le_trans hBw (hoK i hi)))
              replace hzB := Nat.le_trans hzB hE19.size
              replace hP := hP.ext hE19 (fun i hi e => dKP i e hi)
              replace hV := hV.ext hE19 (fun i hi e => dKV i e hi)
              replace hB3 := hB3.ext hE19 (fun e => by have := hoK _ e; omega)
              replace hB6 := hB6.ext hE19 (fun e => by have := hoK _ e; omega)
              replace hB8 := hB8.ext hE19 (fun e => by have := hoK _ e; omega)
              refine wl_val (rn_fieldAddr f_76_0 (by decide) rfl) ?_
              have hBo := hB8
              refine wl_store1 (b := b8) p_68 rfl (by conv => lhs; whnf) rfl rfl hB8 (Nat.le_of_ble_eq_true rfl) ?_; intro w20 hE20 hB8 hz20
              replace hX := hX.mine hE20 hl8
              replace hB3 := hB3.ext hE20 (fun h => by omega); replace hB6 := hB6.ext hE20 (fun h => by omega)
              replace hP := hP.ext hE20 (fun i hi e => by have := hoP _ hi; omega)
              replace hV := hV.ext hE20 (fun i hi e => by have := hoV _ hi; omega)
              replace hzB := Nat.le_trans hzB hE20.size
              replace hO55 := hO55.ext hE20 (fun i hi e => by have := ho55 _ hi; omega)
              refine wl_nil ?_
              refine W_seq ?_
              refine W_region ?_
              refine wl_val (rn_fieldAddr f_76_1 (by decide) rfl) ?_
              refine wl_val (rn_load1 p_68 rfl hB8 rfl) ?_
              refine wl_val (rn_move (by conv => lhs; whnf)) ?_
              refine wl_lit1 (r := eS1 p) sl_68 rfl rfl rfl rfl (by decide) ?_; intro v60 w21 b60 hb60 hE21 hO60
              replace hX := hX.tr hE21
              replace hB3 := hB3.ext hE21 id; replace hB6 := hB6.ext hE21 id; replace hB8 := hB8.ext hE21 id
              replace hP := hP.ext hE21 (fun _ _ h => h)
              replace hV := hV.ext hE21 (fun _ _ h => h)
              replace hzB := Nat.le_trans hzB hE21.size
              replace hO55 := hO55.ext hE21 (fun _ _ h => h)
              have hUo0 := hO55
              have hUo1 := hV
              refine wl_app sl_68 rfl rfl rfl hP (hO60.sl (M := Non) id) (fun r hr => by simp only [List.mem_singleton] at hr; subst hr; exact one1 rfl) (by simp only [List.length_map, List.length_append, List.length_cons, List.length_nil]; omega) (by simp only [List.length_map, List.length_append, List.length_cons, List.length_nil, big]; omega) ?_; intro v61 w22 o61 hE22 hO61 hf61
              obtain ⟨a61, c61, hv61⟩ := id hO61.len; subst hv61
              have ho61 : ∀ i, o61 = some i → wB.heap.size ≤ i := fun j hj => by rcases hf61 j hj with h | h; exact hoP j h; omega
              have dKP61 : ∀ j, o55 = some j → o61 ≠ some j := fun j hj e => by rcases hf61 j e with h | h; exact dKP55 j hj h; have := hUo0.lt hj; omega
              have dPV61 : ∀ j, o61 = some j → qv ≠ some j := fun j hj e => by rcases hf61 j hj with h | h; exact dPV j h e; have := hUo1.lt e; omega
              replace hX := hX.mineO hE22 (fun i hi => .inr (Nat.le_trans hBw (hoP i hi)))
              replace hzB := Nat.le_trans hzB hE22.size
              replace hO55 := hO55.ext hE22 (fun i hi e => dKP55 i hi e)
              replace hV := hV.ext hE22 (fun i hi e => dPV i e hi)
              replace hB3 := hB3.ext hE22 (fun e => by have := hoP _ e; omega)
              replace hB6 := hB6.ext hE22 (fun e => by have := hoP _ e; omega)
              replace hB8 := hB8.ext hE22 (fun e => by have := hoP _ e; omega)
              refine wl_val (rn_fieldAddr f_76_1 (by decide) rfl) ?_
              have hBo := hB8
              refine wl_store1 (b := b8) p_68 rfl (by conv => lhs; whnf) rfl rfl hB8 (Nat.le_of_ble_eq_true rfl) ?_; intro w23 hE23 hB8 hz23
              replace hX := hX.mine hE23 hl8
              replace hB3 := hB3.ext hE23 (fun h => by omega); replace hB6 := hB6.ext hE23 (fun h => by omega)
              replace hV := hV.ext hE23 (fun i hi e => by have := hoV _ hi; omega)
              replace hzB := Nat.le_trans hzB hE23.size
              replace hO55 := hO55.ext hE23 (fun i hi e => by have := ho55 _ hi; omega)
              replace hO61 := hO61.ext hE23 (fun i hi e => by have := ho61 _ hi; omega)
              refine wl_nil ?_
              refine W_seq ?_
              refine W_region ?_
              refine wl_val (rn_fieldAddr f_76_2 (by decide) rfl) ?_
              refine wl_val (rn_load1 p_39 rfl hB8 rfl) ?_
              refine wl_val (rn_fieldAddr f_76_3 (by decide) rfl) ?_
              refine wl_val (rn_load1 p_3 rfl hB8 rfl) ?_
              refine wl_lit1 (r := eI1 (ver + 1)) sl_39 rfl rfl rfl rfl (by decide) ?_; intro v67 w24 b67 hb67 hE24 hO67
              replace hX := hX.tr hE24
              replace hB3 := hB3.ext hE24 id; replace hB6 := hB6.ext hE24 id; replace hB8 := hB8.ext hE24 id
              replace hV := hV.ext hE24 (fun _ _ h => h)
              replace hzB := Nat.le_trans hzB hE24.size
              replace hO55 := hO55.ext hE24 (fun _ _ h => h)
              replace hO61 := hO61.ext hE24 (fun _ _ h => h)
              have hUo0 := hO55
              have hUo1 := hO61
              refine wl_app sl_39 rfl rfl rfl hV (hO67.sl (M := Non) id) (fun r hr => by simp only [List.mem_singleton] at hr; subst hr; exact one1 rfl) (by simp only [List.length_map, List.length_append, List.length_cons, List.length_nil]; omega) (by simp only [List.length_map, List.length_append, List.length_cons, List.length_nil, big]; omega) ?_; intro v68 w25 o68 hE25 hO68 hf68
              obtain ⟨a68, c68, hv68⟩ := id hO68.len; subst hv68
              have ho68 : ∀ i, o68 = some i → wB.heap.size ≤ i := fun j hj => by rcases hf68 j hj with h | h; exact hoV j h; omega
              have dKV68 : ∀ j, o55 = some j → o68 ≠ some j := fun j hj e => by rcases hf68 j e with h | h; exact dKV55 j hj h; have := hUo0.lt hj; omega
              have dPV68 : ∀ j, o61 = some j → o68 ≠ some j := fun j hj e => by rcases hf68 j e with h | h; exact dPV61 j hj h; have := hUo1.lt hj; omega
              replace hX := hX.mineO hE25 (fun i hi => .inr (Nat.le_trans hBw (hoV i hi)))
              replace hzB := Nat.le_trans hzB hE25.size
              replace hO55 := hO55.ext hE25 (fun i hi e => dKV55 i hi e)
              replace hO61 := hO61.ext hE25 (fun i hi e => dPV61 i hi e)
              replace hB3 := hB3.ext hE25 (fun e => by have := hoV _ e; omega)
              replace hB6 := hB6.ext hE25 (fun e => by have := hoV _ e; omega)
              replace hB8 := hB8.ext hE25 (fun e => by have := hoV _ e; omega)
              refine wl_val (rn_fieldAddr f_76_2 (by decide) rfl) ?_
              have hBo := hB8
              refine wl_store1 (b := b8) p_39 rfl (by conv => lhs; whnf) rfl rfl hB8 (Nat.le_of_ble_eq_true rfl) ?_; intro w26 hE26 hB8 hz26
              replace hX := hX.mine hE26 hl8
              replace hB3 := hB3.ext hE26 (fun h => by omega); replace hB6 := hB6.ext hE26 (fun h => by omega)
              replace hzB := Nat.le_trans hzB hE26.size
              replace hO55 := hO55.ext hE26 (fun i hi e => by have := ho55 _ hi; omega)
              replace hO61 := hO61.ext hE26 (fun i hi e => by have := ho61 _ hi; omega)
              replace hO68 := hO68.ext hE26 (fun i hi e => by have := ho68 _ hi; omega)
              refine wl_nil ?_
              refine W_region ?_
              refine wl_val (rn_assign (by conv => lhs; whnf)) ?_
              refine wl_nil ?_
              refine W_seq ?_
              refine W_region ?_
              refine wl_val (rn_move (by conv => lhs; whnf)) ?_
              refine wl_val (rn_fieldAddr f_76_0 (by decide) rfl) ?_
              refine wl_val (rn_load1 p_68 rfl hB3 rfl) ?_
              refine wl_val (rn_len sl_68 rfl) ?_
              refine wl_val (rn_lss rfl rfl) ?_
              refine wl_val (rn_move (by conv => lhs; whnf)) ?_
              refine wl_split (d := 75) rfl (fun hg75 => ?_) (fun hg75 => ?_)
              · have hlt : i < ks.length := by have := of_decide_eq_true hg75; omega
                obtain ⟨y, hi⟩ : ∃ y, ks[i]? = some y := ⟨_, List.getElem?_eq_getElem hlt⟩
                obtain ⟨z, hj⟩ : ∃ z, ys[i]? = some z := ⟨_, List.getElem?_eq_getElem (by omega)⟩
                try (obtain ⟨bb, oo, ea⟩ := hk.base (by intro e; have := congrArg List.length e; simp only [List.length_map, List.length_nil] at this; omega); subst ea)
                try (obtain ⟨bb2, oo2, ea2⟩ := hp.base (by intro e; have := congrArg List.length e; simp only [List.length_map, List.length_nil] at this; omega); subst ea2)
                try (obtain ⟨bb3, oo3, ea3⟩ := hv.base (by intro e; have := congrArg List.length e; simp only [List.length_map, List.length_nil] at this; omega); subst ea3)
                have hka := (key_at lo_str hord hi (x := t)).2
                refine wl_yes rfl (congrArg Value.bool hg75) ?_
                refine wl_val (rn_fieldAddr f_76_0 (by decide) rfl) ?_
                refine wl_yes rfl (congrArg Value.bool hg75) ?_
                refine wl_val (rn_load1 p_68 rfl hB3 rfl) ?_
                refine wl_yes rfl (congrArg Value.bool hg75) ?_
                refine wl_val (rn_move (by conv => lhs; whnf)) ?_
                refine wl_yes rfl (congrArg Value.bool hg75) ?_
                refine wl_val (rn_indexAddr sl_68 rfl rfl (by omega)) ?_
                refine wl_yes rfl (congrArg Value.bool hg75) ?_
                refine wl_val (rn_load p_9 rfl ((hk.ext hX (fun _ h => h)).at0 (eS_at hi) rfl)) ?_
                refine wl_yes rfl (congrArg Value.bool hg75) ?_
                refine wl_val (rn_move (by conv => lhs; whnf)) ?_
                refine wl_yes rfl (congrArg Value.bool hg75) ?_
                refine wl_val (rn_sneq rfl rfl) ?_
                refine wl_val (rn_pickT (congrArg Value.bool hg75) (by conv => lhs; whnf)) ?_
                refine wl_nil ?_
                refine W_cond rfl (fun hc4 => ?_) (fun hc4 => ?_)
                · have hyx : ¬ y = t := by simpa using of_decide_eq_true hc4
                  refine W_seq ?_
                  refine W_drawX (fun j => j == 8 || j == 9 || j == 10) mixed ?_; intro w27 hE27
                  replace hX := hX.tr hE27
                  replace hB3 := hB3.ext hE27 id; replace hB6 := hB6.ext hE27 id; replace hB8 := hB8.ext hE27 id
                  replace hzB := Nat.le_trans hzB hE27.size
                  replace hO55 := hO55.ext hE27 (fun _ _ h => h)
                  replace hO61 := hO61.ext hE27 (fun _ _ h => h)
                  replace hO68 := hO68.ext hE27 (fun _ _ h => h)
                  have hS := Ext.refl Non w27
                  refine wx_take 0 [1, 8, 9, 10] _ _ rfl (by kernel_rfl) hS (yd_do fun A hA => rn_fieldAddr f_76_0 (by decide) rfl) ?_
                  refine wx_take 1 [8, 9, 10] _ _ rfl (by kernel_rfl) hS (yd_do fun A hA => rn_load1 p_68 rfl (hB8.ext hA id) rfl) ?_
                  refine wx_take 2 [3, 5, 6, 7, 8, 9, 10] _ _ rfl (by kernel_rfl) hS (yd_do fun A hA => rn_fieldAddr f_76_0 (by decide) rfl) ?_
                  refine wx_take 3 [5, 6, 7, 8, 9, 10] _ _ rfl (by kernel_rfl) hS (yd_do fun A hA => rn_load1 p_68 rfl (hB3.ext hA id) rfl) ?_
                  refine wx_take 4 [5, 6, 7, 8, 9, 10] _ _ rfl (by kernel_rfl) hS (yd_do fun A hA => rn_move (by conv => lhs; whnf)) ?_
                  refine wx_take 5 [6, 7, 8, 9, 10] _ _ rfl (by kernel_rfl) hS (yd_do fun A hA => rn_indexAddr sl_68 rfl rfl (by omega)) ?_
                  refine wx_take 6 [7, 8, 9, 10] _ _ rfl (by kernel_rfl) hS (yd_do fun A hA => rn_load p_9 rfl (((hk.ext hX (fun _ h => h)).ext hA (fun _ h => h.elim)).at0 (eS_at hi) rfl)) ?_
                  refine wx_only 7 _ rfl (by kernel_rfl) ?_
                  refine s1_do ?_
                  refine wl_lit1 (r := eS1 y) sl_68 rfl rfl rfl rfl (by decide) ?_; intro v91 w28 b91 hb91 hE28 hO91
                  replace hS := hS.tr hE28
                  refine wl_nil ⟨fun _ => hS, ?_⟩
                  replace hX := hX.tr hS
                  replace hB3 := hB3.ext hS id; replace hB6 := hB6.ext hS id; replace hB8 := hB8.ext hS id
                  replace hzB := Nat.le_trans hzB hS.size
                  replace hO55 := hO55.ext hS (fun _ _ h => h)
                  replace hO61 := hO61.ext hS (fun _ _ h => h)
                  replace hO68 := hO68.ext hS (fun _ _ h => h)
                  refine wx_only 8 _ rfl (by kernel_rfl) ?_
                  refine s1_do ?_
                  have hUo0 := hO61
                  have hUo1 := hO68
                  refine wl_app sl_68 rfl rfl rfl hO55 (hO91.sl (M := Non) id) (fun r hr => by simp only [List.mem_singleton] at hr; subst hr; exact one1 rfl) (by simp only [List.length_map, List.length_append, List.length_cons, List.length_nil]; omega) (by simp only [List.length_map, List.length_append, List.length_cons, List.length_nil, big]; omega) ?_; intro v92 w29 o92 hE29 hO92 hf92
                  obtain ⟨a92, c92, hv92⟩ := id hO92.len; subst hv92
                  have ho92 : ∀ i, o92 = some i → wB.heap.size ≤ i := fun j hj => by rcases hf92 j hj with h | h; exact ho55 j h; omega
                  have dKP92 : ∀ j, o92 = some j → o61 ≠ some j := fun j hj e => by rcases hf92 j hj with h | h; exact dKP61 j h e; have := hUo0.lt e; omega
                  have dKV92 : ∀ j, o92 = some j → o68 ≠ some j := fun j hj e => by rcases hf92 j hj with h | h; exact dKV68 j h e; have := hUo1.lt e; omega
                  replace hX := hX.mineO hE29 (fun i hi => .inr (Nat.le_trans hBw (ho55 i hi)))
                  replace hzB := Nat.le_trans hzB hE29.size
                  replace hO61 := hO61.ext hE29 (fun i hi e => dKP61 i e hi)
                  replace hO68 := hO68.ext hE29 (fun i hi e => dKV68 i e hi)
                  replace hB3 := hB3.ext hE29 (fun e => by have := ho55 _ e; omega)
                  replace hB6 := hB6.ext hE29 (fun e => by have := ho55 _ e; omega)
                  replace hB8 := hB8.ext hE29 (fun e => by have := ho55 _ e; omega)
                  refine wl_nil ⟨fun h => absurd h (by decide), ?_⟩
                  refine wx_only 9 _ rfl (by kernel_rfl) ?_
                  refine s1_do ?_
                  refine wl_val (rn_fieldAddr f_76_0 (by decide) rfl) ?_
                  refine wl_nil ⟨fun h => absurd h (by decide), ?_⟩
                  refine wx_only 10 _ rfl (by kernel_rfl) ?_
                  refine s1_do ?_
                  have hBo := hB8
                  refine wl_store1 (b := b8) p_68 rfl (by conv => lhs; whnf) rfl rfl hB8 (Nat.le_of_ble_eq_true rfl) ?_; intro w30 hE30 hB8 hz30
                  replace hX := hX.mine hE30 hl8
                  replace hB3 := hB3.ext hE30 (fun h => by omega); replace hB6 := hB6.ext hE30 (fun h => by omega)
                  replace hzB := Nat.le_trans hzB hE30.size
                  replace hO61 := hO61.ext hE30 (fun i hi e => by have := ho61 _ hi; omega)
                  replace hO68 := hO68.ext hE30 (fun i hi e => by have := ho68 _ hi; omega)
                  replace hO92 := hO92.ext hE30 (fun i hi e => by have := ho92 _ hi; omega)
                  refine wl_nil ⟨fun h => absurd h (by decide), ?_⟩
                  refine wx_done (by kernel_rfl) ?_ _
                  refine W_seq ?_
                  refine W_drawX (fun j => j == 8 || j == 9 || j == 10) mixed ?_; intro w31 hE31
                  replace hX := hX.tr hE31
                  replace hB3 := hB3.ext hE31 id; replace hB6 := hB6.ext hE31 id; replace hB8 := hB8.ext hE31 id
                  replace hzB := Nat.le_trans hzB hE31.size
                  replace hO61 := hO61.ext hE31 (fun _ _ h => h)
                  replace hO68 := hO68.ext hE31 (fun _ _ h => h)
                  replace hO92 := hO92.ext hE31 (fun _ _ h => h)
                  have hS := Ext.refl Non w31
                  refine wx_take 0 [1, 8, 9, 10] _ _ rfl (by kernel_rfl) hS (yd_do fun A hA => rn_fieldAddr f_76_1 (by decide) rfl) ?_
                  refine wx_take 1 [8, 9, 10] _ _ rfl (by kernel_rfl) hS (yd_do fun A hA => rn_load1 p_68 rfl (hB8.ext hA id) rfl) ?_
                  refine wx_take 2 [3, 5, 6, 7, 8, 9, 10] _ _ rfl (by kernel_rfl) hS (yd_do fun A hA => rn_fieldAddr f_76_1 (by decide) rfl) ?_
                  refine wx_take 3 [5, 6, 7, 8, 9, 10] _ _ rfl (by kernel_rfl) hS (yd_do fun A hA => rn_load1 p_68 rfl (hB3.ext hA id) rfl) ?_
                  refine wx_take 4 [5, 6, 7, 8, 9, 10] _ _ rfl (by kernel_rfl) hS (yd_do fun A hA => rn_move (by conv => lhs; whnf)) ?_
                  refine wx_take 5 [6, 7, 8, 9, 10] _ _ rfl (by kernel_rfl) hS (yd_do fun A hA => rn_indexAddr sl_68 rfl rfl (by omega)) ?_
                  refine wx_take 6 [7, 8, 9, 10] _ _ rfl (by kernel_rfl) hS (yd_do fun A hA => rn_load p_9 rfl (((hp.ext hX (fun _ h => h)).ext hA (fun _ h => h.elim)).at0 (fst_at hj) rfl)) ?_
                  refine wx_only 7 _ rfl (by kernel_rfl) ?_
                  refine s1_do ?_
                  refine wl_lit1 (r := eS1 z.1) sl_68 rfl rfl rfl rfl (by decide) ?_; intro v101 w32 b101 hb101 hE32 hO101
                  replace hS := hS.tr hE32
                  refine wl_nil ⟨fun _ => hS, ?_⟩
                  replace hX := hX.tr hS
                  replace hB3 := hB3.ext hS id; replace hB6 := hB6.ext hS id; replace hB8 := hB8.ext hS id
                  replace hzB := Nat.le_trans hzB hS.size
                  replace hO61 := hO61.ext hS (fun _ _ h => h)
                  replace hO68 := hO68.ext hS (fun _ _ h => h)
                  replace hO92 := hO92.ext hS (fun _ _ h => h)
                  refine wx_only 8 _ rfl (by kernel_rfl) ?_
                  refine s1_do ?_
                  have hUo0 := hO92
                  have hUo1 := hO68
                  refine wl_app sl_68 rfl rfl rfl hO61 (hO101.sl (M := Non) id) (fun r hr => by simp only [List.mem_singleton] at hr; subst hr; exact one1 rfl) (by simp only [List.length_map, List.length_append, List.length_cons, List.length_nil]; omega) (by simp only [List.length_map, List.length_append, List.length_cons, List.length_nil, big]; omega) ?_; intro v102 w33 o102 hE33 hO102 hf102
                  obtain ⟨a102, c102, hv102⟩ := id hO102.len; subst hv102
                  have ho102 : ∀ i, o102 = some i → wB.heap.size ≤ i := fun j hj => by rcases hf102 j hj with h | h; exact ho61 j h; omega
                  have dKP102 : ∀ j, o92 = some j → o102 ≠ some j := fun j hj e => by rcases hf102 j e with h | h; exact dKP92 j hj h; have := hUo0.lt hj; omega
                  have dPV102 : ∀ j, o102 = some j → o68 ≠ some j := fun j hj e => by rcases hf102 j hj with h | h; exact dPV68 j h e; have := hUo1.lt e; omega
                  replace hX := hX.mineO hE33 (fun i hi => .inr (Nat.le_trans hBw (ho61 i hi)))
                  replace hzB := Nat.le_trans hzB hE33.size
                  replace hO92 := hO92.ext hE33 (fun i hi e => dKP92 i hi e)
                  replace hO68 := hO68.ext hE33 (fun i hi e => dPV68 i e hi)
                  replace hB3 := hB3.ext hE33 (fun e => by have := ho61 _ e; omega)
                  replace hB6 := hB6.ext hE33 (fun e => by have := ho61 _ e; omega)
                  replace hB8 := hB8.ext hE33 (fun e => by have := ho61 _ e; omega)
                  refine wl_nil ⟨fun h => absurd h (by decide), ?_⟩
                  refine wx_only 9 _ rfl (by kernel_rfl) ?_
                  refine s1_do ?_
                  refine wl_val (rn_fieldAddr f_76_1 (by decide) rfl) ?_
                  refine wl_nil ⟨fun h => absurd h (by decide), ?_⟩
                  refine wx_only 10 _ rfl (by kernel_rfl) ?_
                  refine s1_do ?_
                  have hBo := hB8
                  refine wl_store1 (b := b8) p_68 rfl (by conv => lhs; whnf) rfl rfl hB8 (Nat.le_of_ble_eq_true rfl) ?_; intro w34 hE34 hB8 hz34
                  replace hX := hX.mine hE34 hl8
                  replace hB3 := hB3.ext hE34 (fun h => by omega); replace hB6 := hB6.ext hE34 (fun h => by omega)
                  replace hzB := Nat.le_trans hzB hE34.size
                  replace hO68 := hO68.ext hE34 (fun i hi e => by have := ho68 _ hi; omega)
                  replace hO92 := hO92.ext hE34 (fun i hi e => by have := ho92 _ hi; omega)
                  replace hO102 := hO102.ext hE34 (fun i hi e => by have := ho102 _ hi; omega)
                  refine wl_nil ⟨fun h => absurd h (by decide), ?_⟩
                  refine wx_done (by kernel_rfl) ?_ _
                  refine W_drawX (fun j => j == 8 || j == 9 || j == 10) mixed ?_; intro w35 hE35
                  replace hX := hX.tr hE35
                  replace hB3 := hB3.ext hE35 id; replace hB6 := hB6.ext hE35 id; replace hB8 := hB8.ext hE35 id
                  replace hzB := Nat.le_trans hzB hE35.size
                  replace hO68 := hO68.ext hE35 (fun _ _ h => h)
                  replace hO92 := hO92.ext hE35 (fun _ _ h => h)
                  replace hO102 := hO102.ext hE35 (fun _ _ h => h)
                  have hS := Ext.refl Non w35
                  refine wx_take 0 [1, 8, 9, 10] _ _ rfl (by kernel_rfl) hS (yd_do fun A hA => rn_fieldAddr f_76_2 (by decide) rfl) ?_
                  refine wx_take 1 [8, 9, 10] _ _ rfl (by kernel_rfl) hS (yd_do fun A hA => rn_load1 p_39 rfl (hB8.ext hA id) rfl) ?_
                  refine wx_take 2 [3, 5, 6, 7, 8, 9, 10] _ _ rfl (by kernel_rfl) hS (yd_do fun A hA => rn_fieldAddr f_76_2 (by decide) rfl) ?_
                  refine wx_take 3 [5, 6, 7, 8, 9, 10] _ _ rfl (by kernel_rfl) hS (yd_do fun A hA => rn_load1 p_39 rfl (hB3.ext hA id) rfl) ?_
                  refine wx_take 4 [5, 6, 7, 8, 9, 10] _ _ rfl (by kernel_rfl) hS (yd_do fun A hA => rn_move (by conv => lhs; whnf)) ?_
                  refine wx_take 5 [6, 7, 8, 9, 10] _ _ rfl (by kernel_rfl) hS (yd_do fun A hA => rn_indexAddr sl_39 rfl rfl (by omega)) ?_
                  refine wx_take 6 [7, 8, 9, 10] _ _ rfl (by kernel_rfl) hS (yd_do fun A hA => rn_load p_3 rfl (((hv.ext hX (fun _ h => h)).ext hA (fun _ h => h.elim)).at0 (snd_at hj) rfl)) ?_
                  refine wx_only 7 _ rfl (by kernel_rfl) ?_
                  refine s1_do ?_
                  refine wl_lit1 (r := eI1 z.2) sl_39 rfl rfl rfl rfl (by decide) ?_; intro v111 w36 b111 hb111 hE36 hO111
                  replace hS := hS.tr hE36
                  refine wl_nil ⟨fun _ => hS, ?_⟩
                  replace hX := hX.tr hS
                  replace hB3 := hB3.ext hS id; replace hB6 := hB6.ext hS id; replace hB8 := hB8.ext hS id
                  replace hzB := Nat.le_trans hzB hS.size
                  replace hO68 := hO68.ext hS (fun _ _ h => h)
                  replace hO92 := hO92.ext hS (fun _ _ h => h)
                  replace hO102 := hO102.ext hS (fun _ _ h => h)
                  refine wx_only 8 _ rfl (by kernel_rfl) ?_
                  refine s1_do ?_
                  have hUo0 := hO92
                  have hUo1 := hO102
                  refine wl_app sl_39 rfl rfl rfl hO68 (hO111.sl (M := Non) id) (fun r hr => by simp only [List.mem_singleton] at hr; subst hr; exact one1 rfl) (by simp only [List.length_map, List.length_append, List.length_cons, List.length_nil]; omega) (by simp only [List.length_map, List.length_append, List.length_cons, List.length_nil, big]; omega) ?_; intro v112 w37 o112 hE37 hO112 hf112
                  obtain ⟨a112, c112, hv112⟩ := id hO112.len; subst hv112
                  have ho112 : ∀ i, o112 = some i → wB.heap.size ≤ i := fun j hj => by rcases hf112 j hj with h | h; exact ho68 j h; omega
                  have dKV112 : ∀ j, o92 = some j → o112 ≠ some j := fun j hj e => by rcases hf112 j e with h | h; exact dKV92 j hj h; have := hUo0.lt hj; omega
                  have dPV112 : ∀ j, o102 = some j → o112 ≠ some j := fun j hj e => by rcases hf112 j e with h | h; exact dPV102 j hj h; have := hUo1.lt hj; omega
                  replace hX := hX.mineO hE37 (fun i hi => .inr (Nat.le_trans hBw (ho68 i hi)))
                  replace hzB := Nat.le_trans hzB hE37.size
                  replace hO92 := hO92.ext hE37 (fun i hi e => dKV92 i hi e)
                  replace hO102 := hO102.ext hE37 (fun i hi e => dPV102 i hi e)
                  replace hB3 := hB3.ext hE37 (fun e => by have := ho68 _ e; omega)
                  replace hB6 := hB6.ext hE37 (fun e => by have := ho68 _ e; omega)
                  replace hB8 := hB8.ext hE37 (fun e => by have := ho68 _ e; omega)
                  refine wl_nil ⟨fun h => absurd h (by decide), ?_⟩
                  refine wx_only 9 _ rfl (by kernel_rfl) ?_
                  refine s1_do ?_
                  refine wl_val (rn_fieldAddr f_76_2 (by decide) rfl) ?_
                  refine wl_nil ⟨fun h => absurd h (by decide), ?_⟩
                  refine wx_only 10 _ rfl (by kernel_rfl) ?_
                  refine s1_do ?_
                  have hBo := hB8
                  refine wl_store1 (b := b8) p_39 rfl (by conv => lhs; whnf) rfl rfl hB8 (Nat.le_of_ble_eq_true rfl) ?_; intro w38 hE38 hB8 hz38
                  replace hX := hX.mine hE38 hl8
                  replace hB3 := hB3.ext hE38 (fun h => by omega); replace hB6 := hB6.ext hE38 (fun h => by omega)
                  replace hzB := Nat.le_trans hzB hE38.size
                  replace hO92 := hO92.ext hE38 (fun i hi e => by have := ho92 _ hi; omega)
                  replace hO102 := hO102.ext hE38 (fun i hi e => by have := ho102 _ hi; omega)
                  replace hO112 := hO112.ext hE38 (fun i hi e => by have := ho112 _ hi; omega)
                  refine wl_nil ⟨fun h => absurd h (by decide), ?_⟩
                  refine wx_done (by kernel_rfl) ?_ _
                  refine W_region ?_
                  refine wl_val (rn_move (by conv => lhs; whnf)) ?_
                  refine wl_val (rn_add rfl rfl (by omega)) ?_
                  refine wl_val (rn_assign (by conv => lhs; whnf)) ?_
                  refine wl_nil ?_
                  
                  exact ⟨rfl, (i + 1, _, _, _, o92, o102, o112), ⟨rfl, rfl, rfl, rfl, rfl, (congrArg Value.bool (show true = (decide (p = []) || decide (lb ltS ks t < i + 1)) from by rw [decide_eq_true (show lb ltS ks t < i + 1 by omega), Bool.or_true])), rfl, trivial⟩, ⟨hX, hB3, hB6, hB8, hl3, hl6, hl8, hn3_6, hn3_8, hn6_8, ⟨hzB, by omega, by rw [oAt_ne he (by cases h : isAt ltS ks t; rfl; exact absurd (hka.2 ⟨h, hin⟩) hyx) hin hi, List.map_append, List.map_append]; exact hO92, by rw [oAt_ne he (by cases h : isAt ltS ks t; rfl; exact absurd (hka.2 ⟨h, hin⟩) hyx) hin (show (ys.map Prod.fst)[i]? = some z.1 from by simp [hj]), List.map_append, List.map_append]; exact hO102, by rw [oAt_ne he (by cases h : isAt ltS ks t; rfl; exact absurd (hka.2 ⟨h, hin⟩) hyx) hin (show (ys.map Prod.snd)[i]? = some z.2 from by simp [hj]), List.map_append, List.map_append]; exact hO112, ho92, ho102, ho112, dKP102, dKV112, dPV112⟩⟩, by show ks.length + 1 - (i + 1) < ks.length + 1 - i; omega⟩
                · have hyx : y = t := by simpa using of_decide_eq_false hc4
                  obtain ⟨ha, hib⟩ := hka.1 hyx
                  refine W_skip ?_
                  refine W_region ?_
                  refine wl_val (rn_move (by conv => lhs; whnf)) ?_
                  refine wl_val (rn_add rfl rfl (by omega)) ?_
                  refine wl_val (rn_assign (by conv => lhs; whnf)) ?_
                  refine wl_nil ?_
                  
                  exact ⟨rfl, (i + 1, _, _, _, o55, o61, o68), ⟨rfl, rfl, rfl, rfl, rfl, (congrArg Value.bool (show true = (decide (p = []) || decide (lb ltS ks t < i + 1)) from by rw [decide_eq_true (show lb ltS ks t < i + 1 by omega), Bool.or_true])), rfl, trivial⟩, ⟨hX, hB3, hB6, hB8, hl3, hl6, hl8, hn3_6, hn3_8, hn6_8, ⟨hzB, by omega, by rw [oAt_eq he ha hin hi, List.map_append]; exact hO55, by rw [oAt_eq he ha hin (show (ys.map Prod.fst)[i]? = some z.1 from by simp [hj]), List.map_append]; exact hO61, by rw [oAt_eq he ha hin (show (ys.map Prod.snd)[i]? = some z.2 from by simp [hj]), List.map_append]; exact hO68, ho55, ho61, ho68, dKP61, dKV68, dPV68⟩⟩, by show ks.length + 1 - (i + 1) < ks.length + 1 - i; omega⟩
              · have hie2 : i = ks.length := by have := of_decide_eq_false hg75; omega
                exact absurd (of_decide_eq_false hg75) (by omega)
            · have hlo : i < lb ltS ks t := hkq.1.1 (by simpa using hc3)
              refine W_skip ?_
              refine W_seq ?_
              refine W_region ?_
              refine wl_val (rn_move (by conv => lhs; whnf)) ?_
              refine wl_val (rn_fieldAddr f_76_0 (by decide) rfl) ?_
              refine wl_val (rn_load1 p_68 rfl hB3 rfl) ?_
              refine wl_val (rn_len sl_68 rfl) ?_
              refine wl_val (rn_lss rfl rfl) ?_
              refine wl_val (rn_move (by conv => lhs; whnf)) ?_
              refine wl_split (d := 75) rfl (fun hg75 => ?_) (fun hg75 => ?_)
              · have hlt : i < ks.length := by have := of_decide_eq_true hg75; omega
                obtain ⟨y, hi⟩ : ∃ y, ks[i]? = some y := ⟨_, List.getElem?_eq_getElem hlt⟩
                obtain ⟨z, hj⟩ : ∃ z, ys[i]? = some z := ⟨_, List.getElem?_eq_getElem (by omega)⟩
                try (obtain ⟨bb, oo, ea⟩ := hk.base (by intro e; have := congrArg List.length e; simp only [List.length_map, List.length_nil] at this; omega); subst ea)
                try (obtain ⟨bb2, oo2, ea2⟩ := hp.base (by intro e; have := congrArg List.length e; simp only [List.length_map, List.length_nil] at this; omega); subst ea2)
                try (obtain ⟨bb3, oo3, ea3⟩ := hv.base (by intro e; have := congrArg List.length e; simp only [List.length_map, List.length_nil] at this; omega); subst ea3)
                have hka := (key_at lo_str hord hi (x := t)).2
                refine wl_yes rfl (congrArg Value.bool hg75) ?_
                refine wl_val (rn_fieldAddr f_76_0 (by decide) rfl) ?_
                refine wl_yes rfl (congrArg Value.bool hg75) ?_
                refine wl_val (rn_load1 p_68 rfl hB3 rfl) ?_
                refine wl_yes rfl (congrArg Value.bool hg75) ?_
                refine wl_val (rn_move (by conv => lhs; whnf)) ?_
                refine wl_yes rfl (congrArg Value.bool hg75) ?_
                refine wl_val (rn_indexAddr sl_68 rfl rfl (by omega)) ?_
                refine wl_yes rfl (congrArg Value.bool hg75) ?_
                refine wl_val (rn_load p_9 rfl ((hk.ext hX (fun _ h => h)).at0 (eS_at hi) rfl)) ?_
                refine wl_yes rfl (congrArg Value.bool hg75) ?_
                refine wl_val (rn_move (by conv => lhs; whnf)) ?_
                refine wl_yes rfl (congrArg Value.bool hg75) ?_
                refine wl_val (rn_sneq rfl rfl) ?_
                refine wl_val (rn_pickT (congrArg Value.bool hg75) (by conv => lhs; whnf)) ?_
                refine wl_nil ?_
                refine W_cond rfl (fun hc4 => ?_) (fun hc4 => ?_)
                · have hyx : ¬ y = t := by simpa using of_decide_eq_true hc4
                  refine W_seq ?_
                  refine W_drawX (fun j => j == 8 || j == 9 || j == 10) mixed ?_; intro w39 hE39
                  replace hX := hX.tr hE39
                  replace hB3 := hB3.ext hE39 id; replace hB6 := hB6.ext hE39 id; replace hB8 := hB8.ext hE39 id
                  replace hO := hO.ext hE39 (fun _ _ h => h)
                  replace hP := hP.ext hE39 (fun _ _ h => h)
                  replace hV := hV.ext hE39 (fun _ _ h => h)
                  replace hzB := Nat.le_trans hzB hE39.size
                  have hS := Ext.refl Non w39
                  refine wx_take 0 [1, 8, 9, 10] _ _ rfl (by kernel_rfl) hS (yd_do fun A hA => rn_fieldAddr f_76_0 (by decide) rfl) ?_
                  refine wx_take 1 [8, 9, 10] _ _ rfl (by kernel_rfl) hS (yd_do fun A hA => rn_load1 p_68 rfl (hB8.ext hA id) rfl) ?_
                  refine wx_take 2 [3, 5, 6, 7, 8, 9, 10] _ _ rfl (by kernel_rfl) hS (yd_do fun A hA => rn_fieldAddr f_76_0 (by decide) rfl) ?_
                  refine wx_take 3 [5, 6, 7, 8, 9, 10] _ _ rfl (by kernel_rfl) hS (yd_do fun A hA => rn_load1 p_68 rfl (hB3.ext hA id) rfl) ?_
                  refine wx_take 4 [5, 6, 7, 8, 9, 10] _ _ rfl (by kernel_rfl) hS (yd_do fun A hA => rn_move (by conv => lhs; whnf)) ?_
                  refine wx_take 5 [6, 7, 8, 9, 10] _ _ rfl (by kernel_rfl) hS (yd_do fun A hA => rn_indexAddr sl_68 rfl rfl (by omega)) ?_
                  refine wx_take 6 [7, 8, 9, 10] _ _ rfl (by kernel_rfl) hS (yd_do fun A hA => rn_load p_9 rfl (((hk.ext hX (fun _ h => h)).ext hA (fun _ h => h.elim)).at0 (eS_at hi) rfl)) ?_
                  refine wx_only 7 _ rfl (by kernel_rfl) ?_
                  refine s1_do ?_
                  refine wl_lit1 (r := eS1 y) sl_68 rfl rfl rfl rfl (by decide) ?_; intro v91 w40 b91 hb91 hE40 hO91
                  replace hS := hS.tr hE40
                  refine wl_nil ⟨fun _ => hS, ?_⟩
                  replace hX := hX.tr hS
                  replace hB3 := hB3.ext hS id; replace hB6 := hB6.ext hS id; replace hB8 := hB8.ext hS id
                  replace hO := hO.ext hS (fun _ _ h => h)
                  replace hP := hP.ext hS (fun _ _ h => h)
                  replace hV := hV.ext hS (fun _ _ h => h)
                  replace hzB := Nat.le_trans hzB hS.size
                  refine wx_only 8 _ rfl (by kernel_rfl) ?_
                  refine s1_do ?_
                  have hUo0 := hP
                  have hUo1 := hV
                  refine wl_app sl_68 rfl rfl rfl hO (hO91.sl (M := Non) id) (fun r hr => by simp only [List.mem_singleton] at hr; subst hr; exact one1 rfl) (by simp only [List.length_map, List.length_append, List.length_cons, List.length_nil]; omega) (by simp only [List.length_map, List.length_append, List.length_cons, List.length_nil, big]; omega) ?_; intro v92 w41 o92 hE41 hO92 hf92
                  obtain ⟨a92, c92, hv92⟩ := id hO92.len; subst hv92
                  have ho92 : ∀ i, o92 = some i → wB.heap.size ≤ i := fun j hj => by rcases hf92 j hj with h | h; exact hoK j h; omega
                  have dKP92 : ∀ j, o92 = some j → qp ≠ some j := fun j hj e => by rcases hf92 j hj with h | h; exact dKP j h e; have := hUo0.lt e; omega
                  have dKV92 : ∀ j, o92 = some j → qv ≠ some j := fun j hj e => by rcases hf92 j hj with h | h; exact dKV j h e; have := hUo1.lt e; omega
                  replace hX := hX.mineO hE41 (fun i hi => .inr (Nat.le_trans hBw (hoK i hi)))
                  replace hzB := Nat.le_trans hzB hE41.size
                  replace hP := hP.ext hE41 (fun i hi e => dKP i e hi)
                  replace hV := hV.ext hE41 (fun i hi e => dKV i e hi)
                  replace hB3 := hB3.ext hE41 (fun e => by have := hoK _ e; omega)
                  replace hB6 := hB6.ext hE41 (fun e => by have := hoK _ e; omega)
                  replace hB8 := hB8.ext hE41 (fun e => by have := hoK _ e; omega)
                  refine wl_nil ⟨fun h => absurd h (by decide), ?_⟩
                  refine wx_only 9 _ rfl (by kernel_rfl) ?_
                  refine s1_do ?_
                  refine wl_val (rn_fieldAddr f_76_0 (by decide) rfl) ?_
                  refine wl_nil ⟨fun h => absurd h (by decide), ?_⟩
                  refine wx_only 10 _ rfl (by kernel_rfl) ?_
                  refine s1_do ?_
                  have hBo := hB8
                  refine wl_store1 (b := b8) p_68 rfl (by conv => lhs; whnf) rfl rfl hB8 (Nat.le_of_ble_eq_true rfl) ?_; intro w42 hE42 hB8 hz42
                  replace hX := hX.mine hE42 hl8
                  replace hB3 := hB3.ext hE42 (fun h => by omega); replace hB6 := hB6.ext hE42 (fun h => by omega)
                  replace hP := hP.ext hE42 (fun i hi e => by have := hoP _ hi; omega)
                  replace hV := hV.ext hE42 (fun i hi e => by have := hoV _ hi; omega)
                  replace hzB := Nat.le_trans hzB hE42.size
                  replace hO92 := hO92.ext hE42 (fun i hi e => by have := ho92 _ hi; omega)
                  refine wl_nil ⟨fun h => absurd h (by decide), ?_⟩
                  refine wx_done (by kernel_rfl) ?_ _
                  refine W_seq ?_
                  refine W_drawX (fun j => j == 8 || j == 9 || j == 10) mixed ?_; intro w43 hE43
                  replace hX := hX.tr hE43
                  replace hB3 := hB3.ext hE43 id; replace hB6 := hB6.ext hE43 id; replace hB8 := hB8.ext hE43 id
                  replace hP := hP.ext hE43 (fun _ _ h => h)
                  replace hV := hV.ext hE43 (fun _ _ h => h)
                  replace hzB := Nat.le_trans hzB hE43.size
                  replace hO92 := hO92.ext hE43 (fun _ _ h => h)
                  have hS := Ext.refl Non w43
                  refine wx_take 0 [1, 8, 9, 10] _ _ rfl (by kernel_rfl) hS (yd_do fun A hA => rn_fieldAddr f_76_1 (by decide) rfl) ?_
                  refine wx_take 1 [8, 9, 10] _ _ rfl (by kernel_rfl) hS (yd_do fun A hA => rn_load1 p_68 rfl (hB8.ext hA id) rfl) ?_
                  refine wx_take 2 [3, 5, 6, 7, 8, 9, 10] _ _ rfl (by kernel_rfl) hS (yd_do fun A hA => rn_fieldAddr f_76_1 (by decide) rfl) ?_
                  refine wx_take 3 [5, 6, 7, 8, 9, 10] _ _ rfl (by kernel_rfl) hS (yd_do fun A hA => rn_load1 p_68 rfl (hB3.ext hA id) rfl) ?_
                  refine wx_take 4 [5, 6, 7, 8, 9, 10] _ _ rfl (by kernel_rfl) hS (yd_do fun A hA => rn_move (by conv => lhs; whnf)) ?_
                  refine wx_take 5 [6, 7, 8, 9, 10] _ _ rfl (by kernel_rfl) hS (yd_do fun A hA => rn_indexAddr sl_68 rfl rfl (by omega)) ?_
                  refine wx_take 6 [7, 8, 9, 10] _ _ rfl (by kernel_rfl) hS (yd_do fun A hA => rn_load p_9 rfl (((hp.ext hX (fun _ h => h)).ext hA (fun _ h => h.elim)).at0 (fst_at hj) rfl)) ?_
                  refine wx_only 7 _ rfl (by kernel_rfl) ?_
                  refine s1_do ?_
                  refine wl_lit1 (r := eS1 z.1) sl_68 rfl rfl rfl rfl (by decide) ?_; intro v101 w44 b101 hb101 hE44 hO101
                  replace hS := hS.tr hE44
                  refine wl_nil ⟨fun _ => hS, ?_⟩
                  replace hX := hX.tr hS
                  replace hB3 := hB3.ext hS id; replace hB6 := hB6.ext hS id; replace hB8 := hB8.ext hS id
                  replace hP := hP.ext hS (fun _ _ h => h)
                  replace hV := hV.ext hS (fun _ _ h => h)
                  replace hzB := Nat.le_trans hzB hS.size
                  replace hO92 := hO92.ext hS (fun _ _ h => h)
                  refine wx_only 8 _ rfl (by kernel_rfl) ?_
                  refine s1_do ?_
                  have hUo0 := hO92
                  have hUo1 := hV
                  refine wl_app sl_68 rfl rfl rfl hP (hO101.sl (M := Non) id) (fun r hr => by simp only [List.mem_singleton] at hr; subst hr; exact one1 rfl) (by simp only [List.length_map, List.length_append, List.length_cons, List.length_nil]; omega) (by simp only [List.length_map, List.length_append, List.length_cons, List.length_nil, big]; omega) ?_; intro v102 w45 o102 hE45 hO102 hf102
                  obtain ⟨a102, c102, hv102⟩ := id hO102.len; subst hv102
                  have ho102 : ∀ i, o102 = some i → wB.heap.size ≤ i := fun j hj => by rcases hf102 j hj with h | h; exact hoP j h; omega
                  have dKP102 : ∀ j, o92 = some j → o102 ≠ some j := fun j hj e => by rcases hf102 j e with h | h; exact dKP92 j hj h; have := hUo0.lt hj; omega
                  have dPV102 : ∀ j, o102 = some j → qv ≠ some j := fun j hj e => by rcases hf102 j hj with h | h; exact dPV j h e; have := hUo1.lt e; omega
                  replace hX := hX.mineO hE45 (fun i hi => .inr (Nat.le_trans hBw (hoP i hi)))
                  replace hzB := Nat.le_trans hzB hE45.size
                  replace hO92 := hO92.ext hE45 (fun i hi e => dKP92 i hi e)
                  replace hV := hV.ext hE45 (fun i hi e => dPV i e hi)
                  replace hB3 := hB3.ext hE45 (fun e => by have := hoP _ e; omega)
                  replace hB6 := hB6.ext hE45 (fun e => by have := hoP _ e; omega)
                  replace hB8 := hB8.ext hE45 (fun e => by have := hoP _ e; omega)
                  refine wl_nil ⟨fun h => absurd h (by decide), ?_⟩
                  refine wx_only 9 _ rfl (by kernel_rfl) ?_
                  refine s1_do ?_
                  refine wl_val (rn_fieldAddr f_76_1 (by decide) rfl) ?_
                  refine wl_nil ⟨fun h => absurd h (by decide), ?_⟩
                  refine wx_only 10 _ rfl (by kernel_rfl) ?_
                  refine s1_do ?_
                  have hBo := hB8
                  refine wl_store1 (b := b8) p_68 rfl (by conv => lhs; whnf) rfl rfl hB8 (Nat.le_of_ble_eq_true rfl) ?_; intro w46 hE46 hB8 hz46
                  replace hX := hX.mine hE46 hl8
                  replace hB3 := hB3.ext hE46 (fun h => by omega); replace hB6 := hB6.ext hE46 (fun h => by omega)
                  replace hV := hV.ext hE46 (fun i hi e => by have := hoV _ hi; omega)
                  replace hzB := Nat.le_trans hzB hE46.size
                  replace hO92 := hO92.ext hE46 (fun i hi e => by have := ho92 _ hi; omega)
                  replace hO102 := hO102.ext hE46 (fun i hi e => by have := ho102 _ hi; omega)
                  refine wl_nil ⟨fun h => absurd h (by decide), ?_⟩
                  refine wx_done (by kernel_rfl) ?_ _
                  refine W_drawX (fun j => j == 8 || j == 9 || j == 10) mixed ?_; intro w47 hE47
                  replace hX := hX.tr hE47
                  replace hB3 := hB3.ext hE47 id; replace hB6 := hB6.ext hE47 id; replace hB8 := hB8.ext hE47 id
                  replace hV := hV.ext hE47 (fun _ _ h => h)
                  replace hzB := Nat.le_trans hzB hE47.size
                  replace hO92 := hO92.ext hE47 (fun _ _ h => h)
                  replace hO102 := hO102.ext hE47 (fun _ _ h => h)
                  have hS := Ext.refl Non w47
                  refine wx_take 0 [1, 8, 9, 10] _ _ rfl (by kernel_rfl) hS (yd_do fun A hA => rn_fieldAddr f_76_2 (by decide) rfl) ?_
                  refine wx_take 1 [8, 9, 10] _ _ rfl (by kernel_rfl) hS (yd_do fun A hA => rn_load1 p_39 rfl (hB8.ext hA id) rfl) ?_
                  refine wx_take 2 [3, 5, 6, 7, 8, 9, 10] _ _ rfl (by kernel_rfl) hS (yd_do fun A hA => rn_fieldAddr f_76_2 (by decide) rfl) ?_
                  refine wx_take 3 [5, 6, 7, 8, 9, 10] _ _ rfl (by kernel_rfl) hS (yd_do fun A hA => rn_load1 p_39 rfl (hB3.ext hA id) rfl) ?_
                  refine wx_take 4 [5, 6, 7, 8, 9, 10] _ _ rfl (by kernel_rfl) hS (yd_do fun A hA => rn_move (by conv => lhs; whnf)) ?_
                  refine wx_take 5 [6, 7, 8, 9, 10] _ _ rfl (by kernel_rfl) hS (yd_do fun A hA => rn_indexAddr sl_39 rfl rfl (by omega)) ?_
                  refine wx_take 6 [7, 8, 9, 10] _ _ rfl (by kernel_rfl) hS (yd_do fun A hA => rn_load p_3 rfl (((hv.ext hX (fun _ h => h)).ext hA (fun _ h => h.elim)).at0 (snd_at hj) rfl)) ?_
                  refine wx_only 7 _ rfl (by kernel_rfl) ?_
                  refine s1_do ?_
                  refine wl_lit1 (r := eI1 z.2) sl_39 rfl rfl rfl rfl (by decide) ?_; intro v111 w48 b111 hb111 hE48 hO111
                  replace hS := hS.tr hE48
                  refine wl_nil ⟨fun _ => hS, ?_⟩
                  replace hX := hX.tr hS
                  replace hB3 := hB3.ext hS id; replace hB6 := hB6.ext hS id; replace hB8 := hB8.ext hS id
                  replace hV := hV.ext hS (fun _ _ h => h)
                  replace hzB := Nat.le_trans hzB hS.size
                  replace hO92 := hO92.ext hS (fun _ _ h => h)
                  replace hO102 := hO102.ext hS (fun _ _ h => h)
                  refine wx_only 8 _ rfl (by kernel_rfl) ?_
                  refine s1_do ?_
                  have hUo0 := hO92
                  have hUo1 := hO102
                  refine wl_app sl_39 rfl rfl rfl hV (hO111.sl (M := Non) id) (fun r hr => by simp only [List.mem_singleton] at hr; subst hr; exact one1 rfl) (by simp only [List.length_map, List.length_append, List.length_cons, List.length_nil]; omega) (by simp only [List.length_map, List.length_append, List.length_cons, List.length_nil, big]; omega) ?_; intro v112 w49 o112 hE49 hO112 hf112
                  obtain ⟨a112, c112, hv112⟩ := id hO112.len; subst hv112
                  have ho112 : ∀ i, o112 = some i → wB.heap.size ≤ i := fun j hj => by rcases hf112 j hj with h | h; exact hoV j h; omega
                  have dKV112 : ∀ j, o92 = some j → o112 ≠ some j := fun j hj e => by rcases hf112 j e with h | h; exact dKV92 j hj h; have := hUo0.lt hj; omega
                  have dPV112 : ∀ j, o102 = some j → o112 ≠ some j := fun j hj e => by rcases hf112 j e with h | h; exact dPV102 j hj h; have := hUo1.lt hj; omega
                  replace hX := hX.mineO hE49 (fun i hi => .inr (Nat.le_trans hBw (hoV i hi)))
                  replace hzB := Nat.le_trans hzB hE49.size
                  replace hO92 := hO92.ext hE49 (fun i hi e => dKV92 i hi e)
                  replace hO102 := hO102.ext hE49 (fun i hi e => dPV102 i hi e)
                  replace hB3 := hB3.ext hE49 (fun e => by have := hoV _ e; omega)
                  replace hB6 := hB6.ext hE49 (fun e => by have := hoV _ e; omega)
                  replace hB8 := hB8.ext hE49 (fun e => by have := hoV _ e; omega)
                  refine wl_nil ⟨fun h => absurd h (by decide), ?_⟩
                  refine wx_only 9 _ rfl (by kernel_rfl) ?_
                  refine s1_do ?_
                  refine wl_val (rn_fieldAddr f_76_2 (by decide) rfl) ?_
                  refine wl_nil ⟨fun h => absurd h (by decide), ?_⟩
                  refine wx_only 10 _ rfl (by kernel_rfl) ?_
                  refine s1_do ?_
                  have hBo := hB8
                  refine wl_store1 (b := b8) p_39 rfl (by conv => lhs; whnf) rfl rfl hB8 (Nat.le_of_ble_eq_true rfl) ?_; intro w50 hE50 hB8 hz50
                  replace hX := hX.mine hE50 hl8
                  replace hB3 := hB3.ext hE50 (fun h => by omega); replace hB6 := hB6.ext hE50 (fun h => by omega)
                  replace hzB := Nat.le_trans hzB hE50.size
                  replace hO92 := hO92.ext hE50 (fun i hi e => by have := ho92 _ hi; omega)
                  replace hO102 := hO102.ext hE50 (fun i hi e => by have := ho102 _ hi; omega)
                  replace hO112 := hO112.ext hE50 (fun i hi e => by have := ho112 _ hi; omega)
                  refine wl_nil ⟨fun h => absurd h (by decide), ?_⟩
                  refine wx_done (by kernel_rfl) ?_ _
                  refine W_region ?_
                  refine wl_val (rn_move (by conv => lhs; whnf)) ?_
                  refine wl_val (rn_add rfl rfl (by omega)) ?_
                  refine wl_val (rn_assign (by conv => lhs; whnf)) ?_
                  refine wl_nil ?_
                  
                  exact ⟨rfl, (i + 1, _, _, _, o92, o102, o112), ⟨rfl, rfl, rfl, rfl, rfl, (congrArg Value.bool (show (decide (p = []) || decide (lb ltS ks t < i)) = (decide (p = []) || decide (lb ltS ks t < i + 1)) from by rw [decide_eq_false (show ¬ lb ltS ks t < i by omega), decide_eq_false (show ¬ lb ltS ks t < i + 1 by omega)])), rfl, trivial⟩, ⟨hX, hB3, hB6, hB8, hl3, hl6, hl8, hn3_6, hn3_8, hn6_8, ⟨hzB, by omega, by rw [oAt_lo he hlo hi, List.map_append]; exact hO92, by rw [oAt_lo he hlo (show (ys.map Prod.fst)[i]? = some z.1 from by simp [hj]), List.map_append]; exact hO102, by rw [oAt_lo he hlo (show (ys.map Prod.snd)[i]? = some z.2 from by simp [hj]), List.map_append]; exact hO112, ho92, ho102, ho112, dKP102, dKV112, dPV112⟩⟩, by show ks.length + 1 - (i + 1) < ks.length + 1 - i; omega⟩
                · have hyx : y = t := by simpa using of_decide_eq_false hc4
                  obtain ⟨ha, hib⟩ := hka.1 hyx
                  exact absurd hib (by omega)
              · have hie2 : i = ks.length := by have := of_decide_eq_false hg75; omega
                exact absurd (of_decide_eq_false hg75) (by omega)
        · have hd1 : (decide (p = []) || decide (lb ltS ks t < i)) = true := by cases hb : (decide (p = []) || decide (lb ltS ks t < i)); (rw [hb] at hg34; cases hg34); rfl
          have hd : decide (p = []) = true ∨ lb ltS ks t < i := by have h := hd1; rw [Bool.or_eq_true] at h; exact h.imp id of_decide_eq_true
          have hd2 : (decide (p = []) || decide (lb ltS ks t < i + 1)) = true := by rcases hd with h | h; rw [h]; rfl; rw [decide_eq_true (show lb ltS ks t < i + 1 by omega), Bool.or_true]
          refine wl_no rfl (congrArg Value.bool hg34) ?_
          refine wl_no rfl (congrArg Value.bool hg34) ?_
          refine wl_no rfl (congrArg Value.bool hg34) ?_
          refine wl_no rfl (congrArg Value.bool hg34) ?_
          refine wl_no rfl (congrArg Value.bool hg34) ?_
          refine wl_no rfl (congrArg Value.bool hg34) ?_
          refine wl_nou rfl rfl ?_
          refine wl_nou rfl rfl ?_
          refine wl_nou rfl rfl ?_
          refine wl_nou rfl rfl ?_
          refine wl_nou rfl rfl ?_
          refine wl_nou rfl rfl ?_
          refine wl_nou rfl rfl ?_
          refine wl_nou rfl rfl ?_
          refine wl_no rfl (congrArg Value.bool hg34) ?_
          refine wl_val (rn_pickF (congrArg Value.bool hg34) (by conv => lhs; whnf)) ?_
          refine wl_nil ?_
          refine W_condF rfl ?_
          refine W_skip ?_
          refine W_seq ?_
          refine W_region ?_
          refine wl_val (rn_move (by conv => lhs; whnf)) ?_
          refine wl_val (rn_fieldAddr f_76_0 (by decide) rfl) ?_
          refine wl_val (rn_load1 p_68 rfl hB3 rfl) ?_
          refine wl_val (rn_len sl_68 rfl) ?_
          refine wl_val (rn_lss rfl rfl) ?_
          refine wl_val (rn_move (by conv => lhs; whnf)) ?_
          refine wl_split (d := 75) rfl (fun hg75 => ?_) (fun hg75 => ?_)
          · have hlt : i < ks.length := by have := of_decide_eq_true hg75; omega
            obtain ⟨y, hi⟩ : ∃ y, ks[i]? = some y := ⟨_, List.getElem?_eq_getElem hlt⟩
            obtain ⟨z, hj⟩ : ∃ z, ys[i]? = some z := ⟨_, List.getElem?_eq_getElem (by omega)⟩
            try (obtain ⟨bb, oo, ea⟩ := hk.base (by intro e; have := congrArg List.length e; simp only [List.length_map, List.length_nil] at this; omega); subst ea)
            try (obtain ⟨bb2, oo2, ea2⟩ := hp.base (by intro e; have := congrArg List.length e; simp only [List.length_map, List.length_nil] at this; omega); subst ea2)
            try (obtain ⟨bb3, oo3, ea3⟩ := hv.base (by intro e; have := congrArg List.length e; simp only [List.length_map, List.length_nil] at this; omega); subst ea3)
            have hka := (key_at lo_str hord hi (x := t)).2
            refine wl_yes rfl (congrArg Value.bool hg75) ?_
            refine wl_val (rn_fieldAddr f_76_0 (by decide) rfl) ?_
            refine wl_yes rfl (congrArg Value.bool hg75) ?_
            refine wl_val (rn_load1 p_68 rfl hB3 rfl) ?_
            refine wl_yes rfl (congrArg Value.bool hg75) ?_
            refine wl_val (rn_move (by conv => lhs; whnf)) ?_
            refine wl_yes rfl (congrArg Value.bool hg75) ?_
            refine wl_val (rn_indexAddr sl_68 rfl rfl (by omega)) ?_
            refine wl_yes rfl (congrArg Value.bool hg75) ?_
            refine wl_val (rn_load p_9 rfl ((hk.ext hX (fun _ h => h)).at0 (eS_at hi) rfl)) ?_
            refine wl_yes rfl (congrArg Value.bool hg75) ?_
            refine wl_val (rn_move (by conv => lhs; whnf)) ?_
            refine wl_yes rfl (congrArg Value.bool hg75) ?_
            refine wl_val (rn_sneq rfl rfl) ?_
            refine wl_val (rn_pickT (congrArg Value.bool hg75) (by conv => lhs; whnf)) ?_
            refine wl_nil ?_
            refine W_cond rfl (fun hc4 => ?_) (fun hc4 => ?_)
            · have hyx : ¬ y = t := by simpa using of_decide_eq_true hc4
              refine W_seq ?_
              refine W_drawX (fun j => j == 8 || j == 9 || j == 10) mixed ?_; intro w51 hE51
              replace hX := hX.tr hE51
              replace hB3 := hB3.ext hE51 id; replace hB6 := hB6.ext hE51 id; replace hB8 := hB8.ext hE51 id
              replace hO := hO.ext hE51 (fun _ _ h => h)
              replace hP := hP.ext hE51 (fun _ _ h => h)
              replace hV := hV.ext hE51 (fun _ _ h => h)
              replace hzB := Nat.le_trans hzB hE51.size
              have hS := Ext.refl Non w51
              refine wx_take 0 [1, 8, 9, 10] _ _ rfl (by kernel_rfl) hS (yd_do fun A hA => rn_fieldAddr f_76_0 (by decide) rfl) ?_
              refine wx_take 1 [8, 9, 10] _ _ rfl (by kernel_rfl) hS (yd_do fun A hA => rn_load1 p_68 rfl (hB8.ext hA id) rfl) ?_
              refine wx_take 2 [3, 5, 6, 7, 8, 9, 10] _ _ rfl (by kernel_rfl) hS (yd_do fun A hA => rn_fieldAddr f_76_0 (by decide) rfl) ?_
              refine wx_take 3 [5, 6, 7, 8, 9, 10] _ _ rfl (by kernel_rfl) hS (yd_do fun A hA => rn_load1 p_68 rfl (hB3.ext hA id) rfl) ?_
              refine wx_take 4 [5, 6, 7, 8, 9, 10] _ _ rfl (by kernel_rfl) hS (yd_do fun A hA => rn_move (by conv => lhs; whnf)) ?_
              refine wx_take 5 [6, 7, 8, 9, 10] _ _ rfl (by kernel_rfl) hS (yd_do fun A hA => rn_indexAddr sl_68 rfl rfl (by omega)) ?_
              refine wx_take 6 [7, 8, 9, 10] _ _ rfl (by kernel_rfl) hS (yd_do fun A hA => rn_load p_9 rfl (((hk.ext hX (fun _ h => h)).ext hA (fun _ h => h.elim)).at0 (eS_at hi) rfl)) ?_
              refine wx_only 7 _ rfl (by kernel_rfl) ?_
              refine s1_do ?_
              refine wl_lit1 (r := eS1 y) sl_68 rfl rfl rfl rfl (by decide) ?_; intro v91 w52 b91 hb91 hE52 hO91
              replace hS := hS.tr hE52
              refine wl_nil ⟨fun _ => hS, ?_⟩
              replace hX := hX.tr hS
              replace hB3 := hB3.ext hS id; replace hB6 := hB6.ext hS id; replace hB8 := hB8.ext hS id
              replace hO := hO.ext hS (fun _ _ h => h)
              replace hP := hP.ext hS (fun _ _ h => h)
              replace hV := hV.ext hS (fun _ _ h => h)
              replace hzB := Nat.le_trans hzB hS.size
              refine wx_only 8 _ rfl (by kernel_rfl) ?_
              refine s1_do ?_
              have hUo0 := hP
              have hUo1 := hV
              refine wl_app sl_68 rfl rfl rfl hO (hO91.sl (M := Non) id) (fun r hr => by simp only [List.mem_singleton] at hr; subst hr; exact one1 rfl) (by simp only [List.length_map, List.length_append, List.length_cons, List.length_nil]; omega) (by simp only [List.length_map, List.length_append, List.length_cons, List.length_nil, big]; omega) ?_; intro v92 w53 o92 hE53 hO92 hf92
              obtain ⟨a92, c92, hv92⟩ := id hO92.len; subst hv92
              have ho92 : ∀ i, o92 = some i → wB.heap.size ≤ i := fun j hj => by rcases hf92 j hj with h | h; exact hoK j h; omega
              have dKP92 : ∀ j, o92 = some j → qp ≠ some j := fun j hj e => by rcases hf92 j hj with h | h; exact dKP j h e; have := hUo0.lt e; omega
              have dKV92 : ∀ j, o92 = some j → qv ≠ some j := fun j hj e => by rcases hf92 j hj with h | h; exact dKV j h e; have := hUo1.lt e; omega
              replace hX := hX.mineO hE53 (fun i hi => .inr (Nat.le_trans hBw (hoK i hi)))
              replace hzB := Nat.le_trans hzB hE53.size
              replace hP := hP.ext hE53 (fun i hi e => dKP i e hi)
              replace hV := hV.ext hE53 (fun i hi e => dKV i e hi)
              replace hB3 := hB3.ext hE53 (fun e => by have := hoK _ e; omega)
              replace hB6 := hB6.ext hE53 (fun e => by have := hoK _ e; omega)
              replace hB8 := hB8.ext hE53 (fun e => by have := hoK _ e; omega)
              refine wl_nil ⟨fun h => absurd h (by decide), ?_⟩
              refine wx_only 9 _ rfl (by kernel_rfl) ?_
              refine s1_do ?_
              refine wl_val (rn_fieldAddr f_76_0 (by decide) rfl) ?_
              refine wl_nil ⟨fun h => absurd h (by decide), ?_⟩
              refine wx_only 10 _ rfl (by kernel_rfl) ?_
              refine s1_do ?_
              have hBo := hB8
              refine wl_store1 (b := b8) p_68 rfl (by conv => lhs; whnf) rfl rfl hB8 (Nat.le_of_ble_eq_true rfl) ?_; intro w54 hE54 hB8 hz54
              replace hX := hX.mine hE54 hl8
              replace hB3 := hB3.ext hE54 (fun h => by omega); replace hB6 := hB6.ext hE54 (fun h => by omega)
              replace hP := hP.ext hE54 (fun i hi e => by have := hoP _ hi; omega)
              replace hV := hV.ext hE54 (fun i hi e => by have := hoV _ hi; omega)
              replace hzB := Nat.le_trans hzB hE54.size
              replace hO92 := hO92.ext hE54 (fun i hi e => by have := ho92 _ hi; omega)
              refine wl_nil ⟨fun h => absurd h (by decide), ?_⟩
              refine wx_done (by kernel_rfl) ?_ _
              refine W_seq ?_
              refine W_drawX (fun j => j == 8 || j == 9 || j == 10) mixed ?_; intro w55 hE55
              replace hX := hX.tr hE55
              replace hB3 := hB3.ext hE55 id; replace hB6 := hB6.ext hE55 id; replace hB8 := hB8.ext hE55 id
              replace hP := hP.ext hE55 (fun _ _ h => h)
              replace hV := hV.ext hE55 (fun _ _ h => h)
              replace hzB := Nat.le_trans hzB hE55.size
              replace hO92 := hO92.ext hE55 (fun _ _ h => h)
              have hS := Ext.refl Non w55
              refine wx_take 0 [1, 8, 9, 10] _ _ rfl (by kernel_rfl) hS (yd_do fun A hA => rn_fieldAddr f_76_1 (by decide) rfl) ?_
              refine wx_take 1 [8, 9, 10] _ _ rfl (by kernel_rfl) hS (yd_do fun A hA => rn_load1 p_68 rfl (hB8.ext hA id) rfl) ?_
              refine wx_take 2 [3, 5, 6, 7, 8, 9, 10] _ _ rfl (by kernel_rfl) hS (yd_do fun A hA => rn_fieldAddr f_76_1 (by decide) rfl) ?_
              refine wx_take 3 [5, 6, 7, 8, 9, 10] _ _ rfl (by kernel_rfl) hS (yd_do fun A hA => rn_load1 p_68 rfl (hB3.ext hA id) rfl) ?_
              refine wx_take 4 [5, 6, 7, 8, 9, 10] _ _ rfl (by kernel_rfl) hS (yd_do fun A hA => rn_move (by conv => lhs; whnf)) ?_
              refine wx_take 5 [6, 7, 8, 9, 10] _ _ rfl (by kernel_rfl) hS (yd_do fun A hA => rn_indexAddr sl_68 rfl rfl (by omega)) ?_
              refine wx_take 6 [7, 8, 9, 10] _ _ rfl (by kernel_rfl) hS (yd_do fun A hA => rn_load p_9 rfl (((hp.ext hX (fun _ h => h)).ext hA (fun _ h => h.elim)).at0 (fst_at hj) rfl)) ?_
              refine wx_only 7 _ rfl (by kernel_rfl) ?_
              refine s1_do ?_
              refine wl_lit1 (r := eS1 z.1) sl_68 rfl rfl rfl rfl (by decide) ?_; intro v101 w56 b101 hb101 hE56 hO101
              replace hS := hS.tr hE56
              refine wl_nil ⟨fun _ => hS, ?_⟩
              replace hX := hX.tr hS
              replace hB3 := hB3.ext hS id; replace hB6 := hB6.ext hS id; replace hB8 := hB8.ext hS id
              replace hP := hP.ext hS (fun _ _ h => h)
              replace hV := hV.ext hS (fun _ _ h => h)
              replace hzB := Nat.le_trans hzB hS.size
              replace hO92 := hO92.ext hS (fun _ _ h => h)
              refine wx_only 8 _ rfl (by kernel_rfl) ?_
              refine s1_do ?_
              have hUo0 := hO92
              have hUo1 := hV
              refine wl_app sl_68 rfl rfl rfl hP (hO101.sl (M := Non) id) (fun r hr => by simp only [List.mem_singleton] at hr; subst hr; exact one1 rfl) (by simp only [List.length_map, List.length_append, List.length_cons, List.length_nil]; omega) (by simp only [List.length_map, List.length_append, List.length_cons, List.length_nil, big]; omega) ?_; intro v102 w57 o102 hE57 hO102 hf102
              obtain ⟨a102, c102, hv102⟩ := id hO102.len; subst hv102
              have ho102 : ∀ i, o102 = some i → wB.heap.size ≤ i := fun j hj => by rcases hf102 j hj with h | h; exact hoP j h; omega
              have dKP102 : ∀ j, o92 = some j → o102 ≠ some j := fun j hj e => by rcases hf102 j e with h | h; exact dKP92 j hj h; have := hUo0.lt hj; omega
              have dPV102 : ∀ j, o102 = some j → qv ≠ some j := fun j hj e => by rcases hf102 j hj with h | h; exact dPV j h e; have := hUo1.lt e; omega
              replace hX := hX.mineO hE57 (fun i hi => .inr (Nat.le_trans hBw (hoP i hi)))
              replace hzB := Nat.le_trans hzB hE57.size
              replace hO92 := hO92.ext hE57 (fun i hi e => dKP92 i hi e)
              replace hV := hV.ext hE57 (fun i hi e => dPV i e hi)
              replace hB3 := hB3.ext hE57 (fun e => by have := hoP _ e; omega)
              replace hB6 := hB6.ext hE57 (fun e => by have := hoP _ e; omega)
              replace hB8 := hB8.ext hE57 (fun e => by have := hoP _ e; omega)
              refine wl_nil ⟨fun h => absurd h (by decide), ?_⟩
              refine wx_only 9 _ rfl (by kernel_rfl) ?_
              refine s1_do ?_
              refine wl_val (rn_fieldAddr f_76_1 (by decide) rfl) ?_
              refine wl_nil ⟨fun h => absurd h (by decide), ?_⟩
              refine wx_only 10 _ rfl (by kernel_rfl) ?_
              refine s1_do ?_
              have hBo := hB8
              refine wl_store1 (b := b8) p_68 rfl (by conv => lhs; whnf) rfl rfl hB8 (Nat.le_of_ble_eq_true rfl) ?_; intro w58 hE58 hB8 hz58
              replace hX := hX.mine hE58 hl8
              replace hB3 := hB3.ext hE58 (fun h => by omega); replace hB6 := hB6.ext hE58 (fun h => by omega)
              replace hV := hV.ext hE58 (fun i hi e => by have := hoV _ hi; omega)
              replace hzB := Nat.le_trans hzB hE58.size
              replace hO92 := hO92.ext hE58 (fun i hi e => by have := ho92 _ hi; omega)
              replace hO102 := hO102.ext hE58 (fun i hi e => by have := ho102 _ hi; omega)
              refine wl_nil ⟨fun h => absurd h (by decide), ?_⟩
              refine wx_done (by kernel_rfl) ?_ _
              refine W_drawX (fun j => j == 8 || j == 9 || j == 10) mixed ?_; intro w59 hE59
              replace hX := hX.tr hE59
              replace hB3 := hB3.ext hE59 id; replace hB6 := hB6.ext hE59 id; replace hB8 := hB8.ext hE59 id
              replace hV := hV.ext hE59 (fun _ _ h => h)
              replace hzB := Nat.le_trans hzB hE59.size
              replace hO92 := hO92.ext hE59 (fun _ _ h => h)
              replace hO102 := hO102.ext hE59 (fun _ _ h => h)
              have hS := Ext.refl Non w59
              refine wx_take 0 [1, 8, 9, 10] _ _ rfl (by kernel_rfl) hS (yd_do fun A hA => rn_fieldAddr f_76_2 (by decide) rfl) ?_
              refine wx_take 1 [8, 9, 10] _ _ rfl (by kernel_rfl) hS (yd_do fun A hA => rn_load1 p_39 rfl (hB8.ext hA id) rfl) ?_
              refine wx_take 2 [3, 5, 6, 7, 8, 9, 10] _ _ rfl (by kernel_rfl) hS (yd_do fun A hA => rn_fieldAddr f_76_2 (by decide) rfl) ?_
              refine wx_take 3 [5, 6, 7, 8, 9, 10] _ _ rfl (by kernel_rfl) hS (yd_do fun A hA => rn_load1 p_39 rfl (hB3.ext hA id) rfl) ?_
              refine wx_take 4 [5, 6, 7, 8, 9, 10] _ _ rfl (by kernel_rfl) hS (yd_do fun A hA => rn_move (by conv => lhs; whnf)) ?_
              refine wx_take 5 [6, 7, 8, 9, 10] _ _ rfl (by kernel_rfl) hS (yd_do fun A hA => rn_indexAddr sl_39 rfl rfl (by omega)) ?_
              refine wx_take 6 [7, 8, 9, 10] _ _ rfl (by kernel_rfl) hS (yd_do fun A hA => rn_load p_3 rfl (((hv.ext hX (fun _ h => h)).ext hA (fun _ h => h.elim)).at0 (snd_at hj) rfl)) ?_
              refine wx_only 7 _ rfl (by kernel_rfl) ?_
              refine s1_do ?_
              refine wl_lit1 (r := eI1 z.2) sl_39 rfl rfl rfl rfl (by decide) ?_; intro v111 w60 b111 hb111 hE60 hO111
              replace hS := hS.tr hE60
              refine wl_nil ⟨fun _ => hS, ?_⟩
              replace hX := hX.tr hS
              replace hB3 := hB3.ext hS id; replace hB6 := hB6.ext hS id; replace hB8 := hB8.ext hS id
              replace hV := hV.ext hS (fun _ _ h => h)
              replace hzB := Nat.le_trans hzB hS.size
              replace hO92 := hO92.ext hS (fun _ _ h => h)
              replace hO102 := hO102.ext hS (fun _ _ h => h)
              refine wx_only 8 _ rfl (by kernel_rfl) ?_
              refine s1_do ?_
              have hUo0 := hO92
              have hUo1 := hO102
              refine wl_app sl_39 rfl rfl rfl hV (hO111.sl (M := Non) id) (fun r hr => by simp only [List.mem_singleton] at hr; subst hr; exact one1 rfl) (by simp only [List.length_map, List.length_append, List.length_cons, List.length_nil]; omega) (by simp only [List.length_map, List.length_append, List.length_cons, List.length_nil, big]; omega) ?_; intro v112 w61 o112 hE61 hO112 hf112
              obtain ⟨a112, c112, hv112⟩ := id hO112.len; subst hv112
              have ho112 : ∀ i, o112 = some i → wB.heap.size ≤ i := fun j hj => by rcases hf112 j hj with h | h; exact hoV j h; omega
              have dKV112 : ∀ j, o92 = some j → o112 ≠ some j := fun j hj e => by rcases hf112 j e with h | h; exact dKV92 j hj h; have := hUo0.lt hj; omega
              have dPV112 : ∀ j, o102 = some j → o112 ≠ some j := fun j hj e => by rcases hf112 j e with h | h; exact dPV102 j hj h; have := hUo1.lt hj; omega
              replace hX := hX.mineO hE61 (fun i hi => .inr (Nat.le_trans hBw (hoV i hi)))
              replace hzB := Nat.le_trans hzB hE61.size
              replace hO92 := hO92.ext hE61 (fun i hi e => dKV92 i hi e)
              replace hO102 := hO102.ext hE61 (fun i hi e => dPV102 i hi e)
              replace hB3 := hB3.ext hE61 (fun e => by have := hoV _ e; omega)
              replace hB6 := hB6.ext hE61 (fun e => by have := hoV _ e; omega)
              replace hB8 := hB8.ext hE61 (fun e => by have := hoV _ e; omega)
              refine wl_nil ⟨fun h => absurd h (by decide), ?_⟩
              refine wx_only 9 _ rfl (by kernel_rfl) ?_
              refine s1_do ?_
              refine wl_val (rn_fieldAddr f_76_2 (by decide) rfl) ?_
              refine wl_nil ⟨fun h => absurd h (by decide), ?_⟩
              refine wx_only 10 _ rfl (by kernel_rfl) ?_
              refine s1_do ?_
              have hBo := hB8
              refine wl_store1 (b := b8) p_39 rfl (by conv => lhs; whnf) rfl rfl hB8 (Nat.le_of_ble_eq_true rfl) ?_; intro w62 hE62 hB8 hz62
              replace hX := hX.mine hE62 hl8
              replace hB3 := hB3.ext hE62 (fun h => by omega); replace hB6 := hB6.ext hE62 (fun h => by omega)
              replace hzB := Nat.le_trans hzB hE62.size
              replace hO92 := hO92.ext hE62 (fun i hi e => by have := ho92 _ hi; omega)
              replace hO102 := hO102.ext hE62 (fun i hi e => by have := ho102 _ hi; omega)
              replace hO112 := hO112.ext hE62 (fun i hi e => by have := ho112 _ hi; omega)
              refine wl_nil ⟨fun h => absurd h (by decide), ?_⟩
              refine wx_done (by kernel_rfl) ?_ _
              refine W_region ?_
              refine wl_val (rn_move (by conv => lhs; whnf)) ?_
              refine wl_val (rn_add rfl rfl (by omega)) ?_
              refine wl_val (rn_assign (by conv => lhs; whnf)) ?_
              refine wl_nil ?_
              
              exact ⟨rfl, (i + 1, _, _, _, o92, o102, o112), ⟨rfl, rfl, rfl, rfl, rfl, (congrArg Value.bool (show (decide (p = []) || decide (lb ltS ks t < i)) = (decide (p = []) || decide (lb ltS ks t < i + 1)) from by rw [hd1, hd2])), rfl, trivial⟩, ⟨hX, hB3, hB6, hB8, hl3, hl6, hl8, hn3_6, hn3_8, hn6_8, ⟨hzB, by omega, by rw [oAt_dn hd (fun h => hyx (hka.2 h)) hi, List.map_append]; exact hO92, by rw [oAt_dn hd (fun h => hyx (hka.2 h)) (show (ys.map Prod.fst)[i]? = some z.1 from by simp [hj]), List.map_append]; exact hO102, by rw [oAt_dn hd (fun h => hyx (hka.2 h)) (show (ys.map Prod.snd)[i]? = some z.2 from by simp [hj]), List.map_append]; exact hO112, ho92, ho102, ho112, dKP102, dKV112, dPV112⟩⟩, by show ks.length + 1 - (i + 1) < ks.length + 1 - i; omega⟩
            · have hyx : y = t := by simpa using of_decide_eq_false hc4
              obtain ⟨ha, hib⟩ := hka.1 hyx
              refine W_skip ?_
              refine W_region ?_
              refine wl_val (rn_move (by conv => lhs; whnf)) ?_
              refine wl_val (rn_add rfl rfl (by omega)) ?_
              refine wl_val (rn_assign (by conv => lhs; whnf)) ?_
              refine wl_nil ?_
              
              exact ⟨rfl, (i + 1, _, _, _, qk, qp, qv), ⟨rfl, rfl, rfl, rfl, rfl, (congrArg Value.bool (show (decide (p = []) || decide (lb ltS ks t < i)) = (decide (p = []) || decide (lb ltS ks t < i + 1)) from by rw [hd1, hd2])), rfl, trivial⟩, ⟨hX, hB3, hB6, hB8, hl3, hl6, hl8, hn3_6, hn3_8, hn6_8, ⟨hzB, by omega, by rw [oAt_sk hd ha hib hi]; exact hO, by rw [oAt_sk hd ha hib (show (ys.map Prod.fst)[i]? = some z.1 from by simp [hj])]; exact hP, by rw [oAt_sk hd ha hib (show (ys.map Prod.snd)[i]? = some z.2 from by simp [hj])]; exact hV, hoK, hoP, hoV, dKP, dKV, dPV⟩⟩, by show ks.length + 1 - (i + 1) < ks.length + 1 - i; omega⟩
          · have hie2 : i = ks.length := by have := of_decide_eq_false hg75; omega
            refine wl_no rfl (congrArg Value.bool hg75) ?_
            refine wl_no rfl (congrArg Value.bool hg75) ?_
            refine wl_no rfl (congrArg Value.bool hg75) ?_
            refine wl_no rfl (congrArg Value.bool hg75) ?_
            refine wl_no rfl (congrArg Value.bool hg75) ?_
            refine wl_no rfl (congrArg Value.bool hg75) ?_
            refine wl_no rfl (congrArg Value.bool hg75) ?_
            refine wl_val (rn_pickF (congrArg Value.bool hg75) (by conv => lhs; whnf)) ?_
            refine wl_nil ?_
            refine W_condF rfl ?_
            refine W_skip ?_
            refine W_region ?_
            refine wl_val (rn_move (by conv => lhs; whnf)) ?_
            refine wl_val (rn_add rfl rfl (by omega)) ?_
            refine wl_val (rn_assign (by conv => lhs; whnf)) ?_
            refine wl_nil ?_
            
            exact ⟨rfl, (i + 1, _, _, _, qk, qp, qv), ⟨rfl, rfl, rfl, rfl, rfl, (congrArg Value.bool (show (decide (p = []) || decide (lb ltS ks t < i)) = (decide (p = []) || decide (lb ltS ks t < i + 1)) from by rw [hd1, hd2])), rfl, trivial⟩, ⟨hX, hB3, hB6, hB8, hl3, hl6, hl8, hn3_6, hn3_8, hn6_8, ⟨hzB, by omega, by rw [oAt_past hd (by omega)]; exact hO, by rw [oAt_past hd (by rw [List.length_map]; omega)]; exact hP, by rw [oAt_past hd (by rw [List.length_map]; omega)]; exact hV, hoK, hoP, hoV, dKP, dKV, dPV⟩⟩, by show ks.length + 1 - (i + 1) < ks.length + 1 - i; omega⟩
      · have hge := of_decide_eq_false hc2
        have hie : i = ks.length + 1 := by omega
        subst hie
        have eK : (oAt (decide (p = [])) (lb ltS ks t) (isAt ltS ks t) ks t (ks.length + 1)) = kK ks t p := by rw [oAt_fin p rfl, kK_eq]
        have eP : (oAt (decide (p = [])) (lb ltS ks t) (isAt ltS ks t) (ys.map Prod.fst) p (ks.length + 1)) = (kY ks ys ver t p).map Prod.fst := by rw [oAt_fin p (by rw [List.length_map]; exact hle), kY_fst ks ys ver]
        have eV : (oAt (decide (p = [])) (lb ltS ks t) (isAt ltS ks t) (ys.map Prod.snd) (ver + 1) (ks.length + 1)) = (kY ks ys ver t p).map Prod.snd := by rw [oAt_fin p (by rw [List.length_map]; exact hle), kY_snd]
        refine W_exit ?_   -- exit 0
        refine W_seq ?_
        refine W_region ?_
        refine wl_val (rn_loadB s_76 rfl rfl hB8) ?_
        have hBo := hB6
        refine wl_storeB s_76 rfl rfl rfl (by intro x hx; simp only [List.mem_cons, List.not_mem_nil, or_false] at hx; rcases hx with rfl | rfl | rfl | rfl <;> rfl) hB6 rfl ?_; intro w63 hE63 hB6 hz63
        replace hX := hX.mine hE63 hl6
        replace hB3 := hB3.ext hE63 (fun h => by omega); replace hB8 := hB8.ext hE63 (fun h => by omega)
        replace hO := hO.ext hE63 (fun i hi e => by have := hoK _ hi; omega)
        replace hP := hP.ext hE63 (fun i hi e => by have := hoP _ hi; omega)
        replace hV := hV.ext hE63 (fun i hi e => by have := hoV _ hi; omega)
        replace hzB := Nat.le_trans hzB hE63.size
        refine wl_val (rn_assign (by conv => lhs; whnf)) ?_
        refine wl_nil ?_
        refine W_ret ?_
        exact ⟨_, resR2 (res1_box s_76 rfl hB6 rfl) (res1_tmp rfl), hX, ⟨_, _, _, by rw [he0]; rfl, by rw [if_pos he0, ← eK]; exact hO.sl (fun i hi h => by have h1 := hoK _ hi; have h2 := hM i h; omega), by rw [if_pos he0, ← eP]; exact hP.sl (fun i hi h => by have h1 := hoP _ hi; have h2 := hM i h; omega), by rw [if_pos he0, ← eV]; exact hV.sl (fun i hi h => by have h1 := hoV _ hi; have h2 := hM i h; omega)⟩⟩
end Go.Proofs.YthcclgoidchkdaaDoorC
