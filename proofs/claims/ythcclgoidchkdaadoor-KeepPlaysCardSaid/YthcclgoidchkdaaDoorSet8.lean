/- A key's going out of a map; a map's keys with their values, one by one; the document's maps. -/
import Derived.Test.YthcclgoidchkdaaDoorSet3
import Derived.Test.YthcclgoidchkdaaDoorOrd2
import Derived.Test.YthcclgoidchkdaaDoorCoreU
import Derived.Test.YthcclgoidchkdaaDoorCoreQ
set_option linter.unusedVariables false
set_option linter.unusedSimpArgs false
set_option maxRecDepth 100000
namespace Go.Proofs.YthcclgoidchkdaaDoorC
open Go.RowKit
theorem dropK_no {κ : Type} [DecidableEq κ] {lt : κ → κ → Bool} {l : List κ} {x : κ} (h : isAt lt l x = false) : dropK lt l x = l := by unfold dropK; rw [if_neg (by rw [h]; simp)]
theorem dropV_no {κ β : Type} [DecidableEq κ] {lt : κ → κ → Bool} {l : List κ} {x : κ} {vs : List β} (h : isAt lt l x = false) : dropV lt l x vs = vs := by unfold dropV; rw [if_neg (by rw [h]; simp)]
theorem dropK_yes {κ γ : Type} [DecidableEq κ] {lt : κ → κ → Bool} {l : List κ} {x : κ} (e : κ → γ) (h : isAt lt l x = true) : (dropK lt l x).map e = (l.map e).take (lb lt l x) ++ (l.map e).drop (lb lt l x + 1) := by unfold dropK; rw [if_pos h]; simp [List.map_take, List.map_drop]
theorem dropV_yes {κ β : Type} [DecidableEq κ] {lt : κ → κ → Bool} {l : List κ} {x : κ} {vs : List β} (h : isAt lt l x = true) : dropV lt l x vs = vs.take (lb lt l x) ++ vs.drop (lb lt l x + 1) := by unfold dropV; rw [if_pos h]
theorem u8_ltd (c d : UInt8) : decide ((c.toNat : Int) < (d.toNat : Int)) = decide (c < d) := decide_eq_decide.2 (by rw [UInt8.lt_iff_toNat_lt]; omega)
theorem zip_take_add {α β : Type} {l : List α} {m : List β} {i : Nat} {x : α} {y : β} (hx : l[i]? = some x) (hy : m[i]? = some y) : (l.zip m)[i]? = some (x, y) := by simp [List.getElem?_zip_eq_some, hx, hy]
theorem u8_eq2 {c d : UInt8} (h : (c.toNat : Int) = (d.toNat : Int)) : c = d := UInt8.toNat_inj.1 (by omega)
-- (bellman/set.Map[string, bellman/keep.entry]).Drop
set_option maxHeartbeats 800000 in
theorem mdrop_se (w : World) (M : Nat → Prop) (hM : ∀ i, M i → i < w.heap.size) (ks : List Str) (vs : List (List Value)) {v1 v2 : Value} (x : Str) (hmM : MapR M w eS1 2 v1 v2 ks vs) (hord : Sorted ltS ks) (hn : ks.length ≤ 1000000) (hv1 : ∀ r ∈ vs, ∀ u ∈ r, u.oneCell' = true) : Fn Tryd.prog 79 #[.agg #[v1, v2], Sv x] w fun u w' => ∃ u1 u2, u = .agg #[u1, u2] ∧ MapR M w' eS1 2 u1 u2 (dropK ltS ks x) (dropV ltS ks x vs) := by
  have hm := hmM.sub (M' := Non) (fun _ h _ => h.elim)
  obtain ⟨q1, n1, c1, rfl⟩ := hm.keys.shape; obtain ⟨q2, n2, c2, rfl⟩ := hm.vals.shape
  have hlb := lb_le (lt := ltS) ks x
  have hlen := hm.len
  have hX := Ext.refl Non w
  refine fn_of_W (args := [_, _]) Tryd.func79 rfl (by kernel_rfl) rfl ?_
  refine W_seq ?_
  refine W_region ?_
  refine wl_boxS rfl ?_; intro b2 w1 hb2 hE1 hB2
  have hq2 : w.heap.size ≤ b2 := Nat.le_trans hX.size hb2
  have hl2 : Mine Non w b2 := .inr hq2
  replace hX := hX.tr hE1
  refine wl_alloc z_72 ?_; intro b4 w2 hb4 hE2 hB4
  have hn2_4 : b2 < b4 := Nat.lt_of_lt_of_le hB2.lt hb4
  have hq4 : w.heap.size ≤ b4 := Nat.le_trans hX.size hb4
  have hl4 : Mine Non w b4 := .inr hq4
  replace hX := hX.tr hE2
  replace hB2 := hB2.ext hE2 id
  refine wl_nil ?_
  refine W_seq ?_
  refine W_region ?_
  refine wl_val (rn_fieldAddr f_72_0 (by decide) rfl) ?_
  refine wl_val (rn_load1 p_68 rfl hB2 rfl) ?_
  refine wl_val (rn_move (by conv => lhs; whnf)) ?_
  refine wl_call e_126 rfl (bs_s w2 ks x (hm.keys.ext hX (fun _ h => h)) hord hn) ?_; intro v11 w3 hE3 hR3
  replace hX := hX.tr hE3
  replace hB2 := hB2.ext hE3 id; replace hB4 := hB4.ext hE3 id
  subst hR3
  refine wl_val (rn_move (by conv => lhs; whnf)) ?_
  refine wl_val (rn_extract rfl rfl) ?_
  refine wl_val (rn_extract rfl rfl) ?_
  refine wl_val (rn_assign (by conv => lhs; whnf)) ?_
  refine wl_val (rn_assign (by conv => lhs; whnf)) ?_
  refine wl_nil ?_
  refine W_seq ?_
  refine W_seq ?_
  refine W_region ?_
  refine wl_val (rn_move (by conv => lhs; whnf)) ?_
  refine wl_val (rn_not rfl) ?_
  refine wl_nil ?_
  refine W_cond rfl (fun hc0 => ?_) (fun hc0 => ?_)
  · have hat : isAt ltS ks x = false := by simpa using hc0
    refine W_seq ?_
    refine W_region ?_
    refine wl_val (rn_loadB s_72 rfl rfl hB2) ?_
    refine wl_storeB s_72 rfl rfl rfl (two1 rfl rfl) hB4 rfl ?_; intro w4 hE4 hB4 hz4
    replace hX := hX.mine hE4 hl4
    replace hB2 := hB2.ext hE4 (fun h => by omega)
    refine wl_nil ?_
    refine W_ret ?_
    exact ⟨_, resR1 (res1_box s_72 rfl hB4 rfl), hX, ⟨_, _, rfl, by rw [dropK_no hat, dropV_no hat]; exact hmM.ext hX (fun _ h => h.elim)⟩⟩
  · have hat : isAt ltS ks x = true := by simpa using hc0
    have hltk := isAt_lt hat
    have hne1 : ¬ ks.map eS1 = [] := fun e => by have := congrArg List.length e; rw [List.length_map] at this; simp at this; rw [this] at hltk; simp at hltk
    have hne2 : ¬ vs = [] := fun e => by rw [e] at hlen; simp at hlen; omega
    refine W_skip ?_
    refine W_seq ?_
    refine W_drawX (fun j => j == 15) mixed ?_; intro w5 hE5
    replace hX := hX.tr hE5
    replace hB2 := hB2.ext hE5 id; replace hB4 := hB4.ext hE5 id
    have hS := Ext.refl Non w5
    have hz4 := hB4.lt; have hzw := hX.size
    refine wx_take 0 [1, 2, 6, 9, 13, 14, 15] _ _ rfl (by kernel_rfl) hS (yd_do fun A hA => rn_fieldAddr f_72_0 (by decide) rfl) ?_
    refine wx_take 1 [2, 6, 9, 13, 14, 15] _ _ rfl (by kernel_rfl) hS (yd_do fun A hA => rn_load1 p_68 rfl (hB2.ext hA id) rfl) ?_
    refine wx_take 3 [6, 9, 13, 14, 15] _ _ rfl (by kernel_rfl) hS (yd_do fun A hA => rn_move (by conv => lhs; whnf)) ?_
    refine wx_take 4 [5, 6, 9, 13, 14, 15] _ _ rfl (by kernel_rfl) hS (yd_do fun A hA => rn_move (by conv => lhs; whnf)) ?_
    refine wx_take 5 [6, 9, 13, 14, 15] _ _ rfl (by kernel_rfl) hS (yd_do fun A hA => rn_add rfl rfl (by omega)) ?_
    refine wx_take 7 [8, 9, 13, 14, 15] _ _ rfl (by kernel_rfl) hS (yd_do fun A hA => rn_fieldAddr f_72_1 (by decide) rfl) ?_
    refine wx_take 8 [9, 13, 14, 15] _ _ rfl (by kernel_rfl) hS (yd_do fun A hA => rn_load1 p_70 rfl (hB2.ext hA id) rfl) ?_
    refine wx_take 10 [13, 14, 15] _ _ rfl (by kernel_rfl) hS (yd_do fun A hA => rn_move (by conv => lhs; whnf)) ?_
    refine wx_take 11 [12, 13, 14, 15] _ _ rfl (by kernel_rfl) hS (yd_do fun A hA => rn_move (by conv => lhs; whnf)) ?_
    refine wx_take 12 [13, 14, 15] _ _ rfl (by kernel_rfl) hS (yd_do fun A hA => rn_add rfl rfl (by omega)) ?_
    have hsz19 := hS.size
    refine wx_only 2 _ rfl (by kernel_rfl) ?_
    refine s1_do ?_
    refine wl_call e_128 rfl (clone_s w5 (ks.map eS1) (hm.keys.ext (hX.tr hS) (fun _ h => h)) (eS_one ks) (by first | (rw [List.length_map]; exact hn) | (rw [hlen]; exact hn))) ?_; intro v19 w6 hE6 hR6
    replace hS := hS.tr hE6
    obtain ⟨o19, hO19, ho19⟩ := hR6
    rcases hO19 with ⟨_, h19, _⟩ | ⟨b19, sp19, hoe19, hO19⟩
    exact absurd h19 hne1
    have hge19 := Nat.le_trans hsz19 (ho19 _ hoe19)
    have hl19_ := hO19.box.lt; have hgo19 := ho19 _ hoe19
    refine wl_nil ⟨fun _ => hS, ?_⟩
    refine wx_only 6 _ rfl (by kernel_rfl) ?_
    refine s1_do ?_
    refine wl_callM (M := (fun x => x = b19)) e_127 rfl (delete_s w6 (lb ltS ks x) (lb ltS ks x + 1) b19 (ks.map eS1) sp19 hO19 (by omega) (by first | (rw [List.length_map]; omega) | (rw [hlen]; omega)) (eS_one ks) (by first | (rw [List.length_map]; exact hn) | (rw [hlen]; exact hn))) ?_; intro v23 w7 hE7 hR7
    obtain ⟨sp23, hO23⟩ := hR7
    obtain ⟨a23, l23, c23, rfl⟩ := id hO23.shape
    replace hS := hS.mine hE7 (.inr hge19); have hsd23 := hE7.size
    refine wl_nil ⟨fun _ => hS, ?_⟩
    have hsz26 := hS.size
    refine wx_only 9 _ rfl (by kernel_rfl) ?_
    refine s1_do ?_
    refine wl_call e_130 rfl (clone_e w7 vs (hm.vals.ext (hX.tr hS) (fun _ h => h)) hv1 (by first | (rw [List.length_map]; exact hn) | (rw [hlen]; exact hn))) ?_; intro v26 w8 hE8 hR8
    replace hS := hS.tr hE8
    replace hO23 := hO23.ext hE8 id
    obtain ⟨o26, hO26, ho26⟩ := hR8
    rcases hO26 with ⟨_, h26, _⟩ | ⟨b26, sp26, hoe26, hO26⟩
    exact absurd h26 hne2
    have hge26 := Nat.le_trans hsz26 (ho26 _ hoe26)
    have hl26_ := hO26.box.lt; have hgo26 := ho26 _ hoe26
    refine wl_nil ⟨fun _ => hS, ?_⟩
    refine wx_only 13 _ rfl (by kernel_rfl) ?_
    refine s1_do ?_
    refine wl_callM (M := (fun x => x = b26)) e_129 rfl (delete_e w8 (lb ltS ks x) (lb ltS ks x + 1) b26 vs sp26 hO26 (by omega) (by first | (rw [List.length_map]; omega) | (rw [hlen]; omega)) hv1 (by first | (rw [List.length_map]; exact hn) | (rw [hlen]; exact hn))) ?_; intro v30 w9 hE9 hR9
    obtain ⟨sp30, hO30⟩ := hR9
    obtain ⟨a30, l30, c30, rfl⟩ := id hO30.shape
    replace hS := hS.mine hE9 (.inr hge26); have hsd30 := hE9.size
    replace hO23 := hO23.ext hE9 (fun e => by omega)
    refine wl_nil ⟨fun _ => hS, ?_⟩
    refine wx_take 14 [15] _ _ rfl (by kernel_rfl) hS (yd_do fun A hA => rn_build' b_72 rfl rfl (cs := [.slice a23 l23 c23, .slice a30 l30 c30]) rfl) ?_
    replace hX := hX.tr hS
    replace hB2 := hB2.ext hS id; replace hB4 := hB4.ext hS id
    refine wx_only 15 _ rfl (by kernel_rfl) ?_
    refine s1_do ?_
    have hBo := hB4
    refine wl_storeB s_72 rfl rfl rfl (two1 rfl rfl) hB4 rfl ?_; intro w10 hE10 hB4 hz10
    replace hX := hX.mine hE10 hl4
    replace hB2 := hB2.ext hE10 (fun h => by omega)
    replace hO23 := hO23.ext hE10 (fun e => by omega)
    replace hO30 := hO30.ext hE10 (fun e => by omega)
    refine wl_nil ⟨fun h => absurd h (by decide), ?_⟩
    refine wx_done (by kernel_rfl) ?_ _
    refine W_ret ?_
    exact ⟨_, resR1 (res1_box s_72 rfl hB4 rfl), hX, ⟨_, _, rfl, ⟨by rw [dropK_yes eS1 hat]; exact hO23.sl (fun h => by have := hM _ h; omega), by rw [dropV_yes hat]; exact hO30.sl (fun h => by have := hM _ h; omega), dropV_len hm.len⟩⟩⟩
-- bellman/bellmanref03.Less
set_option maxHeartbeats 800000 in
theorem rless_ok (w : World) (a b : Str) (hna : a.length ≤ 1000000) (hnb : b.length ≤ 1000000) : Fn Tryd.prog 82 #[Sv a, Sv b] w fun u w' => u = .bool (ltS a b) := by
  have hX := Ext.refl Non w
  refine fn_of_W (args := [_, _]) Tryd.func82 rfl (by kernel_rfl) rfl ?_
  refine W_seq ?_
  refine W_region ?_
  refine wl_val (rn_assign (by conv => lhs; whnf)) ?_
  refine wl_nil ?_
  refine W_seq ?_
  refine W_seq ?_
  refine W_region ?_
  refine wl_val (rn_assign (by conv => lhs; whnf)) ?_
  refine wl_nil ?_
  refine W_block ?_   -- block 0
  refine W_loopS (S := Nat) [0, 1, 5] (fun i => [Sv a, Sv b, .int .i64 (i : Nat)]) (fun i A => (Ext Non w A) ∧ (i ≤ a.length ∧ i ≤ b.length ∧ a.take i = b.take i)) (fun i => a.length - i) 0 ⟨rfl, rfl, rfl, trivial⟩ ⟨hX, ⟨Nat.zero_le _, Nat.zero_le _, rfl⟩⟩ ?_
  rintro τ0 i A0 ⟨hX, hI0⟩
  obtain ⟨hia, hib, htk⟩ := hI0
  refine W_seq ?_
  refine W_seq ?_
  refine W_region ?_
  refine wl_val (rn_move (by conv => lhs; whnf)) ?_
  refine wl_val (rn_move (by conv => lhs; whnf)) ?_
  refine wl_val (rn_slen us_9 rfl) ?_
  refine wl_val (rn_lss rfl rfl) ?_
  refine wl_val (rn_move (by conv => lhs; whnf)) ?_
  refine wl_split (d := 10) rfl (fun hg10 => ?_) (fun hg10 => ?_)
  · have hlt := of_decide_eq_true hg10; simp only [Int.ofNat_lt] at hlt
    obtain ⟨x, hi⟩ : ∃ x, (a)[i]? = some x := ⟨_, List.getElem?_eq_getElem hlt⟩
    refine wl_yes rfl (congrArg Value.bool hg10) ?_
    refine wl_val (rn_move (by conv => lhs; whnf)) ?_
    refine wl_yes rfl (congrArg Value.bool hg10) ?_
    refine wl_val (rn_move (by conv => lhs; whnf)) ?_
    refine wl_yes rfl (congrArg Value.bool hg10) ?_
    refine wl_val (rn_slen us_9 rfl) ?_
    refine wl_yes rfl (congrArg Value.bool hg10) ?_
    refine wl_val (rn_lss rfl rfl) ?_
    refine wl_val (rn_pickT (congrArg Value.bool hg10) (by conv => lhs; whnf)) ?_
    refine wl_nil ?_
    refine W_cond rfl (fun hc0 => ?_) (fun hc0 => ?_)
    · have hlt2 := of_decide_eq_true hc0; simp only [Int.ofNat_lt] at hlt2
      obtain ⟨y, hj⟩ : ∃ y, (b)[i]? = some y := ⟨_, List.getElem?_eq_getElem hlt2⟩
      refine W_skip ?_
      refine W_seq ?_
      refine W_block ?_   -- block 1
      refine W_seq ?_
      refine W_drawE mixed ?_; intro w1 hE1
      replace hX := hX.tr hE1
      have hS := Ext.refl Non w1
      refine wd_take 0 _ _ rfl (by kernel_rfl) hS (yd_do fun A hA => rn_move (by conv => lhs; whnf)) ?_
      refine wd_take 1 _ _ rfl (by kernel_rfl) hS (yd_do fun A hA => rn_move (by conv => lhs; whnf)) ?_
      refine wd_take 2 _ _ rfl (by kernel_rfl) hS (yd_do fun A hA => rn_sindex us_9 rfl rfl (by omega) hi) ?_
      refine wd_take 3 _ _ rfl (by kernel_rfl) hS (yd_do fun A hA => rn_move (by conv => lhs; whnf)) ?_
      refine wd_take 4 _ _ rfl (by kernel_rfl) hS (yd_do fun A hA => rn_move (by conv => lhs; whnf)) ?_
      refine wd_take 5 _ _ rfl (by kernel_rfl) hS (yd_do fun A hA => rn_sindex us_9 rfl rfl (by omega) hj) ?_
      refine wd_take 6 _ _ rfl (by kernel_rfl) hS (yd_do fun A hA => rn_neq rfl rfl) ?_
      refine wd_done (by kernel_rfl) ?_ _
      replace hX := hX.tr hS
      refine W_cond rfl (fun hc1 => ?_) (fun hc1 => ?_)
      · have hne : x ≠ y := fun e => by have := of_decide_eq_true hc1; rw [e] at this; exact this rfl
        refine W_seq ?_
        refine W_drawE mixed ?_; intro w2 hE2
        replace hX := hX.tr hE2
        have hS := Ext.refl Non w2
        refine wd_take 0 _ _ rfl (by kernel_rfl) hS (yd_do fun A hA => rn_move (by conv => lhs; whnf)) ?_
        refine wd_take 1 _ _ rfl (by kernel_rfl) hS (yd_do fun A hA => rn_move (by conv => lhs; whnf)) ?_
        refine wd_take 2 _ _ rfl (by kernel_rfl) hS (yd_do fun A hA => rn_sindex us_9 rfl rfl (by omega) hi) ?_
        refine wd_take 3 _ _ rfl (by kernel_rfl) hS (yd_do fun A hA => rn_move (by conv => lhs; whnf)) ?_
        refine wd_take 4 _ _ rfl (by kernel_rfl) hS (yd_do fun A hA => rn_move (by conv => lhs; whnf)) ?_
        refine wd_take 5 _ _ rfl (by kernel_rfl) hS (yd_do fun A hA => rn_sindex us_9 rfl rfl (by omega) hj) ?_
        refine wd_take 6 _ _ rfl (by kernel_rfl) hS (yd_do fun A hA => rn_lss rfl rfl) ?_
        refine wd_take 7 _ _ rfl (by kernel_rfl) hS (yd_do fun A hA => rn_assign (by conv => lhs; whnf)) ?_
        refine wd_done (by kernel_rfl) ?_ _
        replace hX := hX.tr hS
        refine W_ret ?_
        first | exact ⟨_, resR1 (res1_tmp rfl), hX, (by rw [less_at i a b htk hi hj hne, ← u8_ltd]; rfl)⟩ | exact ⟨_, resR1 (res1_tmp rfl), hX, (by rw [hend]; exact congrArg Value.bool (decide_eq_decide.2 (by omega)))⟩
      · have hxy : x = y := u8_eq2 (by simpa using of_decide_eq_false hc1)
        refine W_skip ?_
        refine W_region ?_
        refine wl_val (rn_move (by conv => lhs; whnf)) ?_
        refine wl_val (rn_add rfl rfl (by omega)) ?_
        refine wl_val (rn_assign (by conv => lhs; whnf)) ?_
        refine wl_nil ?_
        exact ⟨rfl, i + 1, ⟨rfl, rfl, rfl, trivial⟩, ⟨hX, ⟨hlt, hlt2, by rw [List.take_add_one, List.take_add_one, htk, hi, hj, hxy]⟩⟩, by omega⟩
    · have hend : ltS a b = decide (a.length < b.length) := by first | assumption | exact less_end a b ⟨i, htk, .inr (by have := of_decide_eq_false hc0; omega), hia, hib⟩
      refine W_exit ?_   -- exit 0
      refine W_seq ?_
      refine W_region ?_
      refine wl_val (rn_move (by conv => lhs; whnf)) ?_
      refine wl_val (rn_slen us_9 rfl) ?_
      refine wl_val (rn_move (by conv => lhs; whnf)) ?_
      refine wl_val (rn_slen us_9 rfl) ?_
      refine wl_val (rn_lss rfl rfl) ?_
      refine wl_val (rn_assign (by conv => lhs; whnf)) ?_
      refine wl_nil ?_
      refine W_ret ?_
      first | exact ⟨_, resR1 (res1_tmp rfl), hX, (by rw [less_at i a b htk hi hj hne, ← u8_ltd]; rfl)⟩ | exact ⟨_, resR1 (res1_tmp rfl), hX, (by rw [hend]; exact congrArg Value.bool (decide_eq_decide.2 (by omega)))⟩
  · have hend : ltS a b = decide (a.length < b.length) := less_end a b ⟨i, htk, .inl (by have := of_decide_eq_false hg10; omega), hia, hib⟩
    refine wl_no rfl (congrArg Value.bool hg10) ?_
    refine wl_no rfl (congrArg Value.bool hg10) ?_
    refine wl_no rfl (congrArg Value.bool hg10) ?_
    refine wl_no rfl (congrArg Value.bool hg10) ?_
    refine wl_val (rn_pickF (congrArg Value.bool hg10) (by conv => lhs; whnf)) ?_
    refine wl_nil ?_
    refine W_condF rfl ?_
    refine W_exit ?_   -- exit 0
    refine W_seq ?_
    refine W_region ?_
    refine wl_val (rn_move (by conv => lhs; whnf)) ?_
    refine wl_val (rn_slen us_9 rfl) ?_
    refine wl_val (rn_move (by conv => lhs; whnf)) ?_
    refine wl_val (rn_slen us_9 rfl) ?_
    refine wl_val (rn_lss rfl rfl) ?_
    refine wl_val (rn_assign (by conv => lhs; whnf)) ?_
    refine wl_nil ?_
    refine W_ret ?_
    first | exact ⟨_, resR1 (res1_tmp rfl), hX, (by rw [less_at i a b htk hi hj hne, ← u8_ltd]; rfl)⟩ | exact ⟨_, resR1 (res1_tmp rfl), hX, (by rw [hend]; exact congrArg Value.bool (decide_eq_decide.2 (by omega)))⟩
-- (bellman/set.Map[string, bellman/keep.entry]).All$1
set_option maxHeartbeats 800000 in
theorem mall_iter_se (ks : List Str) (ys : List (Str × Int)) {v1 v2 : Value} (M : Nat → Prop) (w0 : World) (b1 : Nat) (hk : Sl M w0 v1 1 (ks.map eS1)) (hv : Sl M w0 v2 2 (ys.map eE1)) (hle : ys.length = ks.length) (hC1 : IsBox w0 b1 [v1, v2]) (h1 : ¬ M b1) :
    Iter Tryd.prog M w0 (.func (.func 199) #[] #[.pointer (some ⟨b1, 0, none⟩)]) (fun p : Str × (Str × Int) => #[Sv p.1, .agg #[Sv p.2.1, .int .i64 p.2.2]]) (ks.zip ys) := by
  refine iter_of e_199 fun l W J Jx hW hX hY => ?_
  obtain ⟨a, c, rfl, _⟩ := hk.len; obtain ⟨a2, c2, rfl, _⟩ := hv.len
  simp only [List.length_map] at hk hv hC1 ⊢
  have hbig : ks.length ≤ big := by obtain ⟨⟨a1, c1, e1, e2, e3, _⟩, _⟩ := hk; simp at e2; omega
  have hbig2 : big = 9223372036854775807 := rfl
  have ea : (#[Value.func (.yield l) #[] #[]] ++ #[.pointer (some ⟨b1, 0, none⟩)] : Array Value) = [Value.func (.yield l) #[] #[], .pointer (some ⟨b1, 0, none⟩)].toArray := by simp
  rw [ea]
  refine calls_of_W (R := fun v W' => Tl M w0 W (J (ks.zip ys)) [] W' ∨ Tl M w0 W Jx [] W') Tryd.func199 rfl (by kernel_rfl) rfl ?_
  refine W_seq ?_
  refine W_region ?_
  refine wl_val (rn_fieldAddr f_72_0 (by decide) rfl) ?_
  refine wl_val (rn_load1 p_68 rfl (hC1.ext hX.w0 h1) rfl) ?_
  refine wl_val (rn_len sl_68 rfl) ?_
  refine wl_val (rn_move (by conv => lhs; whnf)) ?_
  refine wl_nil ?_
  refine W_block ?_   -- block 0
  refine W_loopS (S := Nat) [0, 1, 6, 7, 8] (fun i => [.func (.yield l) #[] #[], .pointer (some ⟨b1, 0, none⟩), .slice a ks.length c, .int .i64 (ks.length : Nat), .int .i64 (i : Nat)]) (fun i A => (Tl M w0 W (J ((ks.zip ys).take i)) [] A) ∧ (i ≤ ks.length)) (fun i => ks.length - i) 0 ⟨rfl, rfl, rfl, rfl, rfl, trivial⟩ ⟨(hX.less (by simp)), Nat.zero_le _⟩ ?_
  rintro τ0 i A0 ⟨hX, hI0⟩
  have hik := hI0
  refine W_seq ?_
  refine W_region ?_
  refine wl_val (rn_lss rfl rfl) ?_
  refine wl_nil ?_
  refine W_seq ?_
  refine W_cond rfl (fun hc0 => ?_) (fun hc0 => ?_)
  · have hlt := of_decide_eq_true hc0; simp only [Int.ofNat_lt] at hlt
    obtain ⟨x, hi⟩ : ∃ x, ks[i]? = some x := ⟨_, List.getElem?_eq_getElem hlt⟩
    obtain ⟨y, hj⟩ : ∃ y, ys[i]? = some y := ⟨_, List.getElem?_eq_getElem (by omega)⟩
    obtain ⟨bb, oo, ea⟩ := hk.base (by intro e; have := congrArg List.length e; simp only [List.length_map, List.length_nil] at this; omega); subst ea
    obtain ⟨bb2, oo2, ea2⟩ := hv.base (by intro e; have := congrArg List.length e; simp only [List.length_map, List.length_nil] at this; omega); subst ea2
    have hz := zip_take_add hi hj
    have htk : (ks.zip ys).take (i + 1) = (ks.zip ys).take i ++ [(x, y)] := by rw [List.take_add_one, hz]; rfl
    have hsp : (ks.zip ys) = (ks.zip ys).take i ++ (x, y) :: (ks.zip ys).drop (i + 1) := by obtain ⟨h1, h2⟩ := List.getElem?_eq_some_iff.1 hz; rw [← h2, List.getElem_cons_drop, List.take_append_drop]
    refine W_skip ?_
    refine W_seq ?_
    refine W_block ?_   -- block 1
    refine W_seq ?_
    refine W_region ?_
    refine wl_val (rn_move (by conv => lhs; whnf)) ?_
    refine wl_val (rn_indexAddr sl_68 rfl rfl (by omega)) ?_
    refine wl_val (rn_load p_9 rfl ((hk.ext hX.w0 (fun _ h => h)).at0 (eS_at hi) rfl)) ?_
    refine wl_val (rn_assign (by conv => lhs; whnf)) ?_
    refine wl_val (rn_assign (by conv => lhs; whnf)) ?_
    refine wl_nil ?_
    refine W_seq ?_
    refine W_region ?_
    refine wl_val (rn_move (by conv => lhs; whnf)) ?_
    refine wl_val (rn_move (by conv => lhs; whnf)) ?_
    refine wl_val (rn_fieldAddr f_72_1 (by decide) rfl) ?_
    refine wl_val (rn_load1 p_70 rfl (hC1.ext hX.w0 h1) rfl) ?_
    refine wl_val (rn_move (by conv => lhs; whnf)) ?_
    refine wl_val (rn_indexAddr sl_70 rfl rfl (by omega)) ?_
    refine wl_val (rn_loadS s_134 rfl rfl ((hv.ext hX.w0 (fun _ h => h)).all0 (eE_at hj))) ?_
    refine wl_yield rfl rfl (hY _ _ _ _ _ hsp hX) ?_; rintro b20 w1 ⟨hE1, hyT, hyF⟩
    refine wl_val (rn_not rfl) ?_
    refine wl_nil ?_
    refine W_cond rfl (fun hc1 => ?_) (fun hc1 => ?_)
    · refine W_ret ?_
      first | exact ⟨_, rfl, .inr ((hyF (by simpa using hc1)).less (by simp))⟩ | exact ⟨_, rfl, .inl (by have hge := of_decide_eq_false hc0; simp only [Int.ofNat_lt, Nat.not_lt] at hge; have hie : i = ks.length := (by omega); subst hie; rw [List.take_of_length_le (by rw [List.length_zip]; omega)] at hX; exact hX.less (by simp))⟩
    · refine W_skip ?_
      refine W_region ?_
      refine wl_val (rn_add rfl rfl (by omega)) ?_
      refine wl_val (rn_move (by conv => lhs; whnf)) ?_
      refine wl_nil ?_
      replace hX := hyT (by simpa using hc1)
      rw [← htk] at hX
      exact ⟨rfl, i + 1, ⟨rfl, rfl, rfl, rfl, rfl, trivial⟩, ⟨(hX.less (by simp)), hlt⟩, by omega⟩
  · refine W_exit ?_   -- exit 0
    first | exact ⟨_, rfl, .inr ((hyF (by simpa using hc1)).less (by simp))⟩ | exact ⟨_, rfl, .inl (by have hge := of_decide_eq_false hc0; simp only [Int.ofNat_lt, Nat.not_lt] at hge; have hie : i = ks.length := (by omega); subst hie; rw [List.take_of_length_le (by rw [List.length_zip]; omega)] at hX; exact hX.less (by simp))⟩
-- (bellman/set.Map[string, bellman/keep.entry]).All
theorem mall_se (w : World) (ks : List Str) (ys : List (Str × Int)) {v1 v2 : Value} (M : Nat → Prop) (hM : ∀ i, M i → i < w.heap.size) (hk : Sl M w v1 1 (ks.map eS1)) (hv : Sl M w v2 2 (ys.map eE1)) (hle : ys.length = ks.length) : Fn Tryd.prog 164 #[.agg #[v1, v2]] w fun u w' => Iter Tryd.prog M w' u (fun p : Str × (Str × Int) => #[Sv p.1, .agg #[Sv p.2.1, .int .i64 p.2.2]]) (ks.zip ys) := by
  obtain ⟨a, c, rfl, _⟩ := hk.len; obtain ⟨a2, c2, rfl, _⟩ := hv.len
  have hX := Ext.refl Non w
  refine fn_of_W (args := [_]) Tryd.func164 rfl (by kernel_rfl) rfl ?_
  refine W_seq ?_
  refine W_region ?_
  refine wl_boxS rfl ?_; intro b1 w1 hb1 hE1 hB1
  have hq1 : w.heap.size ≤ b1 := Nat.le_trans hX.size hb1
  have hl1 : Mine Non w b1 := .inr hq1
  replace hX := hX.tr hE1
  refine wl_val (rn_assign (by conv => lhs; whnf)) ?_
  refine wl_nil ?_
  refine W_seq ?_
  refine W_region ?_
  refine wl_val (rn_makeFunc rfl) ?_
  refine wl_val (rn_assign (by conv => lhs; whnf)) ?_
  refine wl_nil ?_
  refine W_ret ?_
  exact ⟨_, resR1 (res1_tmp rfl), hX, mall_iter_se ks ys M _ b1 (hk.ext hX.of_non (fun _ h => h)) (hv.ext hX.of_non (fun _ h => h)) hle hB1 (fun h => by have := hM _ h; omega)⟩
end Go.Proofs.YthcclgoidchkdaaDoorC
