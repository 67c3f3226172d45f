/- Layer 8: the document's orders, gone through one by one. -/
import Derived.Test.YthcclgoidchkdaaDoorLin7
import Derived.Test.YthcclgoidchkdaaDoorLinC
set_option linter.unusedVariables false
set_option linter.unusedSimpArgs false
set_option maxRecDepth 100000
namespace Go.Proofs.YthcclgoidchkdaaDoorC
open Go.RowKit
theorem eN_eI (o : List Nat) : o.map eN = (o.map fun i : Nat => (i : Int)).map eI1 := by rw [List.map_map]; rfl
def fillR (n i : Nat) : List Nat := List.range i ++ List.replicate (n - i) 0
theorem fill_len {n i : Nat} (h : i ≤ n) : (fillR n i).length = n := by simp [fillR]; omega
theorem fill_zero (n : Nat) : List.replicate n [Value.int .i64 0] = (fillR n 0).map eN := by simp [fillR, eN]
theorem fill_all (n : Nat) : fillR n n = List.range n := by simp [fillR]
theorem fill_set {n i : Nat} (h : i < n) : ((fillR n i).map eN).set i [.int .i64 (i : Nat)] = (fillR n (i + 1)).map eN := by
  have : (fillR n i).set i i = fillR n (i + 1) := by
    apply List.ext_getElem?
    intro k
    simp only [fillR, List.getElem?_set, List.getElem?_append, List.length_range, List.getElem?_replicate, List.length_append, List.length_replicate]
    by_cases h1 : i = k
    · subst h1; simp; omega
    · rw [if_neg h1]
      by_cases h2 : k < i
      · simp [h2, show k < i + 1 by omega]
      · have h3 : ¬ k < i + 1 := by omega
        simp only [h2, h3, if_false]
        by_cases h4 : k - i < n - i
        · rw [if_pos h4, if_pos (by omega)]
        · rw [if_neg h4, if_neg (by omega)]
  rw [← this, List.map_set]; rfl
theorem setN_eN (o : List Nat) (i x : Nat) : (o.map eN).set i [.int .i64 (x : Nat)] = (o.set i x).map eN := by rw [List.map_set]; rfl
theorem getD_of {o : List Nat} {i x : Nat} (h : o[i]? = some x) : o.getD i 0 = x := by simp [List.getD_eq_getElem?_getD, h]
theorem chk_one {l : List CallD} {o : List Nat} (h : o.length = l.length) : chkR l (o.map fun i : Nat => (i : Int)) = chkN l (none0 l) st0 o := by
  unfold chkR; rw [List.length_map, decide_eq_true h, chkF_nat]; rfl
/-- What is right of these. -/
def goodV (l : List CallD) (vis : List (List Nat)) : List (List Nat) := vis.filter (chkN l (none0 l) st0)
theorem good_yes {l : List CallD} {vis : List (List Nat)} {o : List Nat} (h : chkN l (none0 l) st0 o = true) : goodV l (vis ++ [o]) = goodV l vis ++ [o] := by simp [goodV, List.filter_append, h]
theorem good_no {l : List CallD} {vis : List (List Nat)} {o : List Nat} (h : chkN l (none0 l) st0 o = false) : goodV l (vis ++ [o]) = goodV l vis := by simp [goodV, List.filter_append, h]
theorem headD_app {vs : List (List Nat)} {o : List Nat} : (vs ++ [o]).headD [] = if vs = [] then o else vs.headD [] := by cases vs <;> simp
theorem nk_stop {o : List Nat} {j : Nat} (h : ¬ o.getD (j + 1) 0 < o.getD j 0) : nk o (j + 1) = some j := by unfold nk; rw [if_neg h]
theorem nk_on {o : List Nat} {j : Nat} (h : o.getD (j + 1) 0 < o.getD j 0) : nk o (j + 1) = nk o j := by conv => lhs; unfold nk; rw [if_pos h]
theorem nj_on {o : List Nat} {x j : Nat} (h : o.getD (j + 1) 0 < x) : nj o x (j + 1) = nj o x j := by conv => lhs; unfold nj; rw [if_pos h]
theorem nj_stop {o : List Nat} {x j : Nat} (h : ¬ o.getD (j + 1) 0 < x) : nj o x (j + 1) = j + 1 := by unfold nj; rw [if_neg h]
theorem sw_len (o : List Nat) (a b : Nat) : (sw o a b).length = o.length := by simp [sw]
theorem sw_at {o : List Nat} {a b x y : Nat} (ha : o[a]? = some x) (hb : o[b]? = some y) : (o.set a y).set b x = sw o a b := by unfold sw; rw [getD_of ha, getD_of hb]
theorem rv_on {o : List Nat} {f a b : Nat} (h : a < b) : rv o (f + 1) a b = rv (sw o a b) f (a + 1) (b - 1) := by conv => lhs; unfold rv; rw [if_pos h]
theorem rv_stop {o : List Nat} {f a b : Nat} (h : ¬ a < b) : rv o f a b = o := by cases f <;> simp [rv, h]
theorem chain_next {f : Nat} {o o' : List Nat} (h : nextP o = some o') : chain (f + 1) o = o :: chain f o' := by conv => lhs; unfold chain; rw [h]
theorem chain_last {f : Nat} {o : List Nat} (h : nextP o = none) : chain (f + 1) o = [o] := by unfold chain; rw [h]
-- bellman/bellmanref07.Right
set_option maxHeartbeats 4000000 in
theorem right_ok (w : World) (l : List CallD) {vl : Value} (hs : Sl Non w vl 15 (l.map CallD.enc)) (hn : l.length ≤ 1000) : Fn Tryd.prog 71 #[vl] w fun u w' => ∃ b, u = .bool b := by
  obtain ⟨al, cl, rfl, _⟩ := hs.len
  simp only [List.length_map] at hs ⊢
  have hbig2 : big = 9223372036854775807 := rfl
  have hX := Ext.refl Non w
  refine fn_of_W (args := [_]) Tryd.func71 rfl (by kernel_rfl) rfl ?_
  refine W_seq ?_
  refine W_region ?_
  refine wl_val (rn_assign (by conv => lhs; whnf)) ?_
  refine wl_nil ?_
  refine W_seq ?_
  refine W_seq ?_
  refine W_region ?_
  refine wl_val (rn_assign (by conv => lhs; whnf)) ?_
  refine wl_nil ?_
  refine W_block ?_   -- block 0
  refine W_loopS (S := Nat) [0, 3] (fun i => [.slice al l.length cl, .int .i64 (i : Nat)]) (fun i A => (Ext Non w A) ∧ (i ≤ l.length)) (fun i => l.length - i) 0 ⟨rfl, rfl, trivial⟩ ⟨hX, Nat.zero_le _⟩ ?_
  rintro τ0 i A0 ⟨hX, hI0⟩
  refine W_seq ?_
  refine W_seq ?_
  refine W_region ?_
  refine wl_val (rn_move (by conv => lhs; whnf)) ?_
  refine wl_val (rn_move (by conv => lhs; whnf)) ?_
  refine wl_val (rn_len sl_25 rfl) ?_
  refine wl_val (rn_lss rfl rfl) ?_
  refine wl_nil ?_
  refine W_cond rfl (fun hc0 => ?_) (fun hc0 => ?_)
  · have hlt := of_decide_eq_true hc0; simp only [Int.ofNat_lt] at hlt
    obtain ⟨x, hi⟩ : ∃ x, l[i]? = some x := ⟨_, List.getElem?_eq_getElem hlt⟩
    obtain ⟨bbl, ool, eal⟩ := hs.base (by intro e; have := congrArg List.length e; simp only [List.length_map, List.length_nil] at this; omega); subst eal
    refine W_skip ?_
    refine W_seq ?_
    refine W_block ?_   -- block 1
    refine W_seq ?_
    refine W_seq ?_
    refine W_drawE mixed ?_; intro w1 hE1
    replace hX := hX.tr hE1
    have hS := Ext.refl Non w1
    refine wd_take 0 _ _ rfl (by kernel_rfl) hS (yd_do fun A hA => rn_move (by conv => lhs; whnf)) ?_
    refine wd_take 1 _ _ rfl (by kernel_rfl) hS (yd_do fun A hA => rn_move (by conv => lhs; whnf)) ?_
    refine wd_take 2 _ _ rfl (by kernel_rfl) hS (yd_do fun A hA => rn_indexAddr sl_25 rfl rfl (by omega)) ?_
    refine wd_take 3 _ _ rfl (by kernel_rfl) hS (yd_do fun A hA => rn_fieldAddr f_38_4 (by decide) rfl) ?_
    refine wd_take 4 _ _ rfl (by kernel_rfl) hS (yd_do fun A hA => rn_load p_3 rfl (((hs.ext hX (fun _ h => h)).ext hA (fun _ h => h.elim)).at1 (map_at hi) rfl)) ?_
    refine wd_take 5 _ _ rfl (by kernel_rfl) hS (yd_do fun A hA => rn_lss rfl rfl) ?_
    refine wd_take 6 _ _ rfl (by kernel_rfl) hS (yd_do fun A hA => rn_move (by conv => lhs; whnf)) ?_
    refine wd_split (d := 18) rfl (fun hg18 => ?_) (fun hg18 => ?_)
    · refine wd_take 7 _ _ rfl (by kernel_rfl) hS (yd_no rfl (congrArg Value.bool hg18)) ?_
      refine wd_take 8 _ _ rfl (by kernel_rfl) hS (yd_no rfl (congrArg Value.bool hg18)) ?_
      refine wd_take 9 _ _ rfl (by kernel_rfl) hS (yd_no rfl (congrArg Value.bool hg18)) ?_
      refine wd_take 10 _ _ rfl (by kernel_rfl) hS (yd_no rfl (congrArg Value.bool hg18)) ?_
      refine wd_take 11 _ _ rfl (by kernel_rfl) hS (yd_no rfl (congrArg Value.bool hg18)) ?_
      refine wd_take 12 _ _ rfl (by kernel_rfl) hS (yd_no rfl (congrArg Value.bool hg18)) ?_
      refine wd_take 13 _ _ rfl (by kernel_rfl) hS (yd_no rfl (congrArg Value.bool hg18)) ?_
      refine wd_take 14 _ _ rfl (by kernel_rfl) hS (yd_no rfl (congrArg Value.bool hg18)) ?_
      refine wd_take 15 _ _ rfl (by kernel_rfl) hS (yd_no rfl (congrArg Value.bool hg18)) ?_
      refine wd_take 16 _ _ rfl (by kernel_rfl) hS (yd_no rfl (congrArg Value.bool hg18)) ?_
      refine wd_take 17 _ _ rfl (by kernel_rfl) hS (yd_no rfl (congrArg Value.bool hg18)) ?_
      refine wd_take 18 _ _ rfl (by kernel_rfl) hS (yd_do fun A hA => rn_pickT (congrArg Value.bool hg18) (by conv => lhs; whnf)) ?_
      refine wd_take 19 _ _ rfl (by kernel_rfl) hS (yd_do fun A hA => rn_move (by conv => lhs; whnf)) ?_
      refine wd_take 20 _ _ rfl (by kernel_rfl) hS (yd_no rfl rfl) ?_
      refine wd_take 21 _ _ rfl (by kernel_rfl) hS (yd_no rfl rfl) ?_
      refine wd_take 22 _ _ rfl (by kernel_rfl) hS (yd_no rfl rfl) ?_
      refine wd_take 23 _ _ rfl (by kernel_rfl) hS (yd_nou rfl rfl) ?_
      refine wd_take 24 _ _ rfl (by kernel_rfl) hS (yd_nou rfl rfl) ?_
      refine wd_take 25 _ _ rfl (by kernel_rfl) hS (yd_nou rfl rfl) ?_
      refine wd_take 26 _ _ rfl (by kernel_rfl) hS (yd_nou rfl rfl) ?_
      refine wd_take 27 _ _ rfl (by kernel_rfl) hS (yd_nou rfl rfl) ?_
      refine wd_take 28 _ _ rfl (by kernel_rfl) hS (yd_nou rfl rfl) ?_
      refine wd_take 29 _ _ rfl (by kernel_rfl) hS (yd_nou rfl rfl) ?_
      refine wd_take 30 _ _ rfl (by kernel_rfl) hS (yd_nou rfl rfl) ?_
      refine wd_take 31 _ _ rfl (by kernel_rfl) hS (yd_nou rfl rfl) ?_
      refine wd_take 32 _ _ rfl (by kernel_rfl) hS (yd_nou rfl rfl) ?_
      refine wd_take 33 _ _ rfl (by kernel_rfl) hS (yd_nou rfl rfl) ?_
      refine wd_take 34 _ _ rfl (by kernel_rfl) hS (yd_nou rfl rfl) ?_
      refine wd_take 35 _ _ rfl (by kernel_rfl) hS (yd_no rfl rfl) ?_
      refine wd_take 36 _ _ rfl (by kernel_rfl) hS (yd_do fun A hA => rn_pickT rfl (by conv => lhs; whnf)) ?_
      refine wd_done (by kernel_rfl) ?_ _
      replace hX := hX.tr hS
      refine W_condT rfl ?_
      refine W_seq ?_
      refine W_region ?_
      refine wl_val (rn_assign (by conv => lhs; whnf)) ?_
      refine wl_nil ?_
      refine W_ret ?_
      exact ⟨_, resR1 (res1_tmp rfl), hX, ⟨_, rfl⟩⟩
    · refine wd_take 7 _ _ rfl (by kernel_rfl) hS (yd_yes rfl (congrArg Value.bool hg18) fun A hA => rn_move (by conv => lhs; whnf)) ?_
      refine wd_take 8 _ _ rfl (by kernel_rfl) hS (yd_yes rfl (congrArg Value.bool hg18) fun A hA => rn_move (by conv => lhs; whnf)) ?_
      refine wd_take 9 _ _ rfl (by kernel_rfl) hS (yd_yes rfl (congrArg Value.bool hg18) fun A hA => rn_indexAddr sl_25 rfl rfl (by omega)) ?_
      refine wd_take 10 _ _ rfl (by kernel_rfl) hS (yd_yes rfl (congrArg Value.bool hg18) fun A hA => rn_fieldAddr f_38_5 (by decide) rfl) ?_
      refine wd_take 11 _ _ rfl (by kernel_rfl) hS (yd_yes rfl (congrArg Value.bool hg18) fun A hA => rn_load p_3 rfl (((hs.ext hX (fun _ h => h)).ext hA (fun _ h => h.elim)).at1 (map_at hi) rfl)) ?_
      refine wd_take 12 _ _ rfl (by kernel_rfl) hS (yd_yes rfl (congrArg Value.bool hg18) fun A hA => rn_move (by conv => lhs; whnf)) ?_
      refine wd_take 13 _ _ rfl (by kernel_rfl) hS (yd_yes rfl (congrArg Value.bool hg18) fun A hA => rn_move (by conv => lhs; whnf)) ?_
      refine wd_take 14 _ _ rfl (by kernel_rfl) hS (yd_yes rfl (congrArg Value.bool hg18) fun A hA => rn_indexAddr sl_25 rfl rfl (by omega)) ?_
      refine wd_take 15 _ _ rfl (by kernel_rfl) hS (yd_yes rfl (congrArg Value.bool hg18) fun A hA => rn_fieldAddr f_38_4 (by decide) rfl) ?_
      refine wd_take 16 _ _ rfl (by kernel_rfl) hS (yd_yes rfl (congrArg Value.bool hg18) fun A hA => rn_load p_3 rfl (((hs.ext hX (fun _ h => h)).ext hA (fun _ h => h.elim)).at1 (map_at hi) rfl)) ?_
      refine wd_take 17 _ _ rfl (by kernel_rfl) hS (yd_yes rfl (congrArg Value.bool hg18) fun A hA => rn_leq rfl rfl) ?_
      refine wd_take 18 _ _ rfl (by kernel_rfl) hS (yd_do fun A hA => rn_pickF (congrArg Value.bool hg18) (by conv => lhs; whnf)) ?_
      refine wd_take 19 _ _ rfl (by kernel_rfl) hS (yd_do fun A hA => rn_move (by conv => lhs; whnf)) ?_
      refine wd_split (d := 31) rfl (fun hg31 => ?_) (fun hg31 => ?_)
      · refine wd_take 20 _ _ rfl (by kernel_rfl) hS (yd_no rfl (congrArg Value.bool hg31)) ?_
        refine wd_take 21 _ _ rfl (by kernel_rfl) hS (yd_no rfl (congrArg Value.bool hg31)) ?_
        refine wd_take 22 _ _ rfl (by kernel_rfl) hS (yd_no rfl (congrArg Value.bool hg31)) ?_
        refine wd_take 23 _ _ rfl (by kernel_rfl) hS (yd_nou rfl rfl) ?_
        refine wd_take 24 _ _ rfl (by kernel_rfl) hS (yd_nou rfl rfl) ?_
        refine wd_take 25 _ _ rfl (by kernel_rfl) hS (yd_nou rfl rfl) ?_
        refine wd_take 26 _ _ rfl (by kernel_rfl) hS (yd_nou rfl rfl) ?_
        refine wd_take 27 _ _ rfl (by kernel_rfl) hS (yd_nou rfl rfl) ?_
        refine wd_take 28 _ _ rfl (by kernel_rfl) hS (yd_nou rfl rfl) ?_
        refine wd_take 29 _ _ rfl (by kernel_rfl) hS (yd_nou rfl rfl) ?_
        refine wd_take 30 _ _ rfl (by kernel_rfl) hS (yd_nou rfl rfl) ?_
        refine wd_take 31 _ _ rfl (by kernel_rfl) hS (yd_nou rfl rfl) ?_
        refine wd_take 32 _ _ rfl (by kernel_rfl) hS (yd_nou rfl rfl) ?_
        refine wd_take 33 _ _ rfl (by kernel_rfl) hS (yd_nou rfl rfl) ?_
        refine wd_take 34 _ _ rfl (by kernel_rfl) hS (yd_nou rfl rfl) ?_
        refine wd_take 35 _ _ rfl (by kernel_rfl) hS (yd_no rfl (congrArg Value.bool hg31)) ?_
        refine wd_take 36 _ _ rfl (by kernel_rfl) hS (yd_do fun A hA => rn_pickT (congrArg Value.bool hg31) (by conv => lhs; whnf)) ?_
        refine wd_done (by kernel_rfl) ?_ _
        replace hX := hX.tr hS
        refine W_condT rfl ?_
        refine W_seq ?_
        refine W_region ?_
        refine wl_val (rn_assign (by conv => lhs; whnf)) ?_
        refine wl_nil ?_
        refine W_ret ?_
        exact ⟨_, resR1 (res1_tmp rfl), hX, ⟨_, rfl⟩⟩
      · refine wd_take 20 _ _ rfl (by kernel_rfl) hS (yd_yes rfl (congrArg Value.bool hg31) fun A hA => rn_move (by conv => lhs; whnf)) ?_
        refine wd_take 21 _ _ rfl (by kernel_rfl) hS (yd_yes rfl (congrArg Value.bool hg31) fun A hA => rn_gtr rfl rfl) ?_
        refine wd_take 22 _ _ rfl (by kernel_rfl) hS (yd_yes rfl (congrArg Value.bool hg31) fun A hA => rn_move (by conv => lhs; whnf)) ?_
        refine wd_split (d := 34) rfl (fun hg34 => ?_) (fun hg34 => ?_)
        · have hi0 := of_decide_eq_true hg34
          obtain ⟨x0, hi1⟩ : ∃ x, l[i - 1]? = some x := ⟨_, List.getElem?_eq_getElem (by omega)⟩
          refine wd_take 23 _ _ rfl (by kernel_rfl) hS (yd_yes rfl (congrArg Value.bool hg34) fun A hA => rn_move (by conv => lhs; whnf)) ?_
          refine wd_take 24 _ _ rfl (by kernel_rfl) hS (yd_yes rfl (congrArg Value.bool hg34) fun A hA => rn_move (by conv => lhs; whnf)) ?_
          refine wd_take 25 _ _ rfl (by kernel_rfl) hS (yd_yes rfl (congrArg Value.bool hg34) fun A hA => Rn.cast (rn_sub rfl rfl (by omega)) (v' := .int .i64 ((i - 1 : Nat) : Int)) (congrArg (Value.int .i64) (by omega))) ?_
          refine wd_take 26 _ _ rfl (by kernel_rfl) hS (yd_yes rfl (congrArg Value.bool hg34) fun A hA => rn_indexAddr sl_25 rfl rfl (by omega)) ?_
          refine wd_take 27 _ _ rfl (by kernel_rfl) hS (yd_yes rfl (congrArg Value.bool hg34) fun A hA => rn_fieldAddr f_38_4 (by decide) rfl) ?_
          refine wd_take 28 _ _ rfl (by kernel_rfl) hS (yd_yes rfl (congrArg Value.bool hg34) fun A hA => rn_load p_3 rfl (((hs.ext hX (fun _ h => h)).ext hA (fun _ h => h.elim)).at1 (map_at hi1) rfl)) ?_
          refine wd_take 29 _ _ rfl (by kernel_rfl) hS (yd_yes rfl (congrArg Value.bool hg34) fun A hA => rn_move (by conv => lhs; whnf)) ?_
          refine wd_take 30 _ _ rfl (by kernel_rfl) hS (yd_yes rfl (congrArg Value.bool hg34) fun A hA => rn_move (by conv => lhs; whnf)) ?_
          refine wd_take 31 _ _ rfl (by kernel_rfl) hS (yd_yes rfl (congrArg Value.bool hg34) fun A hA => rn_indexAddr sl_25 rfl rfl (by omega)) ?_
          refine wd_take 32 _ _ rfl (by kernel_rfl) hS (yd_yes rfl (congrArg Value.bool hg34) fun A hA => rn_fieldAddr f_38_4 (by decide) rfl) ?_
          refine wd_take 33 _ _ rfl (by kernel_rfl) hS (yd_yes rfl (congrArg Value.bool hg34) fun A hA => rn_load p_3 rfl (((hs.ext hX (fun _ h => h)).ext hA (fun _ h => h.elim)).at1 (map_at hi) rfl)) ?_
          refine wd_take 34 _ _ rfl (by kernel_rfl) hS (yd_yes rfl (congrArg Value.bool hg34) fun A hA => rn_geq rfl rfl) ?_
          refine wd_take 35 _ _ rfl (by kernel_rfl) hS (yd_yes rfl (congrArg Value.bool hg31) fun A hA => rn_pickT (congrArg Value.bool hg34) (by conv => lhs; whnf)) ?_
          refine wd_take 36 _ _ rfl (by kernel_rfl) hS (yd_do fun A hA => rn_pickF (congrArg Value.bool hg31) (by conv => lhs; whnf)) ?_
          refine wd_done (by kernel_rfl) ?_ _
          replace hX := hX.tr hS
          refine W_cond rfl (fun hc1 => ?_) (fun hc1 => ?_)
          · refine W_seq ?_
            refine W_region ?_
            refine wl_val (rn_assign (by conv => lhs; whnf)) ?_
            refine wl_nil ?_
            refine W_ret ?_
            exact ⟨_, resR1 (res1_tmp rfl), hX, ⟨_, rfl⟩⟩
          · refine W_skip ?_
            refine W_seq ?_
            refine W_region ?_
            refine wl_val (rn_assign (by conv => lhs; whnf)) ?_
            refine wl_nil ?_
            refine W_seq ?_
            refine W_seq ?_
            refine W_region ?_
            refine wl_val (rn_assign (by conv => lhs; whnf)) ?_
            refine wl_nil ?_
            refine W_block ?_   -- block 2
            refine W_loopS (S := Nat × Nat) [0, 3, 4, 5] (fun ⟨k, pl⟩ => [.slice (some ⟨bbl, ool, none⟩) l.length cl, .int .i64 (i : Nat), .int .i64 (pl : Nat), .int .i64 (k : Nat)]) (fun ⟨k, pl⟩ A => (Ext Non w A) ∧ (k ≤ i ∧ pl ≤ k)) (fun ⟨k, pl⟩ => i - k) (0, 0) ⟨rfl, rfl, rfl, rfl, trivial⟩ ⟨hX, ⟨Nat.zero_le _, Nat.le_refl _⟩⟩ ?_
            rintro τ1 ⟨k, pl⟩ A1 ⟨hX, hI1⟩
            obtain ⟨hJ1, hJ2⟩ := hI1
            refine W_seq ?_
            refine W_seq ?_
            refine W_region ?_
            refine wl_val (rn_move (by conv => lhs; whnf)) ?_
            refine wl_val (rn_move (by conv => lhs; whnf)) ?_
            refine wl_val (rn_lss rfl rfl) ?_
            refine wl_nil ?_
            refine W_cond rfl (fun hc2 => ?_) (fun hc2 => ?_)
            · have hlk := of_decide_eq_true hc2; simp only [Int.ofNat_lt] at hlk
              obtain ⟨y, hk⟩ : ∃ y, l[k]? = some y := ⟨_, List.getElem?_eq_getElem (by omega)⟩
              refine W_skip ?_
              refine W_seq ?_
              refine W_block ?_   -- block 3
              refine W_seq ?_
              refine W_seq ?_
              refine W_drawE mixed ?_; intro w2 hE2
              replace hX := hX.tr hE2
              have hS := Ext.refl Non w2
              refine wd_take 0 _ _ rfl (by kernel_rfl) hS (yd_do fun A hA => rn_move (by conv => lhs; whnf)) ?_
              refine wd_take 1 _ _ rfl (by kernel_rfl) hS (yd_do fun A hA => rn_move (by conv => lhs; whnf)) ?_
              refine wd_take 2 _ _ rfl (by kernel_rfl) hS (yd_do fun A hA => rn_indexAddr sl_25 rfl rfl (by omega)) ?_
              refine wd_take 3 _ _ rfl (by kernel_rfl) hS (yd_do fun A hA => rn_fieldAddr f_38_5 (by decide) rfl) ?_
              refine wd_take 4 _ _ rfl (by kernel_rfl) hS (yd_do fun A hA => rn_load p_3 rfl (((hs.ext hX (fun _ h => h)).ext hA (fun _ h => h.elim)).at1 (map_at hk) rfl)) ?_
              refine wd_take 5 _ _ rfl (by kernel_rfl) hS (yd_do fun A hA => rn_move (by conv => lhs; whnf)) ?_
              refine wd_take 6 _ _ rfl (by kernel_rfl) hS (yd_do fun A hA => rn_move (by conv => lhs; whnf)) ?_
              refine wd_take 7 _ _ rfl (by kernel_rfl) hS (yd_do fun A hA => rn_indexAddr sl_25 rfl rfl (by omega)) ?_
              refine wd_take 8 _ _ rfl (by kernel_rfl) hS (yd_do fun A hA => rn_fieldAddr f_38_5 (by decide) rfl) ?_
              refine wd_take 9 _ _ rfl (by kernel_rfl) hS (yd_do fun A hA => rn_load p_3 rfl (((hs.ext hX (fun _ h => h)).ext hA (fun _ h => h.elim)).at1 (map_at hi) rfl)) ?_
              refine wd_take 10 _ _ rfl (by kernel_rfl) hS (yd_do fun A hA => rn_eql rfl rfl) ?_
              refine wd_take 11 _ _ rfl (by kernel_rfl) hS (yd_do fun A hA => rn_move (by conv => lhs; whnf)) ?_
              refine wd_split (d := 65) rfl (fun hg65 => ?_) (fun hg65 => ?_)
              · refine wd_take 12 _ _ rfl (by kernel_rfl) hS (yd_no rfl (congrArg Value.bool hg65)) ?_
                refine wd_take 13 _ _ rfl (by kernel_rfl) hS (yd_no rfl (congrArg Value.bool hg65)) ?_
                refine wd_take 14 _ _ rfl (by kernel_rfl) hS (yd_no rfl (congrArg Value.bool hg65)) ?_
                refine wd_take 15 _ _ rfl (by kernel_rfl) hS (yd_no rfl (congrArg Value.bool hg65)) ?_
                refine wd_take 16 _ _ rfl (by kernel_rfl) hS (yd_no rfl (congrArg Value.bool hg65)) ?_
                refine wd_take 17 _ _ rfl (by kernel_rfl) hS (yd_no rfl (congrArg Value.bool hg65)) ?_
                refine wd_take 18 _ _ rfl (by kernel_rfl) hS (yd_no rfl (congrArg Value.bool hg65)) ?_
                refine wd_take 19 _ _ rfl (by kernel_rfl) hS (yd_no rfl (congrArg Value.bool hg65)) ?_
                refine wd_take 20 _ _ rfl (by kernel_rfl) hS (yd_no rfl (congrArg Value.bool hg65)) ?_
                refine wd_take 21 _ _ rfl (by kernel_rfl) hS (yd_no rfl (congrArg Value.bool hg65)) ?_
                refine wd_take 22 _ _ rfl (by kernel_rfl) hS (yd_no rfl (congrArg Value.bool hg65)) ?_
                refine wd_take 23 _ _ rfl (by kernel_rfl) hS (yd_do fun A hA => rn_pickT (congrArg Value.bool hg65) (by conv => lhs; whnf)) ?_
                refine wd_take 24 _ _ rfl (by kernel_rfl) hS (yd_do fun A hA => rn_move (by conv => lhs; whnf)) ?_
                refine wd_take 25 _ _ rfl (by kernel_rfl) hS (yd_no rfl rfl) ?_
                refine wd_take 26 _ _ rfl (by kernel_rfl) hS (yd_no rfl rfl) ?_
                refine wd_take 27 _ _ rfl (by kernel_rfl) hS (yd_no rfl rfl) ?_
                refine wd_take 28 _ _ rfl (by kernel_rfl) hS (yd_no rfl rfl) ?_
                refine wd_take 29 _ _ rfl (by kernel_rfl) hS (yd_no rfl rfl) ?_
                refine wd_take 30 _ _ rfl (by kernel_rfl) hS (yd_no rfl rfl) ?_
                refine wd_take 31 _ _ rfl (by kernel_rfl) hS (yd_no rfl rfl) ?_
                refine wd_take 32 _ _ rfl (by kernel_rfl) hS (yd_no rfl rfl) ?_
                refine wd_take 33 _ _ rfl (by kernel_rfl) hS (yd_no rfl rfl) ?_
                refine wd_take 34 _ _ rfl (by kernel_rfl) hS (yd_no rfl rfl) ?_
                refine wd_take 35 _ _ rfl (by kernel_rfl) hS (yd_no rfl rfl) ?_
                refine wd_take 36 _ _ rfl (by kernel_rfl) hS (yd_do fun A hA => rn_pickT rfl (by conv => lhs; whnf)) ?_
                refine wd_done (by kernel_rfl) ?_ _
                replace hX := hX.tr hS
                refine W_condT rfl ?_
                refine W_seq ?_
                refine W_region ?_
                refine wl_val (rn_assign (by conv => lhs; whnf)) ?_
                refine wl_nil ?_
                refine W_ret ?_
                exact ⟨_, resR1 (res1_tmp rfl), hX, ⟨_, rfl⟩⟩
              · refine wd_take 12 _ _ rfl (by kernel_rfl) hS (yd_yes rfl (congrArg Value.bool hg65) fun A hA => rn_move (by conv => lhs; whnf)) ?_
                refine wd_take 13 _ _ rfl (by kernel_rfl) hS (yd_yes rfl (congrArg Value.bool hg65) fun A hA => rn_move (by conv => lhs; whnf)) ?_
                refine wd_take 14 _ _ rfl (by kernel_rfl) hS (yd_yes rfl (congrArg Value.bool hg65) fun A hA => rn_indexAddr sl_25 rfl rfl (by omega)) ?_
                refine wd_take 15 _ _ rfl (by kernel_rfl) hS (yd_yes rfl (congrArg Value.bool hg65) fun A hA => rn_fieldAddr f_38_5 (by decide) rfl) ?_
                refine wd_take 16 _ _ rfl (by kernel_rfl) hS (yd_yes rfl (congrArg Value.bool hg65) fun A hA => rn_load p_3 rfl (((hs.ext hX (fun _ h => h)).ext hA (fun _ h => h.elim)).at1 (map_at hk) rfl)) ?_
                refine wd_take 17 _ _ rfl (by kernel_rfl) hS (yd_yes rfl (congrArg Value.bool hg65) fun A hA => rn_move (by conv => lhs; whnf)) ?_
                refine wd_take 18 _ _ rfl (by kernel_rfl) hS (yd_yes rfl (congrArg Value.bool hg65) fun A hA => rn_move (by conv => lhs; whnf)) ?_
                refine wd_take 19 _ _ rfl (by kernel_rfl) hS (yd_yes rfl (congrArg Value.bool hg65) fun A hA => rn_indexAddr sl_25 rfl rfl (by omega)) ?_
                refine wd_take 20 _ _ rfl (by kernel_rfl) hS (yd_yes rfl (congrArg Value.bool hg65) fun A hA => rn_fieldAddr f_38_4 (by decide) rfl) ?_
                refine wd_take 21 _ _ rfl (by kernel_rfl) hS (yd_yes rfl (congrArg Value.bool hg65) fun A hA => rn_load p_3 rfl (((hs.ext hX (fun _ h => h)).ext hA (fun _ h => h.elim)).at1 (map_at hi) rfl)) ?_
                refine wd_take 22 _ _ rfl (by kernel_rfl) hS (yd_yes rfl (congrArg Value.bool hg65) fun A hA => rn_eql rfl rfl) ?_
                refine wd_take 23 _ _ rfl (by kernel_rfl) hS (yd_do fun A hA => rn_pickF (congrArg Value.bool hg65) (by conv => lhs; whnf)) ?_
                refine wd_take 24 _ _ rfl (by kernel_rfl) hS (yd_do fun A hA => rn_move (by conv => lhs; whnf)) ?_
                refine wd_split (d := 78) rfl (fun hg78 => ?_) (fun hg78 => ?_)
                · refine wd_take 25 _ _ rfl (by kernel_rfl) hS (yd_no rfl (congrArg Value.bool hg78)) ?_
                  refine wd_take 26 _ _ rfl (by kernel_rfl) hS (yd_no rfl (congrArg Value.bool hg78)) ?_
                  refine wd_take 27 _ _ rfl (by kernel_rfl) hS (yd_no rfl (congrArg Value.bool hg78)) ?_
                  refine wd_take 28 _ _ rfl (by kernel_rfl) hS (yd_no rfl (congrArg Value.bool hg78)) ?_
                  refine wd_take 29 _ _ rfl (by kernel_rfl) hS (yd_no rfl (congrArg Value.bool hg78)) ?_
                  refine wd_take 30 _ _ rfl (by kernel_rfl) hS (yd_no rfl (congrArg Value.bool hg78)) ?_
                  refine wd_take 31 _ _ rfl (by kernel_rfl) hS (yd_no rfl (congrArg Value.bool hg78)) ?_
                  refine wd_take 32 _ _ rfl (by kernel_rfl) hS (yd_no rfl (congrArg Value.bool hg78)) ?_
                  refine wd_take 33 _ _ rfl (by kernel_rfl) hS (yd_no rfl (congrArg Value.bool hg78)) ?_
                  refine wd_take 34 _ _ rfl (by kernel_rfl) hS (yd_no rfl (congrArg Value.bool hg78)) ?_
                  refine wd_take 35 _ _ rfl (by kernel_rfl) hS (yd_no rfl (congrArg Value.bool hg78)) ?_
                  refine wd_take 36 _ _ rfl (by kernel_rfl) hS (yd_do fun A hA => rn_pickT (congrArg Value.bool hg78) (by conv => lhs; whnf)) ?_
                  refine wd_done (by kernel_rfl) ?_ _
                  replace hX := hX.tr hS
                  refine W_condT rfl ?_
                  refine W_seq ?_
                  refine W_region ?_
                  refine wl_val (rn_assign (by conv => lhs; whnf)) ?_
                  refine wl_nil ?_
                  refine W_ret ?_
                  exact ⟨_, resR1 (res1_tmp rfl), hX, ⟨_, rfl⟩⟩
                · refine wd_take 25 _ _ rfl (by kernel_rfl) hS (yd_yes rfl (congrArg Value.bool hg78) fun A hA => rn_move (by conv => lhs; whnf)) ?_
                  refine wd_take 26 _ _ rfl (by kernel_rfl) hS (yd_yes rfl (congrArg Value.bool hg78) fun A hA => rn_move (by conv => lhs; whnf)) ?_
                  refine wd_take 27 _ _ rfl (by kernel_rfl) hS (yd_yes rfl (congrArg Value.bool hg78) fun A hA => rn_indexAddr sl_25 rfl rfl (by omega)) ?_
                  refine wd_take 28 _ _ rfl (by kernel_rfl) hS (yd_yes rfl (congrArg Value.bool hg78) fun A hA => rn_fieldAddr f_38_4 (by decide) rfl) ?_
                  refine wd_take 29 _ _ rfl (by kernel_rfl) hS (yd_yes rfl (congrArg Value.bool hg78) fun A hA => rn_load p_3 rfl (((hs.ext hX (fun _ h => h)).ext hA (fun _ h => h.elim)).at1 (map_at hk) rfl)) ?_
                  refine wd_take 30 _ _ rfl (by kernel_rfl) hS (yd_yes rfl (congrArg Value.bool hg78) fun A hA => rn_move (by conv => lhs; whnf)) ?_
                  refine wd_take 31 _ _ rfl (by kernel_rfl) hS (yd_yes rfl (congrArg Value.bool hg78) fun A hA => rn_move (by conv => lhs; whnf)) ?_
                  refine wd_take 32 _ _ rfl (by kernel_rfl) hS (yd_yes rfl (congrArg Value.bool hg78) fun A hA => rn_indexAddr sl_25 rfl rfl (by omega)) ?_
                  refine wd_take 33 _ _ rfl (by kernel_rfl) hS (yd_yes rfl (congrArg Value.bool hg78) fun A hA => rn_fieldAddr f_38_5 (by decide) rfl) ?_
                  refine wd_take 34 _ _ rfl (by kernel_rfl) hS (yd_yes rfl (congrArg Value.bool hg78) fun A hA => rn_load p_3 rfl (((hs.ext hX (fun _ h => h)).ext hA (fun _ h => h.elim)).at1 (map_at hi) rfl)) ?_
                  refine wd_take 35 _ _ rfl (by kernel_rfl) hS (yd_yes rfl (congrArg Value.bool hg78) fun A hA => rn_eql rfl rfl) ?_
                  refine wd_take 36 _ _ rfl (by kernel_rfl) hS (yd_do fun A hA => rn_pickF (congrArg Value.bool hg78) (by conv => lhs; whnf)) ?_
                  refine wd_done (by kernel_rfl) ?_ _
                  replace hX := hX.tr hS
                  refine W_cond rfl (fun hc3 => ?_) (fun hc3 => ?_)
                  · refine W_seq ?_
                    refine W_region ?_
                    refine wl_val (rn_assign (by conv => lhs; whnf)) ?_
                    refine wl_nil ?_
                    refine W_ret ?_
                    exact ⟨_, resR1 (res1_tmp rfl), hX, ⟨_, rfl⟩⟩
                  · refine W_skip ?_
                    refine W_seq ?_
                    refine W_drawE mixed ?_; intro w3 hE3
                    replace hX := hX.tr hE3
                    have hS := Ext.refl Non w3
                    refine wd_take 0 _ _ rfl (by kernel_rfl) hS (yd_do fun A hA => rn_move (by conv => lhs; whnf)) ?_
                    refine wd_take 1 _ _ rfl (by kernel_rfl) hS (yd_do fun A hA => rn_move (by conv => lhs; whnf)) ?_
                    refine wd_take 2 _ _ rfl (by kernel_rfl) hS (yd_do fun A hA => rn_indexAddr sl_25 rfl rfl (by omega)) ?_
                    refine wd_take 3 _ _ rfl (by kernel_rfl) hS (yd_do fun A hA => rn_fieldAddr f_38_0 (by decide) rfl) ?_
                    refine wd_take 4 _ _ rfl (by kernel_rfl) hS (yd_do fun A hA => rn_load p_3 rfl (((hs.ext hX (fun _ h => h)).ext hA (fun _ h => h.elim)).at1 (map_at hk) rfl)) ?_
                    refine wd_take 5 _ _ rfl (by kernel_rfl) hS (yd_do fun A hA => rn_move (by conv => lhs; whnf)) ?_
                    refine wd_take 6 _ _ rfl (by kernel_rfl) hS (yd_do fun A hA => rn_move (by conv => lhs; whnf)) ?_
                    refine wd_take 7 _ _ rfl (by kernel_rfl) hS (yd_do fun A hA => rn_indexAddr sl_25 rfl rfl (by omega)) ?_
                    refine wd_take 8 _ _ rfl (by kernel_rfl) hS (yd_do fun A hA => rn_fieldAddr f_38_0 (by decide) rfl) ?_
                    refine wd_take 9 _ _ rfl (by kernel_rfl) hS (yd_do fun A hA => rn_load p_3 rfl (((hs.ext hX (fun _ h => h)).ext hA (fun _ h => h.elim)).at1 (map_at hi) rfl)) ?_
                    refine wd_take 10 _ _ rfl (by kernel_rfl) hS (yd_do fun A hA => rn_eql rfl rfl) ?_
                    refine wd_done (by kernel_rfl) ?_ _
                    replace hX := hX.tr hS
                    refine W_cond rfl (fun hc4 => ?_) (fun hc4 => ?_)
                    · refine W_seq ?_
                      refine W_seq ?_
                      refine W_drawE mixed ?_; intro w4 hE4
                      replace hX := hX.tr hE4
                      have hS := Ext.refl Non w4
                      refine wd_take 0 _ _ rfl (by kernel_rfl) hS (yd_do fun A hA => rn_move (by conv => lhs; whnf)) ?_
                      refine wd_take 1 _ _ rfl (by kernel_rfl) hS (yd_do fun A hA => rn_move (by conv => lhs; whnf)) ?_
                      refine wd_take 2 _ _ rfl (by kernel_rfl) hS (yd_do fun A hA => rn_indexAddr sl_25 rfl rfl (by omega)) ?_
                      refine wd_take 3 _ _ rfl (by kernel_rfl) hS (yd_do fun A hA => rn_fieldAddr f_38_5 (by decide) rfl) ?_
                      refine wd_take 4 _ _ rfl (by kernel_rfl) hS (yd_do fun A hA => rn_load p_3 rfl (((hs.ext hX (fun _ h => h)).ext hA (fun _ h => h.elim)).at1 (map_at hk) rfl)) ?_
                      refine wd_take 5 _ _ rfl (by kernel_rfl) hS (yd_do fun A hA => rn_move (by conv => lhs; whnf)) ?_
                      refine wd_take 6 _ _ rfl (by kernel_rfl) hS (yd_do fun A hA => rn_move (by conv => lhs; whnf)) ?_
                      refine wd_take 7 _ _ rfl (by kernel_rfl) hS (yd_do fun A hA => rn_indexAddr sl_25 rfl rfl (by omega)) ?_
                      refine wd_take 8 _ _ rfl (by kernel_rfl) hS (yd_do fun A hA => rn_fieldAddr f_38_4 (by decide) rfl) ?_
                      refine wd_take 9 _ _ rfl (by kernel_rfl) hS (yd_do fun A hA => rn_load p_3 rfl (((hs.ext hX (fun _ h => h)).ext hA (fun _ h => h.elim)).at1 (map_at hi) rfl)) ?_
                      refine wd_take 10 _ _ rfl (by kernel_rfl) hS (yd_do fun A hA => rn_geq rfl rfl) ?_
                      refine wd_take 11 _ _ rfl (by kernel_rfl) hS (yd_do fun A hA => rn_move (by conv => lhs; whnf)) ?_
                      refine wd_split (d := 113) rfl (fun hg113 => ?_) (fun hg113 => ?_)
                      · refine wd_take 12 _ _ rfl (by kernel_rfl) hS (yd_no rfl (congrArg Value.bool hg113)) ?_
                        refine wd_take 13 _ _ rfl (by kernel_rfl) hS (yd_no rfl (congrArg Value.bool hg113)) ?_
                        refine wd_take 14 _ _ rfl (by kernel_rfl) hS (yd_no rfl (congrArg Value.bool hg113)) ?_
                        refine wd_take 15 _ _ rfl (by kernel_rfl) hS (yd_no rfl (congrArg Value.bool hg113)) ?_
                        refine wd_take 16 _ _ rfl (by kernel_rfl) hS (yd_no rfl (congrArg Value.bool hg113)) ?_
                        refine wd_take 17 _ _ rfl (by kernel_rfl) hS (yd_no rfl (congrArg Value.bool hg113)) ?_
                        refine wd_take 18 _ _ rfl (by kernel_rfl) hS (yd_no rfl (congrArg Value.bool hg113)) ?_
                        refine wd_take 19 _ _ rfl (by kernel_rfl) hS (yd_do fun A hA => rn_pickT (congrArg Value.bool hg113) (by conv => lhs; whnf)) ?_
                        refine wd_done (by kernel_rfl) ?_ _
                        replace hX := hX.tr hS
                        refine W_condT rfl ?_
                        refine W_seq ?_
                        refine W_region ?_
                        refine wl_val (rn_assign (by conv => lhs; whnf)) ?_
                        refine wl_nil ?_
                        refine W_ret ?_
                        exact ⟨_, resR1 (res1_tmp rfl), hX, ⟨_, rfl⟩⟩
                      · refine wd_take 12 _ _ rfl (by kernel_rfl) hS (yd_yes rfl (congrArg Value.bool hg113) fun A hA => rn_move (by conv => lhs; whnf)) ?_
                        refine wd_take 13 _ _ rfl (by kernel_rfl) hS (yd_yes rfl (congrArg Value.bool hg113) fun A hA => rn_move (by conv => lhs; whnf)) ?_
                        refine wd_take 14 _ _ rfl (by kernel_rfl) hS (yd_yes rfl (congrArg Value.bool hg113) fun A hA => rn_indexAddr sl_25 rfl rfl (by omega)) ?_
                        refine wd_take 15 _ _ rfl (by kernel_rfl) hS (yd_yes rfl (congrArg Value.bool hg113) fun A hA => rn_fieldAddr f_38_1 (by decide) rfl) ?_
                        refine wd_take 16 _ _ rfl (by kernel_rfl) hS (yd_yes rfl (congrArg Value.bool hg113) fun A hA => rn_load p_3 rfl (((hs.ext hX (fun _ h => h)).ext hA (fun _ h => h.elim)).at1 (map_at hk) rfl)) ?_
                        refine wd_take 17 _ _ rfl (by kernel_rfl) hS (yd_yes rfl (congrArg Value.bool hg113) fun A hA => rn_move (by conv => lhs; whnf)) ?_
                        refine wd_take 18 _ _ rfl (by kernel_rfl) hS (yd_yes rfl (congrArg Value.bool hg113) fun A hA => rn_neq rfl rfl) ?_
                        refine wd_take 19 _ _ rfl (by kernel_rfl) hS (yd_do fun A hA => rn_pickF (congrArg Value.bool hg113) (by conv => lhs; whnf)) ?_
                        refine wd_done (by kernel_rfl) ?_ _
                        replace hX := hX.tr hS
                        refine W_cond rfl (fun hc5 => ?_) (fun hc5 => ?_)
                        · refine W_seq ?_
                          refine W_region ?_
                          refine wl_val (rn_assign (by conv => lhs; whnf)) ?_
                          refine wl_nil ?_
                          refine W_ret ?_
                          exact ⟨_, resR1 (res1_tmp rfl), hX, ⟨_, rfl⟩⟩
                        · refine W_skip ?_
                          refine W_region ?_
                          refine wl_val (rn_move (by conv => lhs; whnf)) ?_
                          refine wl_val (rn_add rfl rfl (by omega)) ?_
                          refine wl_val (rn_assign (by conv => lhs; whnf)) ?_
                          refine wl_nil ?_
                          refine W_region ?_
                          refine wl_val (rn_move (by conv => lhs; whnf)) ?_
                          refine wl_val (rn_add rfl rfl (by omega)) ?_
                          refine wl_val (rn_assign (by conv => lhs; whnf)) ?_
                          refine wl_nil ?_
                          exact ⟨rfl, (k + 1, pl + 1), ⟨rfl, rfl, rfl, rfl, trivial⟩, ⟨hX, ⟨by omega, by omega⟩⟩, by show i - (k + 1) < i - k; omega⟩
                    · refine W_skip ?_
                      refine W_region ?_
                      refine wl_val (rn_move (by conv => lhs; whnf)) ?_
                      refine wl_val (rn_add rfl rfl (by omega)) ?_
                      refine wl_val (rn_assign (by conv => lhs; whnf)) ?_
                      refine wl_nil ?_
                      exact ⟨rfl, (k + 1, pl), ⟨rfl, rfl, rfl, rfl, trivial⟩, ⟨hX, ⟨by omega, by omega⟩⟩, by show i - (k + 1) < i - k; omega⟩
            · refine W_exit ?_   -- exit 2
              refine W_seq ?_
              refine W_region ?_
              refine wl_val (rn_move (by conv => lhs; whnf)) ?_
              refine wl_val (rn_move (by conv => lhs; whnf)) ?_
              refine wl_val (rn_indexAddr sl_25 rfl rfl (by omega)) ?_
              refine wl_val (rn_fieldAddr f_38_1 (by decide) rfl) ?_
              refine wl_val (rn_load p_3 rfl ((hs.ext hX (fun _ h => h)).at1 (map_at hi) rfl)) ?_
              refine wl_val (rn_move (by conv => lhs; whnf)) ?_
              refine wl_val (rn_neq rfl rfl) ?_
              refine wl_nil ?_
              refine W_cond rfl (fun hc6 => ?_) (fun hc6 => ?_)
              · refine W_seq ?_
                refine W_region ?_
                refine wl_val (rn_assign (by conv => lhs; whnf)) ?_
                refine wl_nil ?_
                refine W_ret ?_
                exact ⟨_, resR1 (res1_tmp rfl), hX, ⟨_, rfl⟩⟩
              · refine W_skip ?_
                refine W_region ?_
                refine wl_val (rn_move (by conv => lhs; whnf)) ?_
                refine wl_val (rn_add rfl rfl (by omega)) ?_
                refine wl_val (rn_assign (by conv => lhs; whnf)) ?_
                refine wl_nil ?_
                exact ⟨rfl, i + 1, ⟨rfl, rfl, trivial⟩, ⟨hX, hlt⟩, by omega⟩
        · refine wd_take 23 _ _ rfl (by kernel_rfl) hS (yd_no rfl (congrArg Value.bool hg34)) ?_
          refine wd_take 24 _ _ rfl (by kernel_rfl) hS (yd_no rfl (congrArg Value.bool hg34)) ?_
          refine wd_take 25 _ _ rfl (by kernel_rfl) hS (yd_no rfl (congrArg Value.bool hg34)) ?_
          refine wd_take 26 _ _ rfl (by kernel_rfl) hS (yd_no rfl (congrArg Value.bool hg34)) ?_
          refine wd_take 27 _ _ rfl (by kernel_rfl) hS (yd_no rfl (congrArg Value.bool hg34)) ?_
          refine wd_take 28 _ _ rfl (by kernel_rfl) hS (yd_no rfl (congrArg Value.bool hg34)) ?_
          refine wd_take 29 _ _ rfl (by kernel_rfl) hS (yd_no rfl (congrArg Value.bool hg34)) ?_
          refine wd_take 30 _ _ rfl (by kernel_rfl) hS (yd_no rfl (congrArg Value.bool hg34)) ?_
          refine wd_take 31 _ _ rfl (by kernel_rfl) hS (yd_no rfl (congrArg Value.bool hg34)) ?_
          refine wd_take 32 _ _ rfl (by kernel_rfl) hS (yd_no rfl (congrArg Value.bool hg34)) ?_
          refine wd_take 33 _ _ rfl (by kernel_rfl) hS (yd_no rfl (congrArg Value.bool hg34)) ?_
          refine wd_take 34 _ _ rfl (by kernel_rfl) hS (yd_no rfl (congrArg Value.bool hg34)) ?_
          refine wd_take 35 _ _ rfl (by kernel_rfl) hS (yd_yes rfl (congrArg Value.bool hg31) fun A hA => rn_pickF (congrArg Value.bool hg34) (by conv => lhs; whnf)) ?_
          refine wd_take 36 _ _ rfl (by kernel_rfl) hS (yd_do fun A hA => rn_pickF (congrArg Value.bool hg31) (by conv => lhs; whnf)) ?_
          refine wd_done (by kernel_rfl) ?_ _
          replace hX := hX.tr hS
          refine W_condF rfl ?_
          refine W_skip ?_
          refine W_seq ?_
          refine W_region ?_
          refine wl_val (rn_assign (by conv => lhs; whnf)) ?_
          refine wl_nil ?_
          refine W_seq ?_
          refine W_seq ?_
          refine W_region ?_
          refine wl_val (rn_assign (by conv => lhs; whnf)) ?_
          refine wl_nil ?_
          refine W_block ?_   -- block 2
          refine W_loopS (S := Nat × Nat) [0, 3, 4, 5] (fun ⟨k, pl⟩ => [.slice (some ⟨bbl, ool, none⟩) l.length cl, .int .i64 (i : Nat), .int .i64 (pl : Nat), .int .i64 (k : Nat)]) (fun ⟨k, pl⟩ A => (Ext Non w A) ∧ (k ≤ i ∧ pl ≤ k)) (fun ⟨k, pl⟩ => i - k) (0, 0) ⟨rfl, rfl, rfl, rfl, trivial⟩ ⟨hX, ⟨Nat.zero_le _, Nat.le_refl _⟩⟩ ?_
          rintro τ1 ⟨k, pl⟩ A1 ⟨hX, hI1⟩
          obtain ⟨hJ1, hJ2⟩ := hI1
          refine W_seq ?_
          refine W_seq ?_
          refine W_region ?_
          refine wl_val (rn_move (by conv => lhs; whnf)) ?_
          refine wl_val (rn_move (by conv => lhs; whnf)) ?_
          refine wl_val (rn_lss rfl rfl) ?_
          refine wl_nil ?_
          refine W_cond rfl (fun hc2 => ?_) (fun hc2 => ?_)
          · have hlk := of_decide_eq_true hc2; simp only [Int.ofNat_lt] at hlk
            obtain ⟨y, hk⟩ : ∃ y, l[k]? = some y := ⟨_, List.getElem?_eq_getElem (by omega)⟩
            refine W_skip ?_
            refine W_seq ?_
            refine W_block ?_   -- block 3
            refine W_seq ?_
            refine W_seq ?_
            refine W_drawE mixed ?_; intro w5 hE5
            replace hX := hX.tr hE5
            have hS := Ext.refl Non w5
            refine wd_take 0 _ _ rfl (by kernel_rfl) hS (yd_do fun A hA => rn_move (by conv => lhs; whnf)) ?_
            refine wd_take 1 _ _ rfl (by kernel_rfl) hS (yd_do fun A hA => rn_move (by conv => lhs; whnf)) ?_
            refine wd_take 2 _ _ rfl (by kernel_rfl) hS (yd_do fun A hA => rn_indexAddr sl_25 rfl rfl (by omega)) ?_
            refine wd_take 3 _ _ rfl (by kernel_rfl) hS (yd_do fun A hA => rn_fieldAddr f_38_5 (by decide) rfl) ?_
            refine wd_take 4 _ _ rfl (by kernel_rfl) hS (yd_do fun A hA => rn_load p_3 rfl (((hs.ext hX (fun _ h => h)).ext hA (fun _ h => h.elim)).at1 (map_at hk) rfl)) ?_
            refine wd_take 5 _ _ rfl (by kernel_rfl) hS (yd_do fun A hA => rn_move (by conv => lhs; whnf)) ?_
            refine wd_take 6 _ _ rfl (by kernel_rfl) hS (yd_do fun A hA => rn_move (by conv => lhs; whnf)) ?_
            refine wd_take 7 _ _ rfl (by kernel_rfl) hS (yd_do fun A hA => rn_indexAddr sl_25 rfl rfl (by omega)) ?_
            refine wd_take 8 _ _ rfl (by kernel_rfl) hS (yd_do fun A hA => rn_fieldAddr f_38_5 (by decide) rfl) ?_
            refine wd_take 9 _ _ rfl (by kernel_rfl) hS (yd_do fun A hA => rn_load p_3 rfl (((hs.ext hX (fun _ h => h)).ext hA (fun _ h => h.elim)).at1 (map_at hi) rfl)) ?_
            refine wd_take 10 _ _ rfl (by kernel_rfl) hS (yd_do fun A hA => rn_eql rfl rfl) ?_
            refine wd_take 11 _ _ rfl (by kernel_rfl) hS (yd_do fun A hA => rn_move (by conv => lhs; whnf)) ?_
            refine wd_split (d := 65) rfl (fun hg65 => ?_) (fun hg65 => ?_)
            · refine wd_take 12 _ _ rfl (by kernel_rfl) hS (yd_no rfl (congrArg Value.bool hg65)) ?_
              refine wd_take 13 _ _ rfl (by kernel_rfl) hS (yd_no rfl (congrArg Value.bool hg65)) ?_
              refine wd_take 14 _ _ rfl (by kernel_rfl) hS (yd_no rfl (congrArg Value.bool hg65)) ?_
              refine wd_take 15 _ _ rfl (by kernel_rfl) hS (yd_no rfl (congrArg Value.bool hg65)) ?_
              refine wd_take 16 _ _ rfl (by kernel_rfl) hS (yd_no rfl (congrArg Value.bool hg65)) ?_
              refine wd_take 17 _ _ rfl (by kernel_rfl) hS (yd_no rfl (congrArg Value.bool hg65)) ?_
              refine wd_take 18 _ _ rfl (by kernel_rfl) hS (yd_no rfl (congrArg Value.bool hg65)) ?_
              refine wd_take 19 _ _ rfl (by kernel_rfl) hS (yd_no rfl (congrArg Value.bool hg65)) ?_
              refine wd_take 20 _ _ rfl (by kernel_rfl) hS (yd_no rfl (congrArg Value.bool hg65)) ?_
              refine wd_take 21 _ _ rfl (by kernel_rfl) hS (yd_no rfl (congrArg Value.bool hg65)) ?_
              refine wd_take 22 _ _ rfl (by kernel_rfl) hS (yd_no rfl (congrArg Value.bool hg65)) ?_
              refine wd_take 23 _ _ rfl (by kernel_rfl) hS (yd_do fun A hA => rn_pickT (congrArg Value.bool hg65) (by conv => lhs; whnf)) ?_
              refine wd_take 24 _ _ rfl (by kernel_rfl) hS (yd_do fun A hA => rn_move (by conv => lhs; whnf)) ?_
              refine wd_take 25 _ _ rfl (by kernel_rfl) hS (yd_no rfl rfl) ?_
              refine wd_take 26 _ _ rfl (by kernel_rfl) hS (yd_no rfl rfl) ?_
              refine wd_take 27 _ _ rfl (by kernel_rfl) hS (yd_no rfl rfl) ?_
              refine wd_take 28 _ _ rfl (by kernel_rfl) hS (yd_no rfl rfl) ?_
              refine wd_take 29 _ _ rfl (by kernel_rfl) hS (yd_no rfl rfl) ?_
              refine wd_take 30 _ _ rfl (by kernel_rfl) hS (yd_no rfl rfl) ?_
              refine wd_take 31 _ _ rfl (by kernel_rfl) hS (yd_no rfl rfl) ?_
              refine wd_take 32 _ _ rfl (by kernel_rfl) hS (yd_no rfl rfl) ?_
              refine wd_take 33 _ _ rfl (by kernel_rfl) hS (yd_no rfl rfl) ?_
              refine wd_take 34 _ _ rfl (by kernel_rfl) hS (yd_no rfl rfl) ?_
              refine wd_take 35 _ _ rfl (by kernel_rfl) hS (yd_no rfl rfl) ?_
              refine wd_take 36 _ _ rfl (by kernel_rfl) hS (yd_do fun A hA => rn_pickT rfl (by conv => lhs; whnf)) ?_
              refine wd_done (by kernel_rfl) ?_ _
              replace hX := hX.tr hS
              refine W_condT rfl ?_
              refine W_seq ?_
              refine W_region ?_
              refine wl_val (rn_assign (by conv => lhs; whnf)) ?_
              refine wl_nil ?_
              refine W_ret ?_
              exact ⟨_, resR1 (res1_tmp rfl), hX, ⟨_, rfl⟩⟩
            · refine wd_take 12 _ _ rfl (by kernel_rfl) hS (yd_yes rfl (congrArg Value.bool hg65) fun A hA => rn_move (by conv => lhs; whnf)) ?_
              refine wd_take 13 _ _ rfl (by kernel_rfl) hS (yd_yes rfl (congrArg Value.bool hg65) fun A hA => rn_move (by conv => lhs; whnf)) ?_
              refine wd_take 14 _ _ rfl (by kernel_rfl) hS (yd_yes rfl (congrArg Value.bool hg65) fun A hA => rn_indexAddr sl_25 rfl rfl (by omega)) ?_
              refine wd_take 15 _ _ rfl (by kernel_rfl) hS (yd_yes rfl (congrArg Value.bool hg65) fun A hA => rn_fieldAddr f_38_5 (by decide) rfl) ?_
              refine wd_take 16 _ _ rfl (by kernel_rfl) hS (yd_yes rfl (congrArg Value.bool hg65) fun A hA => rn_load p_3 rfl (((hs.ext hX (fun _ h => h)).ext hA (fun _ h => h.elim)).at1 (map_at hk) rfl)) ?_
              refine wd_take 17 _ _ rfl (by kernel_rfl) hS (yd_yes rfl (congrArg Value.bool hg65) fun A hA => rn_move (by conv => lhs; whnf)) ?_
              refine wd_take 18 _ _ rfl (by kernel_rfl) hS (yd_yes rfl (congrArg Value.bool hg65) fun A hA => rn_move (by conv => lhs; whnf)) ?_
              refine wd_take 19 _ _ rfl (by kernel_rfl) hS (yd_yes rfl (congrArg Value.bool hg65) fun A hA => rn_indexAddr sl_25 rfl rfl (by omega)) ?_
              refine wd_take 20 _ _ rfl (by kernel_rfl) hS (yd_yes rfl (congrArg Value.bool hg65) fun A hA => rn_fieldAddr f_38_4 (by decide) rfl) ?_
              refine wd_take 21 _ _ rfl (by kernel_rfl) hS (yd_yes rfl (congrArg Value.bool hg65) fun A hA => rn_load p_3 rfl (((hs.ext hX (fun _ h => h)).ext hA (fun _ h => h.elim)).at1 (map_at hi) rfl)) ?_
              refine wd_take 22 _ _ rfl (by kernel_rfl) hS (yd_yes rfl (congrArg Value.bool hg65) fun A hA => rn_eql rfl rfl) ?_
              refine wd_take 23 _ _ rfl (by kernel_rfl) hS (yd_do fun A hA => rn_pickF (congrArg Value.bool hg65) (by conv => lhs; whnf)) ?_
              refine wd_take 24 _ _ rfl (by kernel_rfl) hS (yd_do fun A hA => rn_move (by conv => lhs; whnf)) ?_
              refine wd_split (d := 78) rfl (fun hg78 => ?_) (fun hg78 => ?_)
              · refine wd_take 25 _ _ rfl (by kernel_rfl) hS (yd_no rfl (congrArg Value.bool hg78)) ?_
                refine wd_take 26 _ _ rfl (by kernel_rfl) hS (yd_no rfl (congrArg Value.bool hg78)) ?_
                refine wd_take 27 _ _ rfl (by kernel_rfl) hS (yd_no rfl (congrArg Value.bool hg78)) ?_
                refine wd_take 28 _ _ rfl (by kernel_rfl) hS (yd_no rfl (congrArg Value.bool hg78)) ?_
                refine wd_take 29 _ _ rfl (by kernel_rfl) hS (yd_no rfl (congrArg Value.bool hg78)) ?_
                refine wd_take 30 _ _ rfl (by kernel_rfl) hS (yd_no rfl (congrArg Value.bool hg78)) ?_
                refine wd_take 31 _ _ rfl (by kernel_rfl) hS (yd_no rfl (congrArg Value.bool hg78)) ?_
                refine wd_take 32 _ _ rfl (by kernel_rfl) hS (yd_no rfl (congrArg Value.bool hg78)) ?_
                refine wd_take 33 _ _ rfl (by kernel_rfl) hS (yd_no rfl (congrArg Value.bool hg78)) ?_
                refine wd_take 34 _ _ rfl (by kernel_rfl) hS (yd_no rfl (congrArg Value.bool hg78)) ?_
                refine wd_take 35 _ _ rfl (by kernel_rfl) hS (yd_no rfl (congrArg Value.bool hg78)) ?_
                refine wd_take 36 _ _ rfl (by kernel_rfl) hS (yd_do fun A hA => rn_pickT (congrArg Value.bool hg78) (by conv => lhs; whnf)) ?_
                refine wd_done (by kernel_rfl) ?_ _
                replace hX := hX.tr hS
                refine W_condT rfl ?_
                refine W_seq ?_
                refine W_region ?_
                refine wl_val (rn_assign (by conv => lhs; whnf)) ?_
                refine wl_nil ?_
                refine W_ret ?_
                exact ⟨_, resR1 (res1_tmp rfl), hX, ⟨_, rfl⟩⟩
              · refine wd_take 25 _ _ rfl (by kernel_rfl) hS (yd_yes rfl (congrArg Value.bool hg78) fun A hA => rn_move (by conv => lhs; whnf)) ?_
                refine wd_take 26 _ _ rfl (by kernel_rfl) hS (yd_yes rfl (congrArg Value.bool hg78) fun A hA => rn_move (by conv => lhs; whnf)) ?_
                refine wd_take 27 _ _ rfl (by kernel_rfl) hS (yd_yes rfl (congrArg Value.bool hg78) fun A hA => rn_indexAddr sl_25 rfl rfl (by omega)) ?_
                refine wd_take 28 _ _ rfl (by kernel_rfl) hS (yd_yes rfl (congrArg Value.bool hg78) fun A hA => rn_fieldAddr f_38_4 (by decide) rfl) ?_
                refine wd_take 29 _ _ rfl (by kernel_rfl) hS (yd_yes rfl (congrArg Value.bool hg78) fun A hA => rn_load p_3 rfl (((hs.ext hX (fun _ h => h)).ext hA (fun _ h => h.elim)).at1 (map_at hk) rfl)) ?_
                refine wd_take 30 _ _ rfl (by kernel_rfl) hS (yd_yes rfl (congrArg Value.bool hg78) fun A hA => rn_move (by conv => lhs; whnf)) ?_
                refine wd_take 31 _ _ rfl (by kernel_rfl) hS (yd_yes rfl (congrArg Value.bool hg78) fun A hA => rn_move (by conv => lhs; whnf)) ?_
                refine wd_take 32 _ _ rfl (by kernel_rfl) hS (yd_yes rfl (congrArg Value.bool hg78) fun A hA => rn_indexAddr sl_25 rfl rfl (by omega)) ?_
                refine wd_take 33 _ _ rfl (by kernel_rfl) hS (yd_yes rfl (congrArg Value.bool hg78) fun A hA => rn_fieldAddr f_38_5 (by decide) rfl) ?_
                refine wd_take 34 _ _ rfl (by kernel_rfl) hS (yd_yes rfl (congrArg Value.bool hg78) fun A hA => rn_load p_3 rfl (((hs.ext hX (fun _ h => h)).ext hA (fun _ h => h.elim)).at1 (map_at hi) rfl)) ?_
                refine wd_take 35 _ _ rfl (by kernel_rfl) hS (yd_yes rfl (congrArg Value.bool hg78) fun A hA => rn_eql rfl rfl) ?_
                refine wd_take 36 _ _ rfl (by kernel_rfl) hS (yd_do fun A hA => rn_pickF (congrArg Value.bool hg78) (by conv => lhs; whnf)) ?_
                refine wd_done (by kernel_rfl) ?_ _
                replace hX := hX.tr hS
                refine W_cond rfl (fun hc3 => ?_) (fun hc3 => ?_)
                · refine W_seq ?_
                  refine W_region ?_
                  refine wl_val (rn_assign (by conv => lhs; whnf)) ?_
                  refine wl_nil ?_
                  refine W_ret ?_
                  exact ⟨_, resR1 (res1_tmp rfl), hX, ⟨_, rfl⟩⟩
                · refine W_skip ?_
                  refine W_seq ?_
                  refine W_drawE mixed ?_; intro w6 hE6
                  replace hX := hX.tr hE6
                  have hS := Ext.refl Non w6
                  refine wd_take 0 _ _ rfl (by kernel_rfl) hS (yd_do fun A hA => rn_move (by conv => lhs; whnf)) ?_
                  refine wd_take 1 _ _ rfl (by kernel_rfl) hS (yd_do fun A hA => rn_move (by conv => lhs; whnf)) ?_
                  refine wd_take 2 _ _ rfl (by kernel_rfl) hS (yd_do fun A hA => rn_indexAddr sl_25 rfl rfl (by omega)) ?_
                  refine wd_take 3 _ _ rfl (by kernel_rfl) hS (yd_do fun A hA => rn_fieldAddr f_38_0 (by decide) rfl) ?_
                  refine wd_take 4 _ _ rfl (by kernel_rfl) hS (yd_do fun A hA => rn_load p_3 rfl (((hs.ext hX (fun _ h => h)).ext hA (fun _ h => h.elim)).at1 (map_at hk) rfl)) ?_
                  refine wd_take 5 _ _ rfl (by kernel_rfl) hS (yd_do fun A hA => rn_move (by conv => lhs; whnf)) ?_
                  refine wd_take 6 _ _ rfl (by kernel_rfl) hS (yd_do fun A hA => rn_move (by conv => lhs; whnf)) ?_
                  refine wd_take 7 _ _ rfl (by kernel_rfl) hS (yd_do fun A hA => rn_indexAddr sl_25 rfl rfl (by omega)) ?_
                  refine wd_take 8 _ _ rfl (by kernel_rfl) hS (yd_do fun A hA => rn_fieldAddr f_38_0 (by decide) rfl) ?_
                  refine wd_take 9 _ _ rfl (by kernel_rfl) hS (yd_do fun A hA => rn_load p_3 rfl (((hs.ext hX (fun _ h => h)).ext hA (fun _ h => h.elim)).at1 (map_at hi) rfl)) ?_
                  refine wd_take 10 _ _ rfl (by kernel_rfl) hS (yd_do fun A hA => rn_eql rfl rfl) ?_
                  refine wd_done (by kernel_rfl) ?_ _
                  replace hX := hX.tr hS
                  refine W_cond rfl (fun hc4 => ?_) (fun hc4 => ?_)
                  · refine W_seq ?_
                    refine W_seq ?_
                    refine W_drawE mixed ?_; intro w7 hE7
                    replace hX := hX.tr hE7
                    have hS := Ext.refl Non w7
                    refine wd_take 0 _ _ rfl (by kernel_rfl) hS (yd_do fun A hA => rn_move (by conv => lhs; whnf)) ?_
                    refine wd_take 1 _ _ rfl (by kernel_rfl) hS (yd_do fun A hA => rn_move (by conv => lhs; whnf)) ?_
                    refine wd_take 2 _ _ rfl (by kernel_rfl) hS (yd_do fun A hA => rn_indexAddr sl_25 rfl rfl (by omega)) ?_
                    refine wd_take 3 _ _ rfl (by kernel_rfl) hS (yd_do fun A hA => rn_fieldAddr f_38_5 (by decide) rfl) ?_
                    refine wd_take 4 _ _ rfl (by kernel_rfl) hS (yd_do fun A hA => rn_load p_3 rfl (((hs.ext hX (fun _ h => h)).ext hA (fun _ h => h.elim)).at1 (map_at hk) rfl)) ?_
                    refine wd_take 5 _ _ rfl (by kernel_rfl) hS (yd_do fun A hA => rn_move (by conv => lhs; whnf)) ?_
                    refine wd_take 6 _ _ rfl (by kernel_rfl) hS (yd_do fun A hA => rn_move (by conv => lhs; whnf)) ?_
                    refine wd_take 7 _ _ rfl (by kernel_rfl) hS (yd_do fun A hA => rn_indexAddr sl_25 rfl rfl (by omega)) ?_
                    refine wd_take 8 _ _ rfl (by kernel_rfl) hS (yd_do fun A hA => rn_fieldAddr f_38_4 (by decide) rfl) ?_
                    refine wd_take 9 _ _ rfl (by kernel_rfl) hS (yd_do fun A hA => rn_load p_3 rfl (((hs.ext hX (fun _ h => h)).ext hA (fun _ h => h.elim)).at1 (map_at hi) rfl)) ?_
                    refine wd_take 10 _ _ rfl (by kernel_rfl) hS (yd_do fun A hA => rn_geq rfl rfl) ?_
                    refine wd_take 11 _ _ rfl (by kernel_rfl) hS (yd_do fun A hA => rn_move (by conv => lhs; whnf)) ?_
                    refine wd_split (d := 113) rfl (fun hg113 => ?_) (fun hg113 => ?_)
                    · refine wd_take 12 _ _ rfl (by kernel_rfl) hS (yd_no rfl (congrArg Value.bool hg113)) ?_
                      refine wd_take 13 _ _ rfl (by kernel_rfl) hS (yd_no rfl (congrArg Value.bool hg113)) ?_
                      refine wd_take 14 _ _ rfl (by kernel_rfl) hS (yd_no rfl (congrArg Value.bool hg113)) ?_
                      refine wd_take 15 _ _ rfl (by kernel_rfl) hS (yd_no rfl (congrArg Value.bool hg113)) ?_
                      refine wd_take 16 _ _ rfl (by kernel_rfl) hS (yd_no rfl (congrArg Value.bool hg113)) ?_
                      refine wd_take 17 _ _ rfl (by kernel_rfl) hS (yd_no rfl (congrArg Value.bool hg113)) ?_
                      refine wd_take 18 _ _ rfl (by kernel_rfl) hS (yd_no rfl (congrArg Value.bool hg113)) ?_
                      refine wd_take 19 _ _ rfl (by kernel_rfl) hS (yd_do fun A hA => rn_pickT (congrArg Value.bool hg113) (by conv => lhs; whnf)) ?_
                      refine wd_done (by kernel_rfl) ?_ _
                      replace hX := hX.tr hS
                      refine W_condT rfl ?_
                      refine W_seq ?_
                      refine W_region ?_
                      refine wl_val (rn_assign (by conv => lhs; whnf)) ?_
                      refine wl_nil ?_
                      refine W_ret ?_
                      exact ⟨_, resR1 (res1_tmp rfl), hX, ⟨_, rfl⟩⟩
                    · refine wd_take 12 _ _ rfl (by kernel_rfl) hS (yd_yes rfl (congrArg Value.bool hg113) fun A hA => rn_move (by conv => lhs; whnf)) ?_
                      refine wd_take 13 _ _ rfl (by kernel_rfl) hS (yd_yes rfl (congrArg Value.bool hg113) fun A hA => rn_move (by conv => lhs; whnf)) ?_
                      refine wd_take 14 _ _ rfl (by kernel_rfl) hS (yd_yes rfl (congrArg Value.bool hg113) fun A hA => rn_indexAddr sl_25 rfl rfl (by omega)) ?_
                      refine wd_take 15 _ _ rfl (by kernel_rfl) hS (yd_yes rfl (congrArg Value.bool hg113) fun A hA => rn_fieldAddr f_38_1 (by decide) rfl) ?_
                      refine wd_take 16 _ _ rfl (by kernel_rfl) hS (yd_yes rfl (congrArg Value.bool hg113) fun A hA => rn_load p_3 rfl (((hs.ext hX (fun _ h => h)).ext hA (fun _ h => h.elim)).at1 (map_at hk) rfl)) ?_
                      refine wd_take 17 _ _ rfl (by kernel_rfl) hS (yd_yes rfl (congrArg Value.bool hg113) fun A hA => rn_move (by conv => lhs; whnf)) ?_
                      refine wd_take 18 _ _ rfl (by kernel_rfl) hS (yd_yes rfl (congrArg Value.bool hg113) fun A hA => rn_neq rfl rfl) ?_
                      refine wd_take 19 _ _ rfl (by kernel_rfl) hS (yd_do fun A hA => rn_pickF (congrArg Value.bool hg113) (by conv => lhs; whnf)) ?_
                      refine wd_done (by kernel_rfl) ?_ _
                      replace hX := hX.tr hS
                      refine W_cond rfl (fun hc5 => ?_) (fun hc5 => ?_)
                      · refine W_seq ?_
                        refine W_region ?_
                        refine wl_val (rn_assign (by conv => lhs; whnf)) ?_
                        refine wl_nil ?_
                        refine W_ret ?_
                        exact ⟨_, resR1 (res1_tmp rfl), hX, ⟨_, rfl⟩⟩
                      · refine W_skip ?_
                        refine W_region ?_
                        refine wl_val (rn_move (by conv => lhs; whnf)) ?_
                        refine wl_val (rn_add rfl rfl (by omega)) ?_
                        refine wl_val (rn_assign (by conv => lhs; whnf)) ?_
                        refine wl_nil ?_
                        refine W_region ?_
                        refine wl_val (rn_move (by conv => lhs; whnf)) ?_
                        refine wl_val (rn_add rfl rfl (by omega)) ?_
                        refine wl_val (rn_assign (by conv => lhs; whnf)) ?_
                        refine wl_nil ?_
                        exact ⟨rfl, (k + 1, pl + 1), ⟨rfl, rfl, rfl, rfl, trivial⟩, ⟨hX, ⟨by omega, by omega⟩⟩, by show i - (k + 1) < i - k; omega⟩
                  · refine W_skip ?_
                    refine W_region ?_
                    refine wl_val (rn_move (by conv => lhs; whnf)) ?_
                    refine wl_val (rn_add rfl rfl (by omega)) ?_
                    refine wl_val (rn_assign (by conv => lhs; whnf)) ?_
                    refine wl_nil ?_
                    exact ⟨rfl, (k + 1, pl), ⟨rfl, rfl, rfl, rfl, trivial⟩, ⟨hX, ⟨by omega, by omega⟩⟩, by show i - (k + 1) < i - k; omega⟩
          · refine W_exit ?_   -- exit 2
            refine W_seq ?_
            refine W_region ?_
            refine wl_val (rn_move (by conv => lhs; whnf)) ?_
            refine wl_val (rn_move (by conv => lhs; whnf)) ?_
            refine wl_val (rn_indexAddr sl_25 rfl rfl (by omega)) ?_
            refine wl_val (rn_fieldAddr f_38_1 (by decide) rfl) ?_
            refine wl_val (rn_load p_3 rfl ((hs.ext hX (fun _ h => h)).at1 (map_at hi) rfl)) ?_
            refine wl_val (rn_move (by conv => lhs; whnf)) ?_
            refine wl_val (rn_neq rfl rfl) ?_
            refine wl_nil ?_
            refine W_cond rfl (fun hc6 => ?_) (fun hc6 => ?_)
            · refine W_seq ?_
              refine W_region ?_
              refine wl_val (rn_assign (by conv => lhs; whnf)) ?_
              refine wl_nil ?_
              refine W_ret ?_
              exact ⟨_, resR1 (res1_tmp rfl), hX, ⟨_, rfl⟩⟩
            · refine W_skip ?_
              refine W_region ?_
              refine wl_val (rn_move (by conv => lhs; whnf)) ?_
              refine wl_val (rn_add rfl rfl (by omega)) ?_
              refine wl_val (rn_assign (by conv => lhs; whnf)) ?_
              refine wl_nil ?_
              exact ⟨rfl, i + 1, ⟨rfl, rfl, trivial⟩, ⟨hX, hlt⟩, by omega⟩
  · refine W_exit ?_   -- exit 0
    refine W_seq ?_
    refine W_region ?_
    refine wl_val (rn_assign (by conv => lhs; whnf)) ?_
    refine wl_nil ?_
    refine W_ret ?_
    exact ⟨_, resR1 (res1_tmp rfl), hX, ⟨_, rfl⟩⟩
-- bellman/bellmanref08.Bad
theorem bad_ok (w : World) (l : List CallD) {vl : Value} (hs : Sl Non w vl 15 (l.map CallD.enc)) (hn : l.length ≤ 1000) : Fn Tryd.prog 20 #[vl] w fun u w' => ∃ b, u = .bool b := by
  obtain ⟨al, cl, rfl, _⟩ := hs.len
  simp only [List.length_map] at hs ⊢
  have hbig2 : big = 9223372036854775807 := rfl
  have hX := Ext.refl Non w
  refine fn_of_W (args := [_]) Tryd.func20 rfl (by kernel_rfl) rfl ?_
  refine W_seq ?_
  refine W_region ?_
  refine wl_val (rn_assign (by conv => lhs; whnf)) ?_
  refine wl_nil ?_
  refine W_seq ?_
  refine W_region ?_
  refine wl_val (rn_move (by conv => lhs; whnf)) ?_
  refine wl_call e_71 rfl (right_ok w l (hs.ext hX (fun _ h => h)) hn) ?_; intro v4 w1 hE1 hR1
  replace hX := hX.tr hE1
  obtain ⟨b4, rfl⟩ := hR1
  refine wl_val (rn_not rfl) ?_
  refine wl_val (rn_assign (by conv => lhs; whnf)) ?_
  refine wl_nil ?_
  refine W_ret ?_
  exact ⟨_, resR1 (res1_tmp rfl), hX, ⟨_, rfl⟩⟩
-- bellman/bellmanref08.All
set_option maxHeartbeats 8000000 in
theorem all8_ok (w : World) (l : List CallD) {vl : Value} (hs : Sl Non w vl 15 (l.map CallD.enc)) (hn : l.length ≤ 7) : Fn Tryd.prog 21 #[vl] w fun u w' => ∃ v, u = .tuple #[v, .int .i64 ((orders l).length : Nat)] ∧ Sl Non w' v 1 (((orders l).headD []).map eN) := by
  obtain ⟨al, cl, rfl, _⟩ := hs.len
  simp only [List.length_map] at hs ⊢
  have hbig2 : big = 9223372036854775807 := rfl
  have hch := orders_chain hn
  have hol_ := alls_len l l.length (none0 l) st0
  have hgl : ∀ vis : List (List Nat), vis.length ≤ 5041 → (goodV l vis).length ≤ 5041 := fun vis h => Nat.le_trans (List.length_filter_le _ _) h
  have hX := Ext.refl Non w
  refine fn_of_W (args := [_]) Tryd.func21 rfl (by kernel_rfl) rfl ?_
  refine W_seq ?_
  refine W_region ?_
  refine wl_val (rn_assign (by conv => lhs; whnf)) ?_
  refine wl_val (rn_assign (by conv => lhs; whnf)) ?_
  refine wl_nil ?_
  refine W_seq ?_
  refine W_region ?_
  refine wl_val (rn_move (by conv => lhs; whnf)) ?_
  refine wl_val (rn_len sl_25 rfl) ?_
  refine wl_val (rn_assign (by conv => lhs; whnf)) ?_
  refine wl_nil ?_
  refine W_seq ?_
  refine W_region ?_
  refine wl_val (rn_move (by conv => lhs; whnf)) ?_
  refine wl_make sl_39 rfl rfl rfl (by omega) (by omega) ?_; intro w1 bo hbo hE1 hOr
  have hyo : w.heap.size ≤ bo := Nat.le_trans hX.size hbo; have hzo := hOr.box.lt
  rw [fill_zero] at hOr
  replace hX := hX.tr hE1
  refine wl_val (rn_assign (by conv => lhs; whnf)) ?_
  refine wl_nil ?_
  refine W_seq ?_
  refine W_seq ?_
  refine W_region ?_
  refine wl_val (rn_assign (by conv => lhs; whnf)) ?_
  refine wl_nil ?_
  refine W_block ?_   -- block 0
  refine W_loopS (S := Nat) [0, 4, 5, 6] (fun i => [.slice al l.length cl, .int .i64 (l.length : Nat), .slice (some ⟨bo, 0, none⟩) l.length l.length, .int .i64 (i : Nat)]) (fun i A => (Ext Non w A) ∧ (i ≤ l.length ∧ Ow A (.slice (some ⟨bo, 0, none⟩) l.length l.length) bo 1 ((fillR l.length i).map eN) [])) (fun i => l.length - i) 0 ⟨rfl, rfl, rfl, rfl, trivial⟩ ⟨hX, ⟨Nat.zero_le _, hOr⟩⟩ ?_
  rintro τ0 i A0 ⟨hX, hI0⟩
  obtain ⟨hI, hOr⟩ := hI0
  refine W_seq ?_
  refine W_seq ?_
  refine W_region ?_
  refine wl_val (rn_move (by conv => lhs; whnf)) ?_
  refine wl_val (rn_move (by conv => lhs; whnf)) ?_
  refine wl_val (rn_lss rfl rfl) ?_
  refine wl_nil ?_
  refine W_cond rfl (fun hc0 => ?_) (fun hc0 => ?_)
  · have hlt := of_decide_eq_true hc0; simp only [Int.ofNat_lt] at hlt
    refine W_skip ?_
    refine W_seq ?_
    refine W_block ?_   -- block 1
    refine W_region ?_
    refine wl_val (rn_move (by conv => lhs; whnf)) ?_
    refine wl_val (rn_move (by conv => lhs; whnf)) ?_
    refine wl_val (rn_move (by conv => lhs; whnf)) ?_
    refine wl_val (rn_indexAddr sl_39 rfl rfl (by omega)) ?_
    refine wl_storeE (u := .int .i64 (i : Nat)) (i := i) p_3 rfl rfl rfl rfl hOr (by rw [List.length_map, fill_len hI]; omega) ?_; intro w2 hE2 hOr2
    replace hX := hX.mine hE2 (.inr hyo)
    rw [fill_set (by omega)] at hOr2; have hOr := hOr2
    refine wl_nil ?_
    refine W_region ?_
    refine wl_val (rn_move (by conv => lhs; whnf)) ?_
    refine wl_val (rn_add rfl rfl (by omega)) ?_
    refine wl_val (rn_assign (by conv => lhs; whnf)) ?_
    refine wl_nil ?_
    exact ⟨rfl, i + 1, ⟨rfl, rfl, rfl, rfl, trivial⟩, ⟨hX, ⟨by omega, hOr⟩⟩, by omega⟩
  · have hge := of_decide_eq_false hc0; simp only [Int.ofNat_lt, Nat.not_lt] at hge
    have hie : i = l.length := by omega
    subst hie
    refine W_exit ?_   -- exit 0
    refine W_seq ?_
    refine W_region ?_
    refine wl_val (rn_assign (by conv => lhs; whnf)) ?_
    refine wl_nil ?_
    refine W_seq ?_
    refine W_region ?_
    refine wl_val (rn_assign (by conv => lhs; whnf)) ?_
    refine wl_nil ?_
    refine W_seq ?_
    refine W_seq ?_
    refine W_region ?_
    refine wl_val (rn_assign (by conv => lhs; whnf)) ?_
    refine wl_nil ?_
    refine W_block ?_   -- block 2
    refine W_loopS (S := Nat × List Nat × List (List Nat) × Value × Option Nat) [0, 4, 5, 7, 8, 9] (fun ⟨st, o, vis, v7, o7⟩ => [.slice al l.length cl, .int .i64 (l.length : Nat), .slice (some ⟨bo, 0, none⟩) l.length l.length, v7, .int .i64 ((goodV l vis).length : Nat), .int .i64 (st : Nat)]) (fun ⟨st, o, vis, v7, o7⟩ A => (Ext Non w A) ∧ (st ≤ 5041 ∧ o.length = l.length ∧ Ow A (.slice (some ⟨bo, 0, none⟩) l.length l.length) bo 1 (o.map eN) [] ∧ vis.length = st ∧ chain 5041 (List.range l.length) = vis ++ chain (5041 - st) o ∧ OwO A v7 o7 1 (((goodV l vis).headD []).map eN) ∧ (∀ j, o7 = some j → w.heap.size ≤ j ∧ j ≠ bo))) (fun ⟨st, o, vis, v7, o7⟩ => 5041 - st) (0, List.range l.length, [], .slice none 0 0, none) ⟨rfl, rfl, rfl, rfl, rfl, rfl, trivial⟩ ⟨hX, ⟨by omega, by simp, by rw [fill_all] at hOr; exact hOr, rfl, rfl, OwO.nil, fun j h => by cases h⟩⟩ ?_
    rintro τ1 ⟨st, o, vis, v7, o7⟩ A1 ⟨hX, hI1⟩
    obtain ⟨hst, hol, hOr, hvl, hchn, hF, hf7⟩ := hI1
    have hgl2 := hgl vis (by omega)
    refine W_seq ?_
    refine W_seq ?_
    refine W_region ?_
    refine wl_val (rn_move (by conv => lhs; whnf)) ?_
    refine wl_val (rn_lss rfl rfl) ?_
    refine wl_nil ?_
    refine W_cond rfl (fun hc1 => ?_) (fun hc1 => ?_)
    · have hs1 := of_decide_eq_true hc1
      refine W_skip ?_
      refine W_seq ?_
      refine W_block ?_   -- block 3
      refine W_cut (T := Value × Option Nat) [0, 4, 5, 7, 8, 9] (fun ⟨v7, o7⟩ => [.slice al l.length cl, .int .i64 (l.length : Nat), .slice (some ⟨bo, 0, none⟩) l.length l.length, v7, .int .i64 ((goodV l (vis ++ [o])).length : Nat), .int .i64 (st : Nat)]) (fun ⟨v7, o7⟩ A => (Ext Non w A) ∧ (Ow A (.slice (some ⟨bo, 0, none⟩) l.length l.length) bo 1 (o.map eN) [] ∧ OwO A v7 o7 1 (((goodV l (vis ++ [o])).headD []).map eN) ∧ (∀ j, o7 = some j → w.heap.size ≤ j ∧ j ≠ bo))) ?_ ?_
      · refine W_seq ?_
        refine W_region ?_
        refine wl_val (rn_move (by conv => lhs; whnf)) ?_
        refine wl_val (rn_move (by conv => lhs; whnf)) ?_
        have ho2 := (hOr.sl (M := Non) id); rw [eN_eI] at ho2
        refine wl_call e_18 rfl (rcheck_ok A1 l (o.map fun i : Nat => (i : Int)) (hs.ext hX (fun _ h => h)) ho2 (by omega)) ?_; intro v35 w3 hE3 hR3
        replace hX := hX.tr hE3
        replace hOr := hOr.ext hE3 id
        replace hF := hF.ext hE3 (fun _ _ h => h)
        subst hR3
        refine wl_nil ?_
        refine W_cond rfl (fun hc2 => ?_) (fun hc2 => ?_)
        · have hgd : chkN l (none0 l) st0 o = true := by rw [← chk_one hol]; exact hc2
          refine W_seq ?_
          refine W_seq ?_
          refine W_region ?_
          refine wl_val (rn_move (by conv => lhs; whnf)) ?_
          refine wl_val (rn_eql rfl rfl) ?_
          refine wl_nil ?_
          refine W_cond rfl (fun hc3 => ?_) (fun hc3 => ?_)
          · have hem : goodV l vis = [] := List.length_eq_zero_iff.1 (by have := of_decide_eq_true hc3; omega)
            refine W_region ?_
            refine wl_lit sl_39 (parts := []) (rows := []) rfl (by decide) (by decide) rfl rfl (by simp) (by simp) rfl ?_; intro v38 w4 b38 hb38 hE4 hO38
            have hy38 : w.heap.size ≤ b38 := Nat.le_trans hX.size hb38; have hbo38 : bo < b38 := Nat.lt_of_lt_of_le hOr.box.lt hb38; have hzF : ∀ j, o7 = some j → j < b38 := fun j hj => Nat.lt_of_lt_of_le (hF.lt hj) hb38
            replace hX := hX.tr hE4
            replace hOr := hOr.ext hE4 id
            replace hF := hF.ext hE4 (fun _ _ h => h)
            refine wl_val (rn_move (by conv => lhs; whnf)) ?_
            have hXo := hX; have hzo2 := hOr.box.lt
            refine wl_app sl_39 rfl rfl rfl (.inr ⟨b38, [], rfl, hO38⟩) (hOr.sl (M := Non) id) (fun r hr => by obtain ⟨z, _, rfl⟩ := List.mem_map.1 hr; exact one1 rfl) (by simp only [List.length_map, List.length_nil]; omega) (by simp only [List.length_map, List.length_nil, big]; omega) ?_; intro v40 w5 o40 hE5 hF40 hf40
            obtain ⟨a40, c40, hv40⟩ := id hF40.len; subst hv40
            replace hX := hX.own2 hE5 (fun j hj => by cases hj; exact .inr hy38); replace hOr := hOr.ext hE5 (fun e => by cases e; omega)
            have hf40b : ∀ j, o40 = some j → w.heap.size ≤ j ∧ j ≠ bo := fun j hj => by
              rcases hf40 j hj with h | h
              · cases h; exact ⟨hy38, by omega⟩
              · have := hXo.size; exact ⟨by omega, by omega⟩
            replace hF := hF.ext hE5 (fun j hj e => by cases e; have := hzF _ hj; omega)
            refine wl_val (rn_assign (by conv => lhs; whnf)) ?_
            refine wl_nil ?_
            refine W_region ?_
            refine wl_val (rn_move (by conv => lhs; whnf)) ?_
            refine wl_val (rn_add rfl rfl (by omega)) ?_
            refine wl_val (rn_assign (by conv => lhs; whnf)) ?_
            refine wl_nil ?_
            exact ⟨rfl, (_, o40), ⟨rfl, rfl, rfl, rfl, (congrArg (Value.int .i64) (by rw [good_yes hgd, List.length_append]; rfl)), rfl, trivial⟩, ⟨hX, ⟨hOr, by rw [good_yes hgd, headD_app, if_pos hem]; exact hF40, hf40b⟩⟩⟩
          · have hem : ¬ goodV l vis = [] := fun e => by have := of_decide_eq_false hc3; rw [e] at this; exact this rfl
            refine W_skip ?_
            refine W_region ?_
            refine wl_val (rn_move (by conv => lhs; whnf)) ?_
            refine wl_val (rn_add rfl rfl (by omega)) ?_
            refine wl_val (rn_assign (by conv => lhs; whnf)) ?_
            refine wl_nil ?_
            exact ⟨rfl, (v7, o7), ⟨rfl, rfl, rfl, rfl, (congrArg (Value.int .i64) (by rw [good_yes hgd, List.length_append]; rfl)), rfl, trivial⟩, ⟨hX, ⟨hOr, by rw [good_yes hgd, headD_app, if_neg hem]; exact hF, hf7⟩⟩⟩
        · have hgd : chkN l (none0 l) st0 o = false := by rw [← chk_one hol]; exact hc2
          refine W_skip ?_
          exact ⟨rfl, (v7, o7), ⟨rfl, rfl, rfl, rfl, (by rw [good_no hgd]; rfl), rfl, trivial⟩, ⟨hX, ⟨hOr, by rw [good_no hgd]; exact hF, hf7⟩⟩⟩
      · rintro τ1035 ⟨v7, o7⟩ C135 ⟨hX, hI⟩
        obtain ⟨hOr, hF, hf7⟩ := hI
        refine W_seq ?_
        refine W_region ?_
        refine wl_val (rn_move (by conv => lhs; whnf)) ?_
        refine wl_val (rn_sub rfl rfl (by omega)) ?_
        refine wl_val (rn_assign (by conv => lhs; whnf)) ?_
        refine wl_nil ?_
        refine W_seq ?_
        refine W_block ?_   -- block 4
        refine W_loopS (S := Nat × Int) [0, 4, 5, 7, 8, 9, 10] (fun ⟨m, t⟩ => [.slice al l.length cl, .int .i64 (l.length : Nat), .slice (some ⟨bo, 0, none⟩) l.length l.length, v7, .int .i64 ((goodV l (vis ++ [o])).length : Nat), .int .i64 (st : Nat), .int .i64 t]) (fun ⟨m, t⟩ A => (Ext Non w A) ∧ (((m = 0 ∧ t < 0 ∧ -2 ≤ t) ∨ t = m - 1) ∧ m ≤ l.length - 1 ∧ nk o (l.length - 1) = nk o m ∧ Ow A (.slice (some ⟨bo, 0, none⟩) l.length l.length) bo 1 (o.map eN) [] ∧ OwO A v7 o7 1 (((goodV l (vis ++ [o])).headD []).map eN) ∧ (∀ j, o7 = some j → w.heap.size ≤ j ∧ j ≠ bo))) (fun ⟨m, t⟩ => m) (l.length - 1, (l.length : Int) - 2) ⟨rfl, rfl, rfl, rfl, rfl, rfl, rfl, trivial⟩ ⟨hX, ⟨by omega, Nat.le_refl _, rfl, hOr, hF, hf7⟩⟩ ?_
        rintro τ2 ⟨m, t⟩ A2 ⟨hX, hI2⟩
        obtain ⟨hmt, hml, hnk, hOr, hF, hf7⟩ := hI2
        refine W_seq ?_
        refine W_seq ?_
        refine W_drawE mixed ?_; intro w6 hE6
        replace hX := hX.tr hE6
        replace hOr := hOr.ext hE6 id
        replace hF := hF.ext hE6 (fun _ _ h => h)
        have hS := Ext.refl Non w6
        refine wd_take 0 _ _ rfl (by kernel_rfl) hS (yd_do fun A hA => rn_move (by conv => lhs; whnf)) ?_
        refine wd_take 1 _ _ rfl (by kernel_rfl) hS (yd_do fun A hA => rn_geq rfl rfl) ?_
        refine wd_take 2 _ _ rfl (by kernel_rfl) hS (yd_do fun A hA => rn_move (by conv => lhs; whnf)) ?_
        refine wd_split (d := 47) rfl (fun hg47 => ?_) (fun hg47 => ?_)
        · have ht0 := of_decide_eq_true hg47
          obtain ⟨k, hk⟩ : ∃ k, m = k + 1 := ⟨m - 1, by omega⟩
          subst hk
          have htk : t = (k : Int) := by omega
          subst htk
          obtain ⟨x, hk0⟩ : ∃ x, o[k]? = some x := ⟨_, List.getElem?_eq_getElem (by omega)⟩
          obtain ⟨z, hk1⟩ : ∃ z, o[k + 1]? = some z := ⟨_, List.getElem?_eq_getElem (by omega)⟩
          refine wd_take 3 _ _ rfl (by kernel_rfl) hS (yd_yes rfl (congrArg Value.bool hg47) fun A hA => rn_move (by conv => lhs; whnf)) ?_
          refine wd_take 4 _ _ rfl (by kernel_rfl) hS (yd_yes rfl (congrArg Value.bool hg47) fun A hA => rn_move (by conv => lhs; whnf)) ?_
          refine wd_take 5 _ _ rfl (by kernel_rfl) hS (yd_yes rfl (congrArg Value.bool hg47) fun A hA => rn_indexAddr sl_39 rfl rfl (by omega)) ?_
          refine wd_take 6 _ _ rfl (by kernel_rfl) hS (yd_yes rfl (congrArg Value.bool hg47) fun A hA => rn_load p_3 rfl (((hOr.sl (M := Non) id).ext hA (fun _ h => h.elim)).at0 (eN_at hk0) rfl)) ?_
          refine wd_take 7 _ _ rfl (by kernel_rfl) hS (yd_yes rfl (congrArg Value.bool hg47) fun A hA => rn_move (by conv => lhs; whnf)) ?_
          refine wd_take 8 _ _ rfl (by kernel_rfl) hS (yd_yes rfl (congrArg Value.bool hg47) fun A hA => rn_move (by conv => lhs; whnf)) ?_
          refine wd_take 9 _ _ rfl (by kernel_rfl) hS (yd_yes rfl (congrArg Value.bool hg47) fun A hA => rn_add rfl rfl (by omega)) ?_
          refine wd_take 10 _ _ rfl (by kernel_rfl) hS (yd_yes rfl (congrArg Value.bool hg47) fun A hA => rn_indexAddr sl_39 rfl rfl (by omega)) ?_
          refine wd_take 11 _ _ rfl (by kernel_rfl) hS (yd_yes rfl (congrArg Value.bool hg47) fun A hA => rn_load p_3 rfl (((hOr.sl (M := Non) id).ext hA (fun _ h => h.elim)).at0 (eN_at hk1) rfl)) ?_
          refine wd_take 12 _ _ rfl (by kernel_rfl) hS (yd_yes rfl (congrArg Value.bool hg47) fun A hA => rn_gtr rfl rfl) ?_
          refine wd_take 13 _ _ rfl (by kernel_rfl) hS (yd_do fun A hA => rn_pickT (congrArg Value.bool hg47) (by conv => lhs; whnf)) ?_
          refine wd_done (by kernel_rfl) ?_ _
          replace hX := hX.tr hS
          replace hOr := hOr.ext hS id
          replace hF := hF.ext hS (fun _ _ h => h)
          refine W_cond rfl (fun hc4 => ?_) (fun hc4 => ?_)
          · have hgt := of_decide_eq_true hc4; simp only [Int.ofNat_lt] at hgt
            refine W_skip ?_
            refine W_block ?_   -- block 5
            refine W_region ?_
            refine wl_val (rn_move (by conv => lhs; whnf)) ?_
            refine wl_val (rn_sub rfl rfl (by omega)) ?_
            refine wl_val (rn_assign (by conv => lhs; whnf)) ?_
            refine wl_nil ?_
            exact ⟨rfl, (k, (k : Int) - 1), ⟨rfl, rfl, rfl, rfl, rfl, rfl, rfl, trivial⟩, ⟨hX, ⟨.inr rfl, by omega, by rw [hnk, nk_on (by rw [getD_of hk1, getD_of hk0]; exact_mod_cast hgt)], hOr, hF, hf7⟩⟩, by show k < k + 1; omega⟩
          · have hng := of_decide_eq_false hc4; simp only [Int.ofNat_lt] at hng
            have hnk2 : nk o (l.length - 1) = some k := by rw [hnk, nk_stop (by rw [getD_of hk1, getD_of hk0]; exact hng)]
            refine W_exit ?_   -- exit 4
            refine W_seq ?_
            refine W_seq ?_
            refine W_region ?_
            refine wl_val (rn_move (by conv => lhs; whnf)) ?_
            refine wl_val (rn_lss rfl rfl) ?_
            refine wl_nil ?_
            refine W_cond rfl (fun hc5 => ?_) (fun hc5 => ?_)
            · exact absurd (of_decide_eq_true hc5) (by omega)
            · refine W_skip ?_
              refine W_seq ?_
              refine W_region ?_
              refine wl_val (rn_move (by conv => lhs; whnf)) ?_
              refine wl_val (rn_sub rfl rfl (by omega)) ?_
              refine wl_val (rn_assign (by conv => lhs; whnf)) ?_
              refine wl_nil ?_
              refine W_seq ?_
              refine W_block ?_   -- block 6
              refine W_loopS (S := Nat) [0, 4, 5, 7, 8, 9, 10, 11] (fun m => [.slice al l.length cl, .int .i64 (l.length : Nat), .slice (some ⟨bo, 0, none⟩) l.length l.length, v7, .int .i64 ((goodV l (vis ++ [o])).length : Nat), .int .i64 (st : Nat), .int .i64 (k : Nat), .int .i64 (m : Nat)]) (fun m A => (Ext Non w A) ∧ (k + 1 ≤ m ∧ m ≤ l.length - 1 ∧ nj o x (l.length - 1) = nj o x m ∧ Ow A (.slice (some ⟨bo, 0, none⟩) l.length l.length) bo 1 (o.map eN) [] ∧ OwO A v7 o7 1 (((goodV l (vis ++ [o])).headD []).map eN) ∧ (∀ j, o7 = some j → w.heap.size ≤ j ∧ j ≠ bo))) (fun m => m) (l.length - 1) ⟨rfl, rfl, rfl, rfl, rfl, rfl, rfl, (congrArg (Value.int .i64) (by omega)), trivial⟩ ⟨hX, ⟨by omega, Nat.le_refl _, rfl, hOr, hF, hf7⟩⟩ ?_
              rintro τ3 m A3 ⟨hX, hI3⟩
              obtain ⟨hkm, hml2, hnj, hOr, hF, hf7⟩ := hI3
              obtain ⟨y, hy⟩ : ∃ y, o[m]? = some y := ⟨_, List.getElem?_eq_getElem (by omega)⟩
              obtain ⟨q, hq⟩ : ∃ q, m = q + 1 := ⟨m - 1, by omega⟩
              subst hq
              refine W_seq ?_
              refine W_seq ?_
              refine W_drawE mixed ?_; intro w7 hE7
              replace hX := hX.tr hE7
              replace hOr := hOr.ext hE7 id
              replace hF := hF.ext hE7 (fun _ _ h => h)
              have hS := Ext.refl Non w7
              refine wd_take 0 _ _ rfl (by kernel_rfl) hS (yd_do fun A hA => rn_move (by conv => lhs; whnf)) ?_
              refine wd_take 1 _ _ rfl (by kernel_rfl) hS (yd_do fun A hA => rn_move (by conv => lhs; whnf)) ?_
              refine wd_take 2 _ _ rfl (by kernel_rfl) hS (yd_do fun A hA => rn_indexAddr sl_39 rfl rfl (by omega)) ?_
              refine wd_take 3 _ _ rfl (by kernel_rfl) hS (yd_do fun A hA => rn_load p_3 rfl (((hOr.sl (M := Non) id).ext hA (fun _ h => h.elim)).at0 (eN_at hy) rfl)) ?_
              refine wd_take 4 _ _ rfl (by kernel_rfl) hS (yd_do fun A hA => rn_move (by conv => lhs; whnf)) ?_
              refine wd_take 5 _ _ rfl (by kernel_rfl) hS (yd_do fun A hA => rn_move (by conv => lhs; whnf)) ?_
              refine wd_take 6 _ _ rfl (by kernel_rfl) hS (yd_do fun A hA => rn_indexAddr sl_39 rfl rfl (by omega)) ?_
              refine wd_take 7 _ _ rfl (by kernel_rfl) hS (yd_do fun A hA => rn_load p_3 rfl (((hOr.sl (M := Non) id).ext hA (fun _ h => h.elim)).at0 (eN_at hk0) rfl)) ?_
              refine wd_take 8 _ _ rfl (by kernel_rfl) hS (yd_do fun A hA => rn_lss rfl rfl) ?_
              refine wd_done (by kernel_rfl) ?_ _
              replace hX := hX.tr hS
              replace hOr := hOr.ext hS id
              replace hF := hF.ext hS (fun _ _ h => h)
              refine W_cond rfl (fun hc6 => ?_) (fun hc6 => ?_)
              · have hyx := of_decide_eq_true hc6; simp only [Int.ofNat_lt] at hyx
                refine W_skip ?_
                refine W_block ?_   -- block 7
                refine W_region ?_
                refine wl_val (rn_move (by conv => lhs; whnf)) ?_
                refine wl_val (rn_sub rfl rfl (by omega)) ?_
                refine wl_val (rn_assign (by conv => lhs; whnf)) ?_
                refine wl_nil ?_
                
                exact ⟨rfl, q, ⟨rfl, rfl, rfl, rfl, rfl, rfl, rfl, (congrArg (Value.int .i64) (by omega)), trivial⟩, ⟨hX, ⟨by have : ¬ q = k := fun e => hng (by subst e; have := hk1; rw [hy] at this; cases this; exact hyx); omega, by omega, by rw [hnj, nj_on (by rw [getD_of hy]; exact hyx)], hOr, hF, hf7⟩⟩, by omega⟩
              · have hyx := of_decide_eq_false hc6; simp only [Int.ofNat_lt] at hyx
                refine W_exit ?_   -- exit 6
                refine W_seq ?_
                refine W_drawE mixed ?_; intro w8 hE8
                replace hX := hX.tr hE8
                replace hOr := hOr.ext hE8 id
                replace hF := hF.ext hE8 (fun _ _ h => h)
                have hS := Ext.refl Non w8
                refine wd_take 0 _ _ rfl (by kernel_rfl) hS (yd_do fun A hA => rn_move (by conv => lhs; whnf)) ?_
                refine wd_take 1 _ _ rfl (by kernel_rfl) hS (yd_do fun A hA => rn_move (by conv => lhs; whnf)) ?_
                refine wd_take 2 _ _ rfl (by kernel_rfl) hS (yd_do fun A hA => rn_indexAddr sl_39 rfl rfl (by omega)) ?_
                refine wd_take 3 _ _ rfl (by kernel_rfl) hS (yd_do fun A hA => rn_load p_3 rfl (((hOr.sl (M := Non) id).ext hA (fun _ h => h.elim)).at0 (eN_at hk0) rfl)) ?_
                refine wd_take 4 _ _ rfl (by kernel_rfl) hS (yd_do fun A hA => rn_move (by conv => lhs; whnf)) ?_
                refine wd_take 5 _ _ rfl (by kernel_rfl) hS (yd_do fun A hA => rn_move (by conv => lhs; whnf)) ?_
                refine wd_take 6 _ _ rfl (by kernel_rfl) hS (yd_do fun A hA => rn_indexAddr sl_39 rfl rfl (by omega)) ?_
                refine wd_take 7 _ _ rfl (by kernel_rfl) hS (yd_do fun A hA => rn_load p_3 rfl (((hOr.sl (M := Non) id).ext hA (fun _ h => h.elim)).at0 (eN_at hy) rfl)) ?_
                refine wd_take 8 _ _ rfl (by kernel_rfl) hS (yd_do fun A hA => rn_assign (by conv => lhs; whnf)) ?_
                refine wd_take 9 _ _ rfl (by kernel_rfl) hS (yd_do fun A hA => rn_assign (by conv => lhs; whnf)) ?_
                refine wd_done (by kernel_rfl) ?_ _
                replace hX := hX.tr hS
                replace hOr := hOr.ext hS id
                replace hF := hF.ext hS (fun _ _ h => h)
                refine W_seq ?_
                refine W_region ?_
                refine wl_val (rn_move (by conv => lhs; whnf)) ?_
                refine wl_val (rn_move (by conv => lhs; whnf)) ?_
                refine wl_val (rn_move (by conv => lhs; whnf)) ?_
                refine wl_val (rn_move (by conv => lhs; whnf)) ?_
                refine wl_val (rn_move (by conv => lhs; whnf)) ?_
                refine wl_val (rn_move (by conv => lhs; whnf)) ?_
                refine wl_val (rn_indexAddr sl_39 rfl rfl (by omega)) ?_
                refine wl_storeE (u := .int .i64 (y : Nat)) (i := k) p_3 rfl rfl rfl rfl hOr (by rw [List.length_map]; omega) ?_; intro w9 hE9 hOr2
                replace hX := hX.mine hE9 (.inr hyo)
                replace hF := hF.ext hE9 (fun j hj e => (hf7 j hj).2 e)
                rw [setN_eN] at hOr2; have hOr := hOr2
                refine wl_val (rn_indexAddr sl_39 rfl rfl (by omega)) ?_
                refine wl_storeE (u := .int .i64 (x : Nat)) (i := (q + 1)) p_3 rfl rfl rfl rfl hOr (by rw [List.length_map, List.length_set]; omega) ?_; intro w10 hE10 hOr2
                replace hX := hX.mine hE10 (.inr hyo)
                replace hF := hF.ext hE10 (fun j hj e => (hf7 j hj).2 e)
                rw [setN_eN] at hOr2; have hOr := hOr2
                rw [sw_at hk0 hy] at hOr
                refine wl_nil ?_
                refine W_seq ?_
                refine W_region ?_
                refine wl_val (rn_move (by conv => lhs; whnf)) ?_
                refine wl_val (rn_add rfl rfl (by omega)) ?_
                refine wl_val (rn_move (by conv => lhs; whnf)) ?_
                refine wl_val (rn_sub rfl rfl (by omega)) ?_
                refine wl_val (rn_assign (by conv => lhs; whnf)) ?_
                refine wl_val (rn_assign (by conv => lhs; whnf)) ?_
                refine wl_nil ?_
                refine W_block ?_   -- block 8
                refine W_loopS (S := Nat × Nat × Nat × List Nat) [0, 4, 5, 7, 8, 9, 14, 15] (fun ⟨f, a, b, oc⟩ => [.slice al l.length cl, .int .i64 (l.length : Nat), .slice (some ⟨bo, 0, none⟩) l.length l.length, v7, .int .i64 ((goodV l (vis ++ [o])).length : Nat), .int .i64 (st : Nat), .int .i64 (a : Nat), .int .i64 (b : Nat)]) (fun ⟨f, a, b, oc⟩ A => (Ext Non w A) ∧ (rv (sw o k (q + 1)) l.length (k + 1) (l.length - 1) = rv oc f a b ∧ b ≤ a + f ∧ b < l.length ∧ oc.length = l.length ∧ Ow A (.slice (some ⟨bo, 0, none⟩) l.length l.length) bo 1 (oc.map eN) [] ∧ OwO A v7 o7 1 (((goodV l (vis ++ [o])).headD []).map eN) ∧ (∀ j, o7 = some j → w.heap.size ≤ j ∧ j ≠ bo))) (fun ⟨f, a, b, oc⟩ => b - a) (l.length, k + 1, l.length - 1, sw o k (q + 1)) ⟨rfl, rfl, rfl, rfl, rfl, rfl, rfl, (congrArg (Value.int .i64) (by omega)), trivial⟩ ⟨hX, ⟨rfl, by omega, by omega, by rw [sw_len]; exact hol, hOr, hF, hf7⟩⟩ ?_
                rintro τ4 ⟨f, a, b, oc⟩ A4 ⟨hX, hI4⟩
                obtain ⟨hrv, hba, hbn, hlc, hOr, hF, hf7⟩ := hI4
                refine W_seq ?_
                refine W_seq ?_
                refine W_region ?_
                refine wl_val (rn_move (by conv => lhs; whnf)) ?_
                refine wl_val (rn_move (by conv => lhs; whnf)) ?_
                refine wl_val (rn_lss rfl rfl) ?_
                refine wl_nil ?_
                refine W_cond rfl (fun hc7 => ?_) (fun hc7 => ?_)
                · have hab := of_decide_eq_true hc7; simp only [Int.ofNat_lt] at hab
                  obtain ⟨xa, ha⟩ : ∃ x, oc[a]? = some x := ⟨_, List.getElem?_eq_getElem (by omega)⟩
                  obtain ⟨xb, hb⟩ : ∃ x, oc[b]? = some x := ⟨_, List.getElem?_eq_getElem (by omega)⟩
                  refine W_skip ?_
                  refine W_block ?_   -- block 9
                  refine W_seq ?_
                  refine W_drawE mixed ?_; intro w11 hE11
                  replace hX := hX.tr hE11
                  replace hOr := hOr.ext hE11 id
                  replace hF := hF.ext hE11 (fun _ _ h => h)
                  have hS := Ext.refl Non w11
                  refine wd_take 0 _ _ rfl (by kernel_rfl) hS (yd_do fun A hA => rn_move (by conv => lhs; whnf)) ?_
                  refine wd_take 1 _ _ rfl (by kernel_rfl) hS (yd_do fun A hA => rn_move (by conv => lhs; whnf)) ?_
                  refine wd_take 2 _ _ rfl (by kernel_rfl) hS (yd_do fun A hA => rn_indexAddr sl_39 rfl rfl (by omega)) ?_
                  refine wd_take 3 _ _ rfl (by kernel_rfl) hS (yd_do fun A hA => rn_load p_3 rfl (((hOr.sl (M := Non) id).ext hA (fun _ h => h.elim)).at0 (eN_at ha) rfl)) ?_
                  refine wd_take 4 _ _ rfl (by kernel_rfl) hS (yd_do fun A hA => rn_move (by conv => lhs; whnf)) ?_
                  refine wd_take 5 _ _ rfl (by kernel_rfl) hS (yd_do fun A hA => rn_move (by conv => lhs; whnf)) ?_
                  refine wd_take 6 _ _ rfl (by kernel_rfl) hS (yd_do fun A hA => rn_indexAddr sl_39 rfl rfl (by omega)) ?_
                  refine wd_take 7 _ _ rfl (by kernel_rfl) hS (yd_do fun A hA => rn_load p_3 rfl (((hOr.sl (M := Non) id).ext hA (fun _ h => h.elim)).at0 (eN_at hb) rfl)) ?_
                  refine wd_take 8 _ _ rfl (by kernel_rfl) hS (yd_do fun A hA => rn_assign (by conv => lhs; whnf)) ?_
                  refine wd_take 9 _ _ rfl (by kernel_rfl) hS (yd_do fun A hA => rn_assign (by conv => lhs; whnf)) ?_
                  refine wd_done (by kernel_rfl) ?_ _
                  replace hX := hX.tr hS
                  replace hOr := hOr.ext hS id
                  replace hF := hF.ext hS (fun _ _ h => h)
                  refine W_seq ?_
                  refine W_region ?_
                  refine wl_val (rn_move (by conv => lhs; whnf)) ?_
                  refine wl_val (rn_move (by conv => lhs; whnf)) ?_
                  refine wl_val (rn_move (by conv => lhs; whnf)) ?_
                  refine wl_val (rn_move (by conv => lhs; whnf)) ?_
                  refine wl_val (rn_move (by conv => lhs; whnf)) ?_
                  refine wl_val (rn_move (by conv => lhs; whnf)) ?_
                  refine wl_val (rn_indexAddr sl_39 rfl rfl (by omega)) ?_
                  refine wl_storeE (u := .int .i64 (xb : Nat)) (i := a) p_3 rfl rfl rfl rfl hOr (by rw [List.length_map]; omega) ?_; intro w12 hE12 hOr2
                  replace hX := hX.mine hE12 (.inr hyo)
                  replace hF := hF.ext hE12 (fun j hj e => (hf7 j hj).2 e)
                  rw [setN_eN] at hOr2; have hOr := hOr2
                  refine wl_val (rn_indexAddr sl_39 rfl rfl (by omega)) ?_
                  refine wl_storeE (u := .int .i64 (xa : Nat)) (i := b) p_3 rfl rfl rfl rfl hOr (by rw [List.length_map, List.length_set]; omega) ?_; intro w13 hE13 hOr2
                  replace hX := hX.mine hE13 (.inr hyo)
                  replace hF := hF.ext hE13 (fun j hj e => (hf7 j hj).2 e)
                  rw [setN_eN] at hOr2; have hOr := hOr2
                  rw [sw_at ha hb] at hOr
                  refine wl_nil ?_
                  refine W_seq ?_
                  refine W_region ?_
                  refine wl_val (rn_move (by conv => lhs; whnf)) ?_
                  refine wl_val (rn_add rfl rfl (by omega)) ?_
                  refine wl_val (rn_assign (by conv => lhs; whnf)) ?_
                  refine wl_nil ?_
                  refine W_region ?_
                  refine wl_val (rn_move (by conv => lhs; whnf)) ?_
                  refine wl_val (rn_sub rfl rfl (by omega)) ?_
                  refine wl_val (rn_assign (by conv => lhs; whnf)) ?_
                  refine wl_nil ?_
                  
                  exact ⟨rfl, (f - 1, a + 1, b - 1, sw oc a b), ⟨rfl, rfl, rfl, rfl, rfl, rfl, rfl, (congrArg (Value.int .i64) (by omega)), trivial⟩, ⟨hX, ⟨by rw [hrv, show f = (f - 1) + 1 by omega, rv_on hab]; rfl, by omega, by omega, by rw [sw_len]; exact hlc, hOr, hF, hf7⟩⟩, by show b - 1 - (a + 1) < b - a; omega⟩
                · have hab := of_decide_eq_false hc7; simp only [Int.ofNat_lt] at hab
                  have hgx := rv_stop (o := oc) (f := f) hab
                  refine W_exit ?_   -- exit 8
                  refine W_region ?_
                  refine wl_val (rn_move (by conv => lhs; whnf)) ?_
                  refine wl_val (rn_add rfl rfl (by omega)) ?_
                  refine wl_val (rn_assign (by conv => lhs; whnf)) ?_
                  refine wl_nil ?_
                  have hnx : nextP o = some oc := by unfold nextP; rw [hol, hnk2]; simp only []; rw [getD_of hk0, hnj, nj_stop (by rw [getD_of hy]; exact hyx), hrv, hgx]
                  exact ⟨rfl, (st + 1, oc, vis ++ [o], v7, o7), ⟨rfl, rfl, rfl, rfl, rfl, rfl, trivial⟩, ⟨hX, ⟨by omega, hlc, hOr, by simp [hvl], by rw [hchn, show 5041 - st = (5041 - (st + 1)) + 1 by omega, chain_next hnx, List.append_assoc]; rfl, hF, hf7⟩⟩, by show 5041 - (st + 1) < 5041 - st; omega⟩
        · refine wd_take 3 _ _ rfl (by kernel_rfl) hS (yd_no rfl (congrArg Value.bool hg47)) ?_
          refine wd_take 4 _ _ rfl (by kernel_rfl) hS (yd_no rfl (congrArg Value.bool hg47)) ?_
          refine wd_take 5 _ _ rfl (by kernel_rfl) hS (yd_no rfl (congrArg Value.bool hg47)) ?_
          refine wd_take 6 _ _ rfl (by kernel_rfl) hS (yd_no rfl (congrArg Value.bool hg47)) ?_
          refine wd_take 7 _ _ rfl (by kernel_rfl) hS (yd_no rfl (congrArg Value.bool hg47)) ?_
          refine wd_take 8 _ _ rfl (by kernel_rfl) hS (yd_no rfl (congrArg Value.bool hg47)) ?_
          refine wd_take 9 _ _ rfl (by kernel_rfl) hS (yd_no rfl (congrArg Value.bool hg47)) ?_
          refine wd_take 10 _ _ rfl (by kernel_rfl) hS (yd_no rfl (congrArg Value.bool hg47)) ?_
          refine wd_take 11 _ _ rfl (by kernel_rfl) hS (yd_no rfl (congrArg Value.bool hg47)) ?_
          refine wd_take 12 _ _ rfl (by kernel_rfl) hS (yd_no rfl (congrArg Value.bool hg47)) ?_
          refine wd_take 13 _ _ rfl (by kernel_rfl) hS (yd_do fun A hA => rn_pickF (congrArg Value.bool hg47) (by conv => lhs; whnf)) ?_
          refine wd_done (by kernel_rfl) ?_ _
          replace hX := hX.tr hS
          replace hOr := hOr.ext hS id
          replace hF := hF.ext hS (fun _ _ h => h)
          refine W_condF rfl ?_
          refine W_exit ?_   -- exit 4
          refine W_seq ?_
          refine W_seq ?_
          refine W_region ?_
          refine wl_val (rn_move (by conv => lhs; whnf)) ?_
          refine wl_val (rn_lss rfl rfl) ?_
          refine wl_nil ?_
          refine W_cond rfl (fun hc5 => ?_) (fun hc5 => ?_)
          · refine W_seq ?_
            refine W_region ?_
            refine wl_val (rn_move (by conv => lhs; whnf)) ?_
            refine wl_val (rn_move (by conv => lhs; whnf)) ?_
            refine wl_val (rn_assign (by conv => lhs; whnf)) ?_
            refine wl_val (rn_assign (by conv => lhs; whnf)) ?_
            refine wl_nil ?_
            refine W_ret ?_
            have hm0 : m = 0 := by have := of_decide_eq_false hg47; omega
            have hnx : nextP o = none := by unfold nextP; rw [hol, hnk, hm0]; rfl
            have htot : chain 5041 (List.range l.length) = vis ++ [o] := by rw [hchn, show 5041 - st = (5041 - (st + 1)) + 1 by omega, chain_last hnx]
            have hgo : goodV l (vis ++ [o]) = orders l := by rw [← hch, htot]; rfl
            exact ⟨_, resR2 (res1_tmp rfl) (res1_tmp rfl), hX, ⟨_, by rw [← hgo]; rfl, by rw [← hgo]; exact hF.sl (fun _ _ h => h)⟩⟩
          · have h5 := of_decide_eq_false hc5; have h6 := of_decide_eq_false hg47; omega
    · have hst2 : st = 5041 := by have := of_decide_eq_false hc1; omega
      subst hst2
      have htot : chain 5041 (List.range l.length) = vis := by rw [hchn]; simp [chain]
      have hgo : goodV l vis = orders l := by rw [← hch, htot]; rfl
      refine W_exit ?_   -- exit 2
      refine W_seq ?_
      refine W_region ?_
      refine wl_val (rn_move (by conv => lhs; whnf)) ?_
      refine wl_val (rn_move (by conv => lhs; whnf)) ?_
      refine wl_val (rn_assign (by conv => lhs; whnf)) ?_
      refine wl_val (rn_assign (by conv => lhs; whnf)) ?_
      refine wl_nil ?_
      refine W_ret ?_
      exact ⟨_, resR2 (res1_tmp rfl) (res1_tmp rfl), hX, ⟨_, by rw [← hgo]; rfl, by rw [← hgo]; exact hF.sl (fun _ _ h => h)⟩⟩
end Go.Proofs.YthcclgoidchkdaaDoorC
