/- Layer 8: the laws LinOrders and LinNone. -/
import Derived.Test.YthcclgoidchkdaaDoorLin8
import Derived.Test.YthcclgoidchkdaaDoorLinQ
import Derived.Test.YthcclgoidchkdaaDoorCoreQ
set_option linter.unusedVariables false
set_option linter.unusedSimpArgs false
set_option maxRecDepth 100000
namespace Go.Proofs.YthcclgoidchkdaaDoorC
open Go.RowKit
def aw0 : CallD := ⟨0, 0, ⟨1, 1, [], [], false⟩, ⟨0, 2, 0, msg0⟩, 1, 4⟩
def aw1 : CallD := ⟨1, 0, ⟨1, 1, [], [], false⟩, ⟨0, 1, 0, msg0⟩, 2, 3⟩
theorem aw_ord : ordR [aw0, aw1] = [1, 0] := by decide +kernel
theorem aw_is : ordB [aw0, aw1] = true := by decide +kernel
theorem aw_pay : ∀ c ∈ [aw0, aw1], c.op.payload.length ≤ 100 := by intro c hc; simp at hc; rcases hc with rfl | rfl <;> decide
theorem ordR_small {l : List CallD} (h : l.length ≤ 7) : ordR l = (orders l).headD [] := by unfold ordR; rw [if_pos (by omega)]
theorem ordB_small {l : List CallD} (h : l.length ≤ 7) : ordB l = decide ((0 : Int) < ((orders l).length : Nat)) := by
  unfold ordB; rw [decide_eq_true (show l.length ≤ 24 by omega), Bool.true_and]
  cases orders l with
  | nil => rfl
  | cons x t => simp
theorem cntR_small {l : List CallD} (h : l.length ≤ 7) : cntR l = ((orders l).length : Nat) := by unfold cntR; rw [if_neg (by omega)]
theorem ordR_len {l : List CallD} (h : l.length ≤ 7) : (ordR l).length ≤ 1000000 := by
  rw [ordR_small h]
  cases ho : orders l with
  | nil => simp
  | cons x t =>
    have hx := (mem_alls l l.length (none0 l) st0 x).1 (by unfold orders at ho; rw [ho]; simp)
    show x.length ≤ 1000000
    omega
theorem lN_pay (n : Nat) : ∀ c ∈ lN n, c.op.payload.length ≤ 100 := by intro c hc; obtain ⟨i, _, rfl⟩ := List.mem_map.1 hc; simp [callN]
theorem lN_ordB (n : Nat) : ordB (lN n) = decide (n ≤ 24) := by unfold ordB; rw [ordersN, lN_len]; simp
theorem lN_ordR {n : Nat} (h : n ≤ 24) : ordR (lN n) = List.range n := by unfold ordR; rw [ordersN, lN_len, if_pos h]; rfl
theorem lN_ordN {n : Nat} (h : ¬ n ≤ 24) : ordR (lN n) = [] := by unfold ordR; rw [lN_len, if_neg h]
theorem lN_chk (n : Nat) : chkR (lN n) ((List.range n).map fun i : Nat => (i : Int)) = true := by
  rw [chk_one (by simp [lN_len])]
  have := (mem_alls (lN n) (lN n).length (none0 (lN n)) st0 (List.range n)).1 (by have := ordersN n; unfold orders at this; rw [this]; simp)
  exact this.2
theorem lN_cnt (n : Nat) : cntR (lN n) = if 7 < n then -1 else 1 := by unfold cntR; rw [ordersN, lN_len]; rfl
theorem lN_succ (i : Nat) : (lN i).map CallD.enc ++ [(callN i).enc] = (lN (i + 1)).map CallD.enc := by simp [lN, List.range_succ]
-- bellman/bellmanlaw08.awake
set_option maxHeartbeats 1000000 in
theorem awake08_ok (w : World) (hT : Tab w) : Fn Tryd.prog 14 #[] w fun u w' => u = .bool true := by
  have hX := Ext.refl Non w
  refine fn_of_W (args := []) Tryd.func14 rfl (by kernel_rfl) rfl ?_
  refine W_seq ?_
  refine W_region ?_
  refine wl_val (rn_assign (by conv => lhs; whnf)) ?_
  refine wl_nil ?_
  refine W_seq ?_
  refine W_region ?_
  refine wl_call e_17 rfl (machine_ok w) ?_; intro v4 w1 hE1 hR1
  replace hX := hX.tr hE1
  replace hT := hT.non hE1
  subst hR1
  refine wl_val (rn_build' b_29 rfl rfl (cs := aw0.op.enc) rfl) ?_
  refine wl_val (rn_build' b_34 rfl rfl (cs := aw0.ans.enc) rfl) ?_
  refine wl_val (rn_build' b_38 rfl rfl (cs := aw0.enc) rfl) ?_
  refine wl_val (rn_build' b_29 rfl rfl (cs := aw1.op.enc) rfl) ?_
  refine wl_val (rn_build' b_34 rfl rfl (cs := aw1.ans.enc) rfl) ?_
  refine wl_val (rn_build' b_38 rfl rfl (cs := aw1.enc) rfl) ?_
  refine wl_lit sl_25 (rows := [aw0, aw1].map CallD.enc) rfl (by decide) (by decide) rfl rfl (by intro r hr; simp at hr; rcases hr with rfl | rfl <;> rfl) (by intro p hp; simp at hp; rcases hp with rfl | rfl <;> exact ⟨rfl, by decide⟩) rfl ?_; intro v11 w2 b11 hb11 hE2 hO11
  replace hX := hX.tr hE2
  replace hT := hT.non hE2
  refine wl_call e_16 rfl (order_ok w2 [aw0, aw1] (hO11.sl (M := Non) id) aw_pay hT (by decide)) ?_; intro v12 w3 hE3 hR3
  replace hX := hX.tr hE3
  replace hT := hT.non hE3
  obtain ⟨v12, hv12, hS12⟩ := hR3
  rw [aw_is] at hv12; subst hv12
  rw [aw_ord] at hS12
  obtain ⟨a12, c12, hv12, _⟩ := id hS12.len; subst hv12
  have hS12 : Sl Non w3 _ 1 (([1, 0] : List Int).map eI1) := hS12
  refine wl_val (rn_move (by conv => lhs; whnf)) ?_
  refine wl_val (rn_extract rfl rfl) ?_
  refine wl_val (rn_extract rfl rfl) ?_
  refine wl_val (rn_assign (by conv => lhs; whnf)) ?_
  refine wl_val (rn_assign (by conv => lhs; whnf)) ?_
  refine wl_nil ?_
  refine W_seq ?_
  refine W_region ?_
  refine wl_val (rn_move (by conv => lhs; whnf)) ?_
  refine wl_val (rn_move (by conv => lhs; whnf)) ?_
  refine wl_yes rfl rfl ?_
  refine wl_val (rn_move (by conv => lhs; whnf)) ?_
  refine wl_yes rfl rfl ?_
  refine wl_lit sl_39 (rows := [1, 0].map eI1) rfl (by decide) (by decide) rfl rfl (by intro r hr; obtain ⟨x, _, rfl⟩ := List.mem_map.1 hr; rfl) (by intro p hp; simp at hp; rcases hp with rfl | rfl <;> exact ⟨rfl, Nat.le_of_ble_eq_true rfl⟩) rfl ?_; intro v18 w4 b18 hb18 hE4 hO18
  replace hX := hX.tr hE4
  replace hT := hT.non hE4
  replace hS12 := hS12.ext hE4 (fun _ h => h)
  refine wl_yes rfl rfl ?_
  refine wl_call e_22 rfl (ints_ok w4 [1, 0] [1, 0] hS12 (hO18.sl (M := Non) id) (by decide)) ?_; intro v19 w5 hE5 hR5
  replace hX := hX.tr hE5
  replace hT := hT.non hE5
  replace hS12 := hS12.ext hE5 (fun _ h => h)
  subst hR5
  refine wl_val (rn_pickT rfl (by conv => lhs; whnf)) ?_
  refine wl_val (rn_assign (by conv => lhs; whnf)) ?_
  refine wl_nil ?_
  refine W_ret ?_
  exact ⟨_, resR1 (res1_tmp rfl), hX, rfl⟩
-- bellman/bellmanlaw08.LinOrders
set_option maxHeartbeats 4000000 in
theorem linOrders_ok (w : World) (l : List CallD) (o : List Int) {vl vo : Value} (hs : Sl Non w vl 15 (l.map CallD.enc)) (ho : Sl Non w vo 1 (o.map eI1)) (hT : Tab w) : Fn Tryd.prog 4 #[vl, vo] w fun u w' => u = .bool true := by
  obtain ⟨al, cl, rfl, hbl⟩ := hs.len; obtain ⟨ao, co, rfl, hbo⟩ := ho.len
  simp only [List.length_map] at hs ho hbl hbo ⊢
  have hbig2 : big = 9223372036854775807 := rfl
  have hX := Ext.refl Non w
  refine fn_of_W (args := [_, _]) Tryd.func4 rfl (by kernel_rfl) rfl ?_
  refine W_seq ?_
  refine W_region ?_
  refine wl_val (rn_assign (by conv => lhs; whnf)) ?_
  refine wl_nil ?_
  refine W_seq ?_
  refine W_seq ?_
  refine W_region ?_
  refine wl_call e_14 rfl (awake08_ok w hT) ?_; intro v10 w1 hE1 hR1
  replace hX := hX.tr hE1
  replace hT := hT.non hE1
  subst hR1
  refine wl_val (rn_not rfl) ?_
  refine wl_nil ?_
  refine W_cond rfl (fun hc0 => ?_) (fun hc0 => ?_)
  · exact absurd hc0 (by decide)
  · refine W_skip ?_
    refine W_seq ?_
    refine W_seq ?_
    refine W_region ?_
    refine wl_val (rn_move (by conv => lhs; whnf)) ?_
    refine wl_val (rn_len sl_25 rfl) ?_
    refine wl_val (rn_gtr rfl rfl) ?_
    refine wl_val (rn_move (by conv => lhs; whnf)) ?_
    refine wl_split (d := 15) rfl (fun hg15 => ?_) (fun hg15 => ?_)
    · refine wl_no rfl (congrArg Value.bool hg15) ?_
      refine wl_no rfl (congrArg Value.bool hg15) ?_
      refine wl_no rfl (congrArg Value.bool hg15) ?_
      refine wl_val (rn_pickT (congrArg Value.bool hg15) (by conv => lhs; whnf)) ?_
      refine wl_val (rn_move (by conv => lhs; whnf)) ?_
      refine wl_no rfl rfl ?_
      refine wl_no rfl rfl ?_
      refine wl_val (rn_pickT rfl (by conv => lhs; whnf)) ?_
      refine wl_nil ?_
      refine W_condT rfl ?_
      refine W_seq ?_
      refine W_region ?_
      refine wl_val (rn_assign (by conv => lhs; whnf)) ?_
      refine wl_nil ?_
      refine W_ret ?_
      exact ⟨_, resR1 (res1_tmp rfl), hX, rfl⟩
    · have h7 : l.length ≤ 7 := by have := of_decide_eq_false hg15; omega
      refine wl_yes rfl (congrArg Value.bool hg15) ?_
      refine wl_val (rn_move (by conv => lhs; whnf)) ?_
      refine wl_yes rfl (congrArg Value.bool hg15) ?_
      refine wl_val (rn_len sl_39 rfl) ?_
      refine wl_yes rfl (congrArg Value.bool hg15) ?_
      refine wl_val (rn_gtr rfl rfl) ?_
      refine wl_val (rn_pickF (congrArg Value.bool hg15) (by conv => lhs; whnf)) ?_
      refine wl_val (rn_move (by conv => lhs; whnf)) ?_
      refine wl_split (d := 20) rfl (fun hg20 => ?_) (fun hg20 => ?_)
      · refine wl_no rfl (congrArg Value.bool hg20) ?_
        refine wl_no rfl (congrArg Value.bool hg20) ?_
        refine wl_val (rn_pickT (congrArg Value.bool hg20) (by conv => lhs; whnf)) ?_
        refine wl_nil ?_
        refine W_condT rfl ?_
        refine W_seq ?_
        refine W_region ?_
        refine wl_val (rn_assign (by conv => lhs; whnf)) ?_
        refine wl_nil ?_
        refine W_ret ?_
        exact ⟨_, resR1 (res1_tmp rfl), hX, rfl⟩
      · have h20 : o.length ≤ 20 := by have := of_decide_eq_false hg20; omega
        refine wl_yes rfl (congrArg Value.bool hg20) ?_
        refine wl_val (rn_move (by conv => lhs; whnf)) ?_
        refine wl_yes rfl (congrArg Value.bool hg20) ?_
        refine wl_call e_20 rfl (bad_ok w1 l (hs.ext hX (fun _ h => h)) (by omega)) ?_; intro v22 w2 hE2 hR2
        replace hX := hX.tr hE2
        replace hT := hT.non hE2
        obtain ⟨b22, rfl⟩ := hR2
        refine wl_val (rn_pickF (congrArg Value.bool hg20) (by conv => lhs; whnf)) ?_
        refine wl_nil ?_
        refine W_cond rfl (fun hc1 => ?_) (fun hc1 => ?_)
        · refine W_seq ?_
          refine W_region ?_
          refine wl_val (rn_assign (by conv => lhs; whnf)) ?_
          refine wl_nil ?_
          refine W_ret ?_
          exact ⟨_, resR1 (res1_tmp rfl), hX, rfl⟩
        · refine W_skip ?_
          refine W_seq ?_
          refine W_seq ?_
          refine W_region ?_
          refine wl_val (rn_assign (by conv => lhs; whnf)) ?_
          refine wl_nil ?_
          refine W_block ?_   -- block 0
          refine W_loopS (S := Nat) [0, 1, 5] (fun i => [.slice al l.length cl, .slice ao o.length co, .int .i64 (i : Nat)]) (fun i A => (Ext Non w A) ∧ (i ≤ l.length ∧ (∀ c ∈ l.take i, c.op.payload.length ≤ 100) ∧ Tab A)) (fun i => l.length - i) 0 ⟨rfl, rfl, rfl, trivial⟩ ⟨hX, ⟨Nat.zero_le _, by simp, hT⟩⟩ ?_
          rintro τ0 i A0 ⟨hX, hI0⟩
          obtain ⟨hI, hp, hT⟩ := hI0
          refine W_seq ?_
          refine W_seq ?_
          refine W_region ?_
          refine wl_val (rn_move (by conv => lhs; whnf)) ?_
          refine wl_val (rn_move (by conv => lhs; whnf)) ?_
          refine wl_val (rn_len sl_25 rfl) ?_
          refine wl_val (rn_lss rfl rfl) ?_
          refine wl_nil ?_
          refine W_cond rfl (fun hc2 => ?_) (fun hc2 => ?_)
          · have hlt := of_decide_eq_true hc2; simp only [Int.ofNat_lt] at hlt
            obtain ⟨x, hi⟩ : ∃ x, l[i]? = some x := ⟨_, List.getElem?_eq_getElem hlt⟩
            obtain ⟨bbl, ool, eal⟩ := hs.base (by intro e; have := congrArg List.length e; simp only [List.length_map, List.length_nil] at this; omega); subst eal
            refine W_skip ?_
            refine W_seq ?_
            refine W_block ?_   -- block 1
            refine W_seq ?_
            refine W_region ?_
            refine wl_val (rn_move (by conv => lhs; whnf)) ?_
            refine wl_val (rn_move (by conv => lhs; whnf)) ?_
            refine wl_val (rn_indexAddr sl_25 rfl rfl (by omega)) ?_
            refine wl_val (rn_fieldAddr f_38_2 (by decide) rfl) ?_
            refine wl_val (rn_fieldAddr f_29_3 (by decide) rfl) ?_
            refine wl_val (rn_load p_9 rfl ((hs.ext hX (fun _ h => h)).at2 (map_at hi) rfl)) ?_
            refine wl_val (rn_slen us_9 rfl) ?_
            refine wl_val (rn_gtr rfl rfl) ?_
            refine wl_nil ?_
            refine W_cond rfl (fun hc3 => ?_) (fun hc3 => ?_)
            · refine W_seq ?_
              refine W_region ?_
              refine wl_val (rn_assign (by conv => lhs; whnf)) ?_
              refine wl_nil ?_
              refine W_ret ?_
              exact ⟨_, resR1 (res1_tmp rfl), hX, rfl⟩
            · have hpx : x.op.payload.length ≤ 100 := by have := of_decide_eq_false hc3; omega
              refine W_skip ?_
              refine W_region ?_
              refine wl_val (rn_move (by conv => lhs; whnf)) ?_
              refine wl_val (rn_add rfl rfl (by omega)) ?_
              refine wl_val (rn_assign (by conv => lhs; whnf)) ?_
              refine wl_nil ?_
              exact ⟨rfl, i + 1, ⟨rfl, rfl, rfl, trivial⟩, ⟨hX, ⟨hlt, fun c hc => by rw [List.take_add_one, hi] at hc; rcases List.mem_append.1 hc with hc | hc; exact hp c hc; simp at hc; subst hc; exact hpx, hT⟩⟩, by omega⟩
          · have hge := of_decide_eq_false hc2; simp only [Int.ofNat_lt, Nat.not_lt] at hge
            rw [List.take_of_length_le hge] at hp
            refine W_exit ?_   -- exit 0
            refine W_seq ?_
            refine W_region ?_
            refine wl_val (rn_move (by conv => lhs; whnf)) ?_
            refine wl_call e_21 rfl (all8_ok A0 l (hs.ext hX (fun _ h => h)) h7) ?_; intro v40 w3 hE3 hR3
            replace hX := hX.tr hE3
            replace hT := hT.non hE3
            obtain ⟨v40, rfl, hF40⟩ := hR3
            obtain ⟨a40, c40, hv40, _⟩ := id hF40.len; subst hv40
            refine wl_val (rn_move (by conv => lhs; whnf)) ?_
            refine wl_val (rn_extract rfl rfl) ?_
            refine wl_val (rn_extract rfl rfl) ?_
            refine wl_val (rn_assign (by conv => lhs; whnf)) ?_
            refine wl_val (rn_assign (by conv => lhs; whnf)) ?_
            refine wl_nil ?_
            refine W_seq ?_
            refine W_region ?_
            refine wl_call e_17 rfl (machine_ok w3) ?_; intro v44 w4 hE4 hR4
            replace hX := hX.tr hE4
            replace hT := hT.non hE4
            replace hF40 := hF40.ext hE4 (fun _ h => h)
            subst hR4
            refine wl_val (rn_move (by conv => lhs; whnf)) ?_
            refine wl_call e_16 rfl (order_ok w4 l (hs.ext hX (fun _ h => h)) hp hT (by omega)) ?_; intro v46 w5 hE5 hR5
            replace hX := hX.tr hE5
            replace hT := hT.non hE5
            replace hF40 := hF40.ext hE5 (fun _ h => h)
            obtain ⟨v46, rfl, hO46⟩ := hR5
            obtain ⟨a46, c46, hv46, hb46⟩ := id hO46.len; subst hv46
            have hl46 : (ordR l).length ≤ 1000000 := ordR_len h7
            refine wl_val (rn_move (by conv => lhs; whnf)) ?_
            refine wl_val (rn_extract rfl rfl) ?_
            refine wl_val (rn_extract rfl rfl) ?_
            refine wl_val (rn_assign (by conv => lhs; whnf)) ?_
            refine wl_val (rn_assign (by conv => lhs; whnf)) ?_
            refine wl_nil ?_
            refine W_seq ?_
            refine W_region ?_
            refine wl_val (rn_move (by conv => lhs; whnf)) ?_
            refine wl_val (rn_move (by conv => lhs; whnf)) ?_
            refine wl_val (rn_gtr rfl rfl) ?_
            refine wl_val (rn_beql ub_4 rfl rfl) ?_
            refine wl_val (rn_move (by conv => lhs; whnf)) ?_
            refine wl_split (d := 53) rfl (fun hg53 => ?_) (fun hg53 => ?_)
            · refine wl_yes rfl (congrArg Value.bool hg53) ?_
              refine wl_val (rn_move (by conv => lhs; whnf)) ?_
              refine wl_yes rfl (congrArg Value.bool hg53) ?_
              refine wl_val (rn_move (by conv => lhs; whnf)) ?_
              refine wl_yes rfl (congrArg Value.bool hg53) ?_
              refine wl_call e_22 rfl (ints_ok w5 _ _ (by rw [← eN_eI]; exact hO46) (by rw [← eN_eI]; exact hF40) (by rw [List.length_map]; omega)) ?_; intro v56 w6 hE6 hR6
              replace hX := hX.tr hE6
              replace hT := hT.non hE6
              replace hF40 := hF40.ext hE6 (fun _ h => h)
              replace hO46 := hO46.ext hE6 (fun _ h => h)
              subst hR6
              refine wl_val (rn_pickT (congrArg Value.bool hg53) (by conv => lhs; whnf)) ?_
              refine wl_val (rn_move (by conv => lhs; whnf)) ?_
              refine wl_split (d := 58) rfl (fun hg58 => ?_) (fun hg58 => ?_)
              · refine wl_yes rfl (congrArg Value.bool hg58) ?_
                refine wl_call e_17 rfl (machine_ok w6) ?_; intro v59 w7 hE7 hR7
                replace hX := hX.tr hE7
                replace hT := hT.non hE7
                replace hF40 := hF40.ext hE7 (fun _ h => h)
                replace hO46 := hO46.ext hE7 (fun _ h => h)
                subst hR7
                refine wl_yes rfl (congrArg Value.bool hg58) ?_
                refine wl_val (rn_move (by conv => lhs; whnf)) ?_
                refine wl_yes rfl (congrArg Value.bool hg58) ?_
                refine wl_call e_23 rfl (lcount_ok w7 l (hs.ext hX (fun _ h => h)) hp (by omega)) ?_; intro v61 w8 hE8 hR8
                replace hX := hX.tr hE8
                replace hT := hT.non hE8
                replace hF40 := hF40.ext hE8 (fun _ h => h)
                replace hO46 := hO46.ext hE8 (fun _ h => h)
                subst hR8
                refine wl_yes rfl (congrArg Value.bool hg58) ?_
                refine wl_val (rn_move (by conv => lhs; whnf)) ?_
                refine wl_yes rfl (congrArg Value.bool hg58) ?_
                refine wl_val (rn_eql rfl rfl) ?_
                refine wl_val (rn_pickT (congrArg Value.bool hg58) (by conv => lhs; whnf)) ?_
                refine wl_val (rn_move (by conv => lhs; whnf)) ?_
                refine wl_split (d := 65) rfl (fun hg65 => ?_) (fun hg65 => ?_)
                · refine wl_yes rfl (congrArg Value.bool hg65) ?_
                  refine wl_call e_17 rfl (machine_ok w8) ?_; intro v66 w9 hE9 hR9
                  replace hX := hX.tr hE9
                  replace hT := hT.non hE9
                  replace hF40 := hF40.ext hE9 (fun _ h => h)
                  replace hO46 := hO46.ext hE9 (fun _ h => h)
                  subst hR9
                  refine wl_yes rfl (congrArg Value.bool hg65) ?_
                  refine wl_val (rn_move (by conv => lhs; whnf)) ?_
                  refine wl_yes rfl (congrArg Value.bool hg65) ?_
                  refine wl_val (rn_move (by conv => lhs; whnf)) ?_
                  refine wl_yes rfl (congrArg Value.bool hg65) ?_
                  refine wl_call e_19 rfl (check_ok w9 l o (hs.ext hX (fun _ h => h)) (ho.ext hX (fun _ h => h)) (by omega)) ?_; intro v69 w10 hE10 hR10
                  replace hX := hX.tr hE10
                  replace hT := hT.non hE10
                  replace hF40 := hF40.ext hE10 (fun _ h => h)
                  replace hO46 := hO46.ext hE10 (fun _ h => h)
                  subst hR10
                  refine wl_yes rfl (congrArg Value.bool hg65) ?_
                  refine wl_val (rn_move (by conv => lhs; whnf)) ?_
                  refine wl_yes rfl (congrArg Value.bool hg65) ?_
                  refine wl_val (rn_move (by conv => lhs; whnf)) ?_
                  refine wl_yes rfl (congrArg Value.bool hg65) ?_
                  refine wl_call e_18 rfl (rcheck_ok w10 l o (hs.ext hX (fun _ h => h)) (ho.ext hX (fun _ h => h)) (by omega)) ?_; intro v72 w11 hE11 hR11
                  replace hX := hX.tr hE11
                  replace hT := hT.non hE11
                  replace hF40 := hF40.ext hE11 (fun _ h => h)
                  replace hO46 := hO46.ext hE11 (fun _ h => h)
                  subst hR11
                  refine wl_yes rfl (congrArg Value.bool hg65) ?_
                  refine wl_val (rn_beql ub_4 rfl rfl) ?_
                  refine wl_val (rn_pickT (congrArg Value.bool hg65) (by conv => lhs; whnf)) ?_
                  refine wl_val (rn_assign (by conv => lhs; whnf)) ?_
                  refine wl_nil ?_
                  refine W_ret ?_
                  exact ⟨_, resR1 (res1_tmp rfl), hX, congrArg Value.bool (decide_eq_true rfl)⟩
                · exact absurd hg65 (by rw [cntR_small h7]; simp)
              · exact absurd hg58 (by rw [ordR_small h7]; simp)
            · exact absurd hg53 (by rw [ordB_small h7]; simp)
-- bellman/bellmanlaw08.LinNone
set_option maxHeartbeats 4000000 in
theorem linNone_ok (w : World) (n : Nat) (hn : n ≤ 255) (hT : Tab w) : Fn Tryd.prog 5 #[.int .u8 (n : Nat)] w fun u w' => u = .bool true := by
  obtain ⟨m, hm⟩ : ∃ m, m = n % 40 := ⟨_, rfl⟩
  have hm40 : m < 40 := by rw [hm]; exact Nat.mod_lt _ (by decide)
  have hcn := lN_cnt m
  have hT0 := hT
  have hG := hT0.lt (Nat.le_refl w.heap.size)
  have hX := Ext.refl Non w
  refine fn_of_W (args := [_]) Tryd.func5 rfl (by kernel_rfl) rfl ?_
  refine W_seq ?_
  refine W_region ?_
  refine wl_val (rn_assign (by conv => lhs; whnf)) ?_
  refine wl_nil ?_
  refine W_seq ?_
  refine W_seq ?_
  refine W_region ?_
  refine wl_call e_14 rfl (awake08_ok w hT) ?_; intro v11 w1 hE1 hR1
  replace hX := hX.tr hE1
  replace hT := hT.non hE1
  subst hR1
  refine wl_val (rn_not rfl) ?_
  refine wl_nil ?_
  refine W_cond rfl (fun hc0 => ?_) (fun hc0 => ?_)
  · exact absurd hc0 (by decide)
  · refine W_skip ?_
    refine W_seq ?_
    refine W_region ?_
    refine wl_val (rn_assign (by conv => lhs; whnf)) ?_
    refine wl_nil ?_
    refine W_seq ?_
    refine W_seq ?_
    refine W_region ?_
    refine wl_val (rn_assign (by conv => lhs; whnf)) ?_
    refine wl_nil ?_
    refine W_block ?_   -- block 0
    refine W_loopS (S := Nat × Value × Option Nat) [0, 3, 4] (fun ⟨i, v3, o3⟩ => [.int .u8 (n : Nat), v3, .int .i64 (i : Nat)]) (fun ⟨i, v3, o3⟩ A => (Ext Non w A) ∧ (i ≤ m ∧ OwO A v3 o3 15 ((lN i).map CallD.enc) ∧ (∀ j, o3 = some j → w.heap.size ≤ j) ∧ Tab A)) (fun ⟨i, v3, o3⟩ => m - i) (0, .slice none 0 0, none) ⟨rfl, rfl, rfl, trivial⟩ ⟨hX, ⟨Nat.zero_le _, OwO.nil, (fun j h => by cases h), hT⟩⟩ ?_
    rintro τ0 ⟨i, v3, o3⟩ A0 ⟨hX, hI0⟩
    obtain ⟨hI, hO, ho, hT⟩ := hI0
    have hV := Ext.refl Non A0
    refine W_seq ?_
    refine W_seq ?_
    refine W_region ?_
    refine wl_val (rn_move (by conv => lhs; whnf)) ?_
    refine wl_val (rn_move (by conv => lhs; whnf)) ?_
    refine wl_val (Rn.cast (rn_convert ui_5 ui_3 rfl (wrap_id (by omega))) (v' := .int .i64 (n : Nat)) rfl) ?_
    refine wl_val (rn_rem (b := 40) rfl rfl (by decide) (by omega)) ?_
    refine wl_val (rn_lss rfl rfl) ?_
    refine wl_nil ?_
    refine W_cond rfl (fun hc1 => ?_) (fun hc1 => ?_)
    · have hlt := of_decide_eq_true hc1; rw [← hm] at hlt; simp only [Int.ofNat_lt] at hlt
      refine W_skip ?_
      refine W_seq ?_
      refine W_block ?_   -- block 1
      refine W_region ?_
      refine wl_val (rn_move (by conv => lhs; whnf)) ?_
      refine wl_val (rn_move (by conv => lhs; whnf)) ?_
      refine wl_val (rn_build' b_29 rfl rfl (cs := (callN i).op.enc) rfl) ?_
      refine wl_val (rn_move (by conv => lhs; whnf)) ?_
      refine wl_val (rn_mul rfl rfl (by omega)) ?_
      refine wl_val (rn_add rfl rfl (by omega)) ?_
      refine wl_val (rn_move (by conv => lhs; whnf)) ?_
      refine wl_val (rn_mul rfl rfl (by omega)) ?_
      refine wl_val (rn_add rfl rfl (by omega)) ?_
      refine wl_val (rn_build' b_38 rfl rfl (cs := (callN i).enc) rfl) ?_
      refine wl_lit1 (r := (callN i).enc) sl_25 rfl rfl rfl rfl (by decide) ?_; intro v30 w2 b30 hb30 hE2 hO30
      replace hX := hX.tr hE2
      replace hT := hT.non hE2
      replace hV := hV.tr hE2
      replace hO := hO.ext hE2 (fun _ _ h => h)
      have hXo := hX
      refine wl_app sl_25 rfl rfl rfl hO (hO30.sl (M := Non) id) (fun r hr => by simp only [List.mem_singleton] at hr; subst hr; exact CallD.one _) (by simp only [List.length_map, List.length_cons, List.length_nil, lN_len]; omega) (by simp only [List.length_map, List.length_cons, List.length_nil, lN_len, big]; omega) ?_; intro v31 w3 o31 hE3 hO31 hf31
      replace hX := hX.mineO hE3 (fun j hj => .inr (ho j hj)); have ho31 : ∀ j, o31 = some j → w.heap.size ≤ j := fun j hj => by rcases hf31 j hj with h | h; exact ho j h; exact Nat.le_trans hXo.size h
      replace hT := hT.ext hE3 (B := w.heap.size) (fun j hj => ho j hj) hG
      refine wl_val (rn_assign (by conv => lhs; whnf)) ?_
      refine wl_nil ?_
      refine W_region ?_
      refine wl_val (rn_move (by conv => lhs; whnf)) ?_
      refine wl_val (rn_add rfl rfl (by omega)) ?_
      refine wl_val (rn_assign (by conv => lhs; whnf)) ?_
      refine wl_nil ?_
      exact ⟨rfl, (i + 1, v31, o31), ⟨rfl, rfl, rfl, trivial⟩, ⟨hX, ⟨hlt, by rw [← lN_succ]; exact hO31, ho31, hT⟩⟩, by show m - (i + 1) < m - i; omega⟩
    · have hge := of_decide_eq_false hc1; rw [← hm] at hge; simp only [Int.ofNat_lt, Nat.not_lt] at hge
      have hie : i = m := by omega
      rw [hie] at hO
      obtain ⟨a3, c3, hv3⟩ := id hO.len; subst hv3
      simp only [List.length_map, lN_len] at hO ⊢
      have hSl : Sl Non A0 (.slice a3 m c3) 15 ((lN m).map CallD.enc) := hO.sl (fun _ _ h => h)
      refine W_exit ?_   -- exit 0
      refine W_seq ?_
      refine W_region ?_
      refine wl_call e_17 rfl (machine_ok A0) ?_; intro v33 w4 hE4 hR4
      replace hX := hX.tr hE4
      replace hT := hT.non hE4
      replace hV := hV.tr hE4
      replace hO := hO.ext hE4 (fun _ _ h => h)
      subst hR4
      refine wl_val (rn_move (by conv => lhs; whnf)) ?_
      refine wl_call e_16 rfl (order_ok w4 (lN m) (hSl.ext hV (fun _ h => h)) (lN_pay m) hT (by rw [lN_len]; omega)) ?_; intro v35 w5 hE5 hR5
      replace hX := hX.tr hE5
      replace hT := hT.non hE5
      replace hV := hV.tr hE5
      replace hO := hO.ext hE5 (fun _ _ h => h)
      obtain ⟨v35, rfl, hO35⟩ := hR5
      obtain ⟨a35, c35, hv35, hb35⟩ := id hO35.len; subst hv35
      refine wl_val (rn_move (by conv => lhs; whnf)) ?_
      refine wl_val (rn_extract rfl rfl) ?_
      refine wl_val (rn_extract rfl rfl) ?_
      refine wl_val (rn_assign (by conv => lhs; whnf)) ?_
      refine wl_val (rn_assign (by conv => lhs; whnf)) ?_
      refine wl_nil ?_
      refine W_seq ?_
      refine W_seq ?_
      refine W_region ?_
      refine wl_val (rn_move (by conv => lhs; whnf)) ?_
      refine wl_val (rn_move (by conv => lhs; whnf)) ?_
      refine wl_val (rn_len sl_25 rfl) ?_
      refine wl_val (rn_leq rfl rfl) ?_
      refine wl_val (rn_bneq ub_4 rfl rfl) ?_
      refine wl_val (rn_move (by conv => lhs; whnf)) ?_
      refine wl_split (d := 43) rfl (fun hg43 => ?_) (fun hg43 => ?_)
      · exact absurd hg43 (by rw [lN_ordB]; simp; omega)
      · refine wl_yes rfl (congrArg Value.bool hg43) ?_
        refine wl_val (rn_move (by conv => lhs; whnf)) ?_
        refine wl_yes rfl (congrArg Value.bool hg43) ?_
        refine wl_val (rn_move (by conv => lhs; whnf)) ?_
        refine wl_split (d := 45) rfl (fun hg45 => ?_) (fun hg45 => ?_)
        · refine wl_yes rfl (congrArg Value.bool hg45) ?_
          refine wl_val (rn_move (by conv => lhs; whnf)) ?_
          refine wl_yes rfl (congrArg Value.bool hg45) ?_
          refine wl_val (rn_move (by conv => lhs; whnf)) ?_
          refine wl_yes rfl (congrArg Value.bool hg45) ?_
          refine wl_call e_18 rfl (rcheck_ok w5 (lN m) _ (hSl.ext hV (fun _ h => h)) (by rw [← eN_eI]; exact hO35) (by rw [lN_len]; omega)) ?_; intro v48 w6 hE6 hR6
          replace hX := hX.tr hE6
          replace hT := hT.non hE6
          replace hV := hV.tr hE6
          replace hO := hO.ext hE6 (fun _ _ h => h)
          replace hO35 := hO35.ext hE6 (fun _ h => h)
          subst hR6
          refine wl_yes rfl (congrArg Value.bool hg45) ?_
          refine wl_val (rn_not rfl) ?_
          refine wl_yes rfl (congrArg Value.bool hg43) ?_
          refine wl_val (rn_pickT (congrArg Value.bool hg45) (by conv => lhs; whnf)) ?_
          refine wl_val (rn_pickF (congrArg Value.bool hg43) (by conv => lhs; whnf)) ?_
          refine wl_val (rn_move (by conv => lhs; whnf)) ?_
          refine wl_split (d := 52) rfl (fun hg52 => ?_) (fun hg52 => ?_)
          · exact absurd hg52 (by rw [lN_ordR (by simpa [lN_ordB] using hg45), lN_chk]; decide)
          · refine wl_yes rfl (congrArg Value.bool hg52) ?_
            refine wl_val (rn_move (by conv => lhs; whnf)) ?_
            refine wl_yes rfl (congrArg Value.bool hg52) ?_
            refine wl_val (rn_not rfl) ?_
            refine wl_yes rfl (congrArg Value.bool hg52) ?_
            refine wl_val (rn_move (by conv => lhs; whnf)) ?_
            refine wl_split (d := 55) rfl (fun hg55 => ?_) (fun hg55 => ?_)
            · exact absurd hg55 (by rw [hg45]; decide)
            · refine wl_no rfl (congrArg Value.bool hg55) ?_
              refine wl_no rfl (congrArg Value.bool hg55) ?_
              refine wl_no rfl (congrArg Value.bool hg55) ?_
              refine wl_yes rfl (congrArg Value.bool hg52) ?_
              refine wl_val (rn_pickF (congrArg Value.bool hg55) (by conv => lhs; whnf)) ?_
              refine wl_val (rn_pickF (congrArg Value.bool hg52) (by conv => lhs; whnf)) ?_
              refine wl_nil ?_
              refine W_condF rfl ?_
              refine W_skip ?_
              refine W_seq ?_
              refine W_region ?_
              refine wl_val (rn_assign (by conv => lhs; whnf)) ?_
              refine wl_nil ?_
              refine W_seq ?_
              refine W_seq ?_
              refine W_region ?_
              refine wl_val (rn_move (by conv => lhs; whnf)) ?_
              refine wl_val (rn_len sl_25 rfl) ?_
              refine wl_val (rn_gtr rfl rfl) ?_
              refine wl_nil ?_
              refine W_cond rfl (fun hc3 => ?_) (fun hc3 => ?_)
              · have h7 := of_decide_eq_true hc3
                refine W_region ?_
                refine wl_val (rn_assign (by conv => lhs; whnf)) ?_
                refine wl_nil ?_
                refine W_seq ?_
                refine W_region ?_
                refine wl_alloc z_57 ?_; intro b8 w7 hb8 hE7 hB8
                have hq8 : w.heap.size ≤ b8 := Nat.le_trans hX.size hb8
                have hl8 : Mine Non w b8 := .inr hq8
                replace hX := hX.tr hE7
                replace hT := hT.non hE7
                replace hV := hV.tr hE7
                replace hO := hO.ext hE7 (fun _ _ h => h)
                replace hO35 := hO35.ext hE7 (fun _ h => h)
                refine wl_nil ?_
                refine W_seq ?_
                refine W_region ?_
                refine wl_val (rn_loadB s_57 rfl rfl hB8) ?_
                refine wl_val (rn_move (by conv => lhs; whnf)) ?_
                refine wl_call e_24 rfl (order0_ok (vo := .nilFunc) w7) ?_; intro v67 w8 hE8 hR8
                replace hX := hX.tr hE8
                replace hB8 := hB8.ext hE8 id
                replace hT := hT.non hE8
                replace hV := hV.tr hE8
                replace hO := hO.ext hE8 (fun _ _ h => h)
                replace hO35 := hO35.ext hE8 (fun _ h => h)
                subst hR8
                refine wl_val (rn_move (by conv => lhs; whnf)) ?_
                refine wl_val (rn_extract rfl rfl) ?_
                refine wl_val (rn_extract rfl rfl) ?_
                refine wl_val (rn_assign (by conv => lhs; whnf)) ?_
                refine wl_val (rn_assign (by conv => lhs; whnf)) ?_
                refine wl_nil ?_
                refine W_seq ?_
                refine W_region ?_
                refine wl_call e_17 rfl (machine_ok w8) ?_; intro v70 w9 hE9 hR9
                replace hX := hX.tr hE9
                replace hB8 := hB8.ext hE9 id
                replace hT := hT.non hE9
                replace hV := hV.tr hE9
                replace hO := hO.ext hE9 (fun _ _ h => h)
                replace hO35 := hO35.ext hE9 (fun _ h => h)
                subst hR9
                refine wl_val (rn_move (by conv => lhs; whnf)) ?_
                refine wl_call e_23 rfl (lcount_ok w9 (lN m) (hSl.ext hV (fun _ h => h)) (lN_pay m) (by rw [lN_len]; omega)) ?_; intro v72 w10 hE10 hR10
                replace hX := hX.tr hE10
                replace hB8 := hB8.ext hE10 id
                replace hT := hT.non hE10
                replace hV := hV.tr hE10
                replace hO := hO.ext hE10 (fun _ _ h => h)
                replace hO35 := hO35.ext hE10 (fun _ h => h)
                subst hR10
                refine wl_val (rn_move (by conv => lhs; whnf)) ?_
                refine wl_val (rn_eql rfl rfl) ?_
                refine wl_val (rn_move (by conv => lhs; whnf)) ?_
                refine wl_split (d := 75) rfl (fun hg75 => ?_) (fun hg75 => ?_)
                · refine wl_yes rfl (congrArg Value.bool hg75) ?_
                  refine wl_val (rn_move (by conv => lhs; whnf)) ?_
                  refine wl_yes rfl (congrArg Value.bool hg75) ?_
                  refine wl_val (rn_not rfl) ?_
                  refine wl_val (rn_pickT (congrArg Value.bool hg75) (by conv => lhs; whnf)) ?_
                  refine wl_val (rn_move (by conv => lhs; whnf)) ?_
                  refine wl_split (d := 79) rfl (fun hg79 => ?_) (fun hg79 => ?_)
                  · refine wl_yes rfl (congrArg Value.bool hg79) ?_
                    refine wl_val (rn_move (by conv => lhs; whnf)) ?_
                    refine wl_yes rfl (congrArg Value.bool hg79) ?_
                    refine wl_val (rn_len sl_39 rfl) ?_
                    refine wl_yes rfl (congrArg Value.bool hg79) ?_
                    refine wl_val (rn_eql rfl rfl) ?_
                    refine wl_val (rn_pickT (congrArg Value.bool hg79) (by conv => lhs; whnf)) ?_
                    refine wl_val (rn_move (by conv => lhs; whnf)) ?_
                    refine wl_split (d := 84) rfl (fun hg84 => ?_) (fun hg84 => ?_)
                    · refine wl_yes rfl (congrArg Value.bool hg84) ?_
                      refine wl_val (rn_loadB s_57 rfl rfl hB8) ?_
                      refine wl_yes rfl (congrArg Value.bool hg84) ?_
                      refine wl_val (rn_move (by conv => lhs; whnf)) ?_
                      refine wl_yes rfl (congrArg Value.bool hg84) ?_
                      refine wl_call e_25 rfl (check0_ok w10) ?_; intro v87 w11 hE11 hR11
                      replace hX := hX.tr hE11
                      replace hB8 := hB8.ext hE11 id
                      replace hT := hT.non hE11
                      replace hV := hV.tr hE11
                      replace hO := hO.ext hE11 (fun _ _ h => h)
                      replace hO35 := hO35.ext hE11 (fun _ h => h)
                      subst hR11
                      refine wl_yes rfl (congrArg Value.bool hg84) ?_
                      refine wl_val (rn_not rfl) ?_
                      refine wl_val (rn_pickT (congrArg Value.bool hg84) (by conv => lhs; whnf)) ?_
                      refine wl_val (rn_move (by conv => lhs; whnf)) ?_
                      refine wl_split (d := 90) rfl (fun hg90 => ?_) (fun hg90 => ?_)
                      · refine wl_yes rfl (congrArg Value.bool hg90) ?_
                        refine wl_val (rn_loadB s_57 rfl rfl hB8) ?_
                        refine wl_yes rfl (congrArg Value.bool hg90) ?_
                        refine wl_val (rn_move (by conv => lhs; whnf)) ?_
                        refine wl_yes rfl (congrArg Value.bool hg90) ?_
                        refine wl_call e_26 rfl (lcount0_ok (vo := .nilFunc) w11) ?_; intro v93 w12 hE12 hR12
                        replace hX := hX.tr hE12
                        replace hB8 := hB8.ext hE12 id
                        replace hT := hT.non hE12
                        replace hV := hV.tr hE12
                        replace hO := hO.ext hE12 (fun _ _ h => h)
                        replace hO35 := hO35.ext hE12 (fun _ h => h)
                        subst hR12
                        refine wl_yes rfl (congrArg Value.bool hg90) ?_
                        refine wl_val (rn_eql rfl rfl) ?_
                        refine wl_val (rn_pickT (congrArg Value.bool hg90) (by conv => lhs; whnf)) ?_
                        refine wl_val (rn_assign (by conv => lhs; whnf)) ?_
                        refine wl_nil ?_
                        refine W_ret ?_
                        exact ⟨_, resR1 (res1_tmp rfl), hX, congrArg Value.bool (by decide)⟩
                      · exact absurd hg90 (by decide)
                    · exact absurd hg84 (by decide)
                  · exact absurd hg79 (by decide)
                · exact absurd hg75 (by rw [hcn]; first | (rw [if_pos (by omega)]; decide) | (rw [if_neg (by omega)]; decide))
              · have h7 := of_decide_eq_false hc3
                refine W_skip ?_
                refine W_seq ?_
                refine W_region ?_
                refine wl_alloc z_57 ?_; intro b8 w13 hb8 hE13 hB8
                have hq8 : w.heap.size ≤ b8 := Nat.le_trans hX.size hb8
                have hl8 : Mine Non w b8 := .inr hq8
                replace hX := hX.tr hE13
                replace hT := hT.non hE13
                replace hV := hV.tr hE13
                replace hO := hO.ext hE13 (fun _ _ h => h)
                replace hO35 := hO35.ext hE13 (fun _ h => h)
                refine wl_nil ?_
                refine W_seq ?_
                refine W_region ?_
                refine wl_val (rn_loadB s_57 rfl rfl hB8) ?_
                refine wl_val (rn_move (by conv => lhs; whnf)) ?_
                refine wl_call e_24 rfl (order0_ok (vo := .nilFunc) w13) ?_; intro v67 w14 hE14 hR14
                replace hX := hX.tr hE14
                replace hB8 := hB8.ext hE14 id
                replace hT := hT.non hE14
                replace hV := hV.tr hE14
                replace hO := hO.ext hE14 (fun _ _ h => h)
                replace hO35 := hO35.ext hE14 (fun _ h => h)
                subst hR14
                refine wl_val (rn_move (by conv => lhs; whnf)) ?_
                refine wl_val (rn_extract rfl rfl) ?_
                refine wl_val (rn_extract rfl rfl) ?_
                refine wl_val (rn_assign (by conv => lhs; whnf)) ?_
                refine wl_val (rn_assign (by conv => lhs; whnf)) ?_
                refine wl_nil ?_
                refine W_seq ?_
                refine W_region ?_
                refine wl_call e_17 rfl (machine_ok w14) ?_; intro v70 w15 hE15 hR15
                replace hX := hX.tr hE15
                replace hB8 := hB8.ext hE15 id
                replace hT := hT.non hE15
                replace hV := hV.tr hE15
                replace hO := hO.ext hE15 (fun _ _ h => h)
                replace hO35 := hO35.ext hE15 (fun _ h => h)
                subst hR15
                refine wl_val (rn_move (by conv => lhs; whnf)) ?_
                refine wl_call e_23 rfl (lcount_ok w15 (lN m) (hSl.ext hV (fun _ h => h)) (lN_pay m) (by rw [lN_len]; omega)) ?_; intro v72 w16 hE16 hR16
                replace hX := hX.tr hE16
                replace hB8 := hB8.ext hE16 id
                replace hT := hT.non hE16
                replace hV := hV.tr hE16
                replace hO := hO.ext hE16 (fun _ _ h => h)
                replace hO35 := hO35.ext hE16 (fun _ h => h)
                subst hR16
                refine wl_val (rn_move (by conv => lhs; whnf)) ?_
                refine wl_val (rn_eql rfl rfl) ?_
                refine wl_val (rn_move (by conv => lhs; whnf)) ?_
                refine wl_split (d := 75) rfl (fun hg75 => ?_) (fun hg75 => ?_)
                · refine wl_yes rfl (congrArg Value.bool hg75) ?_
                  refine wl_val (rn_move (by conv => lhs; whnf)) ?_
                  refine wl_yes rfl (congrArg Value.bool hg75) ?_
                  refine wl_val (rn_not rfl) ?_
                  refine wl_val (rn_pickT (congrArg Value.bool hg75) (by conv => lhs; whnf)) ?_
                  refine wl_val (rn_move (by conv => lhs; whnf)) ?_
                  refine wl_split (d := 79) rfl (fun hg79 => ?_) (fun hg79 => ?_)
                  · refine wl_yes rfl (congrArg Value.bool hg79) ?_
                    refine wl_val (rn_move (by conv => lhs; whnf)) ?_
                    refine wl_yes rfl (congrArg Value.bool hg79) ?_
                    refine wl_val (rn_len sl_39 rfl) ?_
                    refine wl_yes rfl (congrArg Value.bool hg79) ?_
                    refine wl_val (rn_eql rfl rfl) ?_
                    refine wl_val (rn_pickT (congrArg Value.bool hg79) (by conv => lhs; whnf)) ?_
                    refine wl_val (rn_move (by conv => lhs; whnf)) ?_
                    refine wl_split (d := 84) rfl (fun hg84 => ?_) (fun hg84 => ?_)
                    · refine wl_yes rfl (congrArg Value.bool hg84) ?_
                      refine wl_val (rn_loadB s_57 rfl rfl hB8) ?_
                      refine wl_yes rfl (congrArg Value.bool hg84) ?_
                      refine wl_val (rn_move (by conv => lhs; whnf)) ?_
                      refine wl_yes rfl (congrArg Value.bool hg84) ?_
                      refine wl_call e_25 rfl (check0_ok w16) ?_; intro v87 w17 hE17 hR17
                      replace hX := hX.tr hE17
                      replace hB8 := hB8.ext hE17 id
                      replace hT := hT.non hE17
                      replace hV := hV.tr hE17
                      replace hO := hO.ext hE17 (fun _ _ h => h)
                      replace hO35 := hO35.ext hE17 (fun _ h => h)
                      subst hR17
                      refine wl_yes rfl (congrArg Value.bool hg84) ?_
                      refine wl_val (rn_not rfl) ?_
                      refine wl_val (rn_pickT (congrArg Value.bool hg84) (by conv => lhs; whnf)) ?_
                      refine wl_val (rn_move (by conv => lhs; whnf)) ?_
                      refine wl_split (d := 90) rfl (fun hg90 => ?_) (fun hg90 => ?_)
                      · refine wl_yes rfl (congrArg Value.bool hg90) ?_
                        refine wl_val (rn_loadB s_57 rfl rfl hB8) ?_
                        refine wl_yes rfl (congrArg Value.bool hg90) ?_
                        refine wl_val (rn_move (by conv => lhs; whnf)) ?_
                        refine wl_yes rfl (congrArg Value.bool hg90) ?_
                        refine wl_call e_26 rfl (lcount0_ok (vo := .nilFunc) w17) ?_; intro v93 w18 hE18 hR18
                        replace hX := hX.tr hE18
                        replace hB8 := hB8.ext hE18 id
                        replace hT := hT.non hE18
                        replace hV := hV.tr hE18
                        replace hO := hO.ext hE18 (fun _ _ h => h)
                        replace hO35 := hO35.ext hE18 (fun _ h => h)
                        subst hR18
                        refine wl_yes rfl (congrArg Value.bool hg90) ?_
                        refine wl_val (rn_eql rfl rfl) ?_
                        refine wl_val (rn_pickT (congrArg Value.bool hg90) (by conv => lhs; whnf)) ?_
                        refine wl_val (rn_assign (by conv => lhs; whnf)) ?_
                        refine wl_nil ?_
                        refine W_ret ?_
                        exact ⟨_, resR1 (res1_tmp rfl), hX, congrArg Value.bool (by decide)⟩
                      · exact absurd hg90 (by decide)
                    · exact absurd hg84 (by decide)
                  · exact absurd hg79 (by decide)
                · exact absurd hg75 (by rw [hcn]; first | (rw [if_pos (by omega)]; decide) | (rw [if_neg (by omega)]; decide))
        · refine wl_no rfl (congrArg Value.bool hg45) ?_
          refine wl_no rfl (congrArg Value.bool hg45) ?_
          refine wl_no rfl (congrArg Value.bool hg45) ?_
          refine wl_no rfl (congrArg Value.bool hg45) ?_
          refine wl_yes rfl (congrArg Value.bool hg43) ?_
          refine wl_val (rn_pickF (congrArg Value.bool hg45) (by conv => lhs; whnf)) ?_
          refine wl_val (rn_pickF (congrArg Value.bool hg43) (by conv => lhs; whnf)) ?_
          refine wl_val (rn_move (by conv => lhs; whnf)) ?_
          refine wl_yes rfl rfl ?_
          refine wl_val (rn_move (by conv => lhs; whnf)) ?_
          refine wl_yes rfl rfl ?_
          refine wl_val (rn_not rfl) ?_
          refine wl_yes rfl rfl ?_
          refine wl_val (rn_move (by conv => lhs; whnf)) ?_
          refine wl_split (d := 55) rfl (fun hg55 => ?_) (fun hg55 => ?_)
          · refine wl_yes rfl (congrArg Value.bool hg55) ?_
            refine wl_val (rn_move (by conv => lhs; whnf)) ?_
            refine wl_yes rfl (congrArg Value.bool hg55) ?_
            refine wl_val (rn_len sl_39 rfl) ?_
            refine wl_yes rfl (congrArg Value.bool hg55) ?_
            refine wl_val (rn_neq rfl rfl) ?_
            refine wl_yes rfl rfl ?_
            refine wl_val (rn_pickT (congrArg Value.bool hg55) (by conv => lhs; whnf)) ?_
            refine wl_val (rn_pickF rfl (by conv => lhs; whnf)) ?_
            refine wl_nil ?_
            refine W_cond rfl (fun hc2 => ?_) (fun hc2 => ?_)
            · exact absurd (of_decide_eq_true hc2) (by rw [lN_ordN (by simpa [lN_ordB] using hg45)]; simp)
            · refine W_skip ?_
              refine W_seq ?_
              refine W_region ?_
              refine wl_val (rn_assign (by conv => lhs; whnf)) ?_
              refine wl_nil ?_
              refine W_seq ?_
              refine W_seq ?_
              refine W_region ?_
              refine wl_val (rn_move (by conv => lhs; whnf)) ?_
              refine wl_val (rn_len sl_25 rfl) ?_
              refine wl_val (rn_gtr rfl rfl) ?_
              refine wl_nil ?_
              refine W_cond rfl (fun hc3 => ?_) (fun hc3 => ?_)
              · have h7 := of_decide_eq_true hc3
                refine W_region ?_
                refine wl_val (rn_assign (by conv => lhs; whnf)) ?_
                refine wl_nil ?_
                refine W_seq ?_
                refine W_region ?_
                refine wl_alloc z_57 ?_; intro b8 w19 hb8 hE19 hB8
                have hq8 : w.heap.size ≤ b8 := Nat.le_trans hX.size hb8
                have hl8 : Mine Non w b8 := .inr hq8
                replace hX := hX.tr hE19
                replace hT := hT.non hE19
                replace hV := hV.tr hE19
                replace hO := hO.ext hE19 (fun _ _ h => h)
                replace hO35 := hO35.ext hE19 (fun _ h => h)
                refine wl_nil ?_
                refine W_seq ?_
                refine W_region ?_
                refine wl_val (rn_loadB s_57 rfl rfl hB8) ?_
                refine wl_val (rn_move (by conv => lhs; whnf)) ?_
                refine wl_call e_24 rfl (order0_ok (vo := .nilFunc) w19) ?_; intro v67 w20 hE20 hR20
                replace hX := hX.tr hE20
                replace hB8 := hB8.ext hE20 id
                replace hT := hT.non hE20
                replace hV := hV.tr hE20
                replace hO := hO.ext hE20 (fun _ _ h => h)
                replace hO35 := hO35.ext hE20 (fun _ h => h)
                subst hR20
                refine wl_val (rn_move (by conv => lhs; whnf)) ?_
                refine wl_val (rn_extract rfl rfl) ?_
                refine wl_val (rn_extract rfl rfl) ?_
                refine wl_val (rn_assign (by conv => lhs; whnf)) ?_
                refine wl_val (rn_assign (by conv => lhs; whnf)) ?_
                refine wl_nil ?_
                refine W_seq ?_
                refine W_region ?_
                refine wl_call e_17 rfl (machine_ok w20) ?_; intro v70 w21 hE21 hR21
                replace hX := hX.tr hE21
                replace hB8 := hB8.ext hE21 id
                replace hT := hT.non hE21
                replace hV := hV.tr hE21
                replace hO := hO.ext hE21 (fun _ _ h => h)
                replace hO35 := hO35.ext hE21 (fun _ h => h)
                subst hR21
                refine wl_val (rn_move (by conv => lhs; whnf)) ?_
                refine wl_call e_23 rfl (lcount_ok w21 (lN m) (hSl.ext hV (fun _ h => h)) (lN_pay m) (by rw [lN_len]; omega)) ?_; intro v72 w22 hE22 hR22
                replace hX := hX.tr hE22
                replace hB8 := hB8.ext hE22 id
                replace hT := hT.non hE22
                replace hV := hV.tr hE22
                replace hO := hO.ext hE22 (fun _ _ h => h)
                replace hO35 := hO35.ext hE22 (fun _ h => h)
                subst hR22
                refine wl_val (rn_move (by conv => lhs; whnf)) ?_
                refine wl_val (rn_eql rfl rfl) ?_
                refine wl_val (rn_move (by conv => lhs; whnf)) ?_
                refine wl_split (d := 75) rfl (fun hg75 => ?_) (fun hg75 => ?_)
                · refine wl_yes rfl (congrArg Value.bool hg75) ?_
                  refine wl_val (rn_move (by conv => lhs; whnf)) ?_
                  refine wl_yes rfl (congrArg Value.bool hg75) ?_
                  refine wl_val (rn_not rfl) ?_
                  refine wl_val (rn_pickT (congrArg Value.bool hg75) (by conv => lhs; whnf)) ?_
                  refine wl_val (rn_move (by conv => lhs; whnf)) ?_
                  refine wl_split (d := 79) rfl (fun hg79 => ?_) (fun hg79 => ?_)
                  · refine wl_yes rfl (congrArg Value.bool hg79) ?_
                    refine wl_val (rn_move (by conv => lhs; whnf)) ?_
                    refine wl_yes rfl (congrArg Value.bool hg79) ?_
                    refine wl_val (rn_len sl_39 rfl) ?_
                    refine wl_yes rfl (congrArg Value.bool hg79) ?_
                    refine wl_val (rn_eql rfl rfl) ?_
                    refine wl_val (rn_pickT (congrArg Value.bool hg79) (by conv => lhs; whnf)) ?_
                    refine wl_val (rn_move (by conv => lhs; whnf)) ?_
                    refine wl_split (d := 84) rfl (fun hg84 => ?_) (fun hg84 => ?_)
                    · refine wl_yes rfl (congrArg Value.bool hg84) ?_
                      refine wl_val (rn_loadB s_57 rfl rfl hB8) ?_
                      refine wl_yes rfl (congrArg Value.bool hg84) ?_
                      refine wl_val (rn_move (by conv => lhs; whnf)) ?_
                      refine wl_yes rfl (congrArg Value.bool hg84) ?_
                      refine wl_call e_25 rfl (check0_ok w22) ?_; intro v87 w23 hE23 hR23
                      replace hX := hX.tr hE23
                      replace hB8 := hB8.ext hE23 id
                      replace hT := hT.non hE23
                      replace hV := hV.tr hE23
                      replace hO := hO.ext hE23 (fun _ _ h => h)
                      replace hO35 := hO35.ext hE23 (fun _ h => h)
                      subst hR23
                      refine wl_yes rfl (congrArg Value.bool hg84) ?_
                      refine wl_val (rn_not rfl) ?_
                      refine wl_val (rn_pickT (congrArg Value.bool hg84) (by conv => lhs; whnf)) ?_
                      refine wl_val (rn_move (by conv => lhs; whnf)) ?_
                      refine wl_split (d := 90) rfl (fun hg90 => ?_) (fun hg90 => ?_)
                      · refine wl_yes rfl (congrArg Value.bool hg90) ?_
                        refine wl_val (rn_loadB s_57 rfl rfl hB8) ?_
                        refine wl_yes rfl (congrArg Value.bool hg90) ?_
                        refine wl_val (rn_move (by conv => lhs; whnf)) ?_
                        refine wl_yes rfl (congrArg Value.bool hg90) ?_
                        refine wl_call e_26 rfl (lcount0_ok (vo := .nilFunc) w23) ?_; intro v93 w24 hE24 hR24
                        replace hX := hX.tr hE24
                        replace hB8 := hB8.ext hE24 id
                        replace hT := hT.non hE24
                        replace hV := hV.tr hE24
                        replace hO := hO.ext hE24 (fun _ _ h => h)
                        replace hO35 := hO35.ext hE24 (fun _ h => h)
                        subst hR24
                        refine wl_yes rfl (congrArg Value.bool hg90) ?_
                        refine wl_val (rn_eql rfl rfl) ?_
                        refine wl_val (rn_pickT (congrArg Value.bool hg90) (by conv => lhs; whnf)) ?_
                        refine wl_val (rn_assign (by conv => lhs; whnf)) ?_
                        refine wl_nil ?_
                        refine W_ret ?_
                        exact ⟨_, resR1 (res1_tmp rfl), hX, congrArg Value.bool (by decide)⟩
                      · exact absurd hg90 (by decide)
                    · exact absurd hg84 (by decide)
                  · exact absurd hg79 (by decide)
                · exact absurd hg75 (by rw [hcn]; first | (rw [if_pos (by omega)]; decide) | (rw [if_neg (by omega)]; decide))
              · have h7 := of_decide_eq_false hc3
                refine W_skip ?_
                refine W_seq ?_
                refine W_region ?_
                refine wl_alloc z_57 ?_; intro b8 w25 hb8 hE25 hB8
                have hq8 : w.heap.size ≤ b8 := Nat.le_trans hX.size hb8
                have hl8 : Mine Non w b8 := .inr hq8
                replace hX := hX.tr hE25
                replace hT := hT.non hE25
                replace hV := hV.tr hE25
                replace hO := hO.ext hE25 (fun _ _ h => h)
                replace hO35 := hO35.ext hE25 (fun _ h => h)
                refine wl_nil ?_
                refine W_seq ?_
                refine W_region ?_
                refine wl_val (rn_loadB s_57 rfl rfl hB8) ?_
                refine wl_val (rn_move (by conv => lhs; whnf)) ?_
                refine wl_call e_24 rfl (order0_ok (vo := .nilFunc) w25) ?_; intro v67 w26 hE26 hR26
                replace hX := hX.tr hE26
                replace hB8 := hB8.ext hE26 id
                replace hT := hT.non hE26
                replace hV := hV.tr hE26
                replace hO := hO.ext hE26 (fun _ _ h => h)
                replace hO35 := hO35.ext hE26 (fun _ h => h)
                subst hR26
                refine wl_val (rn_move (by conv => lhs; whnf)) ?_
                refine wl_val (rn_extract rfl rfl) ?_
                refine wl_val (rn_extract rfl rfl) ?_
                refine wl_val (rn_assign (by conv => lhs; whnf)) ?_
                refine wl_val (rn_assign (by conv => lhs; whnf)) ?_
                refine wl_nil ?_
                refine W_seq ?_
                refine W_region ?_
                refine wl_call e_17 rfl (machine_ok w26) ?_; intro v70 w27 hE27 hR27
                replace hX := hX.tr hE27
                replace hB8 := hB8.ext hE27 id
                replace hT := hT.non hE27
                replace hV := hV.tr hE27
                replace hO := hO.ext hE27 (fun _ _ h => h)
                replace hO35 := hO35.ext hE27 (fun _ h => h)
                subst hR27
                refine wl_val (rn_move (by conv => lhs; whnf)) ?_
                refine wl_call e_23 rfl (lcount_ok w27 (lN m) (hSl.ext hV (fun _ h => h)) (lN_pay m) (by rw [lN_len]; omega)) ?_; intro v72 w28 hE28 hR28
                replace hX := hX.tr hE28
                replace hB8 := hB8.ext hE28 id
                replace hT := hT.non hE28
                replace hV := hV.tr hE28
                replace hO := hO.ext hE28 (fun _ _ h => h)
                replace hO35 := hO35.ext hE28 (fun _ h => h)
                subst hR28
                refine wl_val (rn_move (by conv => lhs; whnf)) ?_
                refine wl_val (rn_eql rfl rfl) ?_
                refine wl_val (rn_move (by conv => lhs; whnf)) ?_
                refine wl_split (d := 75) rfl (fun hg75 => ?_) (fun hg75 => ?_)
                · refine wl_yes rfl (congrArg Value.bool hg75) ?_
                  refine wl_val (rn_move (by conv => lhs; whnf)) ?_
                  refine wl_yes rfl (congrArg Value.bool hg75) ?_
                  refine wl_val (rn_not rfl) ?_
                  refine wl_val (rn_pickT (congrArg Value.bool hg75) (by conv => lhs; whnf)) ?_
                  refine wl_val (rn_move (by conv => lhs; whnf)) ?_
                  refine wl_split (d := 79) rfl (fun hg79 => ?_) (fun hg79 => ?_)
                  · refine wl_yes rfl (congrArg Value.bool hg79) ?_
                    refine wl_val (rn_move (by conv => lhs; whnf)) ?_
                    refine wl_yes rfl (congrArg Value.bool hg79) ?_
                    refine wl_val (rn_len sl_39 rfl) ?_
                    refine wl_yes rfl (congrArg Value.bool hg79) ?_
                    refine wl_val (rn_eql rfl rfl) ?_
                    refine wl_val (rn_pickT (congrArg Value.bool hg79) (by conv => lhs; whnf)) ?_
                    refine wl_val (rn_move (by conv => lhs; whnf)) ?_
                    refine wl_split (d := 84) rfl (fun hg84 => ?_) (fun hg84 => ?_)
                    · refine wl_yes rfl (congrArg Value.bool hg84) ?_
                      refine wl_val (rn_loadB s_57 rfl rfl hB8) ?_
                      refine wl_yes rfl (congrArg Value.bool hg84) ?_
                      refine wl_val (rn_move (by conv => lhs; whnf)) ?_
                      refine wl_yes rfl (congrArg Value.bool hg84) ?_
                      refine wl_call e_25 rfl (check0_ok w28) ?_; intro v87 w29 hE29 hR29
                      replace hX := hX.tr hE29
                      replace hB8 := hB8.ext hE29 id
                      replace hT := hT.non hE29
                      replace hV := hV.tr hE29
                      replace hO := hO.ext hE29 (fun _ _ h => h)
                      replace hO35 := hO35.ext hE29 (fun _ h => h)
                      subst hR29
                      refine wl_yes rfl (congrArg Value.bool hg84) ?_
                      refine wl_val (rn_not rfl) ?_
                      refine wl_val (rn_pickT (congrArg Value.bool hg84) (by conv => lhs; whnf)) ?_
                      refine wl_val (rn_move (by conv => lhs; whnf)) ?_
                      refine wl_split (d := 90) rfl (fun hg90 => ?_) (fun hg90 => ?_)
                      · refine wl_yes rfl (congrArg Value.bool hg90) ?_
                        refine wl_val (rn_loadB s_57 rfl rfl hB8) ?_
                        refine wl_yes rfl (congrArg Value.bool hg90) ?_
                        refine wl_val (rn_move (by conv => lhs; whnf)) ?_
                        refine wl_yes rfl (congrArg Value.bool hg90) ?_
                        refine wl_call e_26 rfl (lcount0_ok (vo := .nilFunc) w29) ?_; intro v93 w30 hE30 hR30
                        replace hX := hX.tr hE30
                        replace hB8 := hB8.ext hE30 id
                        replace hT := hT.non hE30
                        replace hV := hV.tr hE30
                        replace hO := hO.ext hE30 (fun _ _ h => h)
                        replace hO35 := hO35.ext hE30 (fun _ h => h)
                        subst hR30
                        refine wl_yes rfl (congrArg Value.bool hg90) ?_
                        refine wl_val (rn_eql rfl rfl) ?_
                        refine wl_val (rn_pickT (congrArg Value.bool hg90) (by conv => lhs; whnf)) ?_
                        refine wl_val (rn_assign (by conv => lhs; whnf)) ?_
                        refine wl_nil ?_
                        refine W_ret ?_
                        exact ⟨_, resR1 (res1_tmp rfl), hX, congrArg Value.bool (by decide)⟩
                      · exact absurd hg90 (by decide)
                    · exact absurd hg84 (by decide)
                  · exact absurd hg79 (by decide)
                · exact absurd hg75 (by rw [hcn]; first | (rw [if_pos (by omega)]; decide) | (rw [if_neg (by omega)]; decide))
          · exact absurd hg55 (by rw [hg45]; decide)
end Go.Proofs.YthcclgoidchkdaaDoorC
