/- Messages compared; the example of layer 15. -/
import Derived.Test.YthcclgoidchkdaaDoorKeep2
import Derived.Test.YthcclgoidchkdaaDoorEnc
set_option linter.unusedVariables false
set_option linter.unusedSimpArgs false
set_option maxRecDepth 100000
namespace Go.Proofs.YthcclgoidchkdaaDoorC
open Go.RowKit
def toMsg (q : Str × (Str × Int)) : MsgD := ⟨q.1, q.2.1, true⟩
theorem toMsg_map (L : List (Str × (Str × Int))) : L.map eM1 = (L.map toMsg).map MsgD.enc := by rw [List.map_map]; rfl
theorem MapR.nil {κ : Type} (M : Nat → Prop) (w : World) (ek : κ → List Value) (k : Nat) : MapR M w ek k (.slice none 0 0) (.slice none 0 0) [] [] := ⟨Sl.nil _ _ _, Sl.nil _ _ _, rfl⟩
-- bellman/bellmanref15.Msgs
theorem rmsgs_ok (w : World) (l m : List MsgD) {v x : Value} (hs : Sl Non w v 3 (l.map MsgD.enc)) (hx : Sl Non w x 3 (m.map MsgD.enc)) (hn : l.length ≤ 1000000) : Fn Tryd.prog 40 #[v, x] w fun u w' => u = .bool (decide (l = m)) := by
  obtain ⟨a, c, rfl, _⟩ := hs.len
  obtain ⟨a2, c2, rfl, _⟩ := hx.len
  simp only [List.length_map] at hs hx ⊢
  have hX := Ext.refl Non w
  refine fn_of_W (args := [_, _]) Tryd.func40 rfl (by kernel_rfl) rfl ?_
  refine W_seq ?_
  refine W_region ?_
  refine wl_val (rn_assign (by conv => lhs; whnf)) ?_
  refine wl_nil ?_
  refine W_seq ?_
  refine W_seq ?_
  refine W_region ?_
  refine wl_val (rn_move (by conv => lhs; whnf)) ?_
  refine wl_val (rn_len sl_81 rfl) ?_
  refine wl_val (rn_move (by conv => lhs; whnf)) ?_
  refine wl_val (rn_len sl_81 rfl) ?_
  refine wl_val (rn_neq rfl rfl) ?_
  refine wl_nil ?_
  refine W_cond rfl (fun hc0 => ?_) (fun hc0 => ?_)
  · refine W_seq ?_
    refine W_region ?_
    refine wl_val (rn_assign (by conv => lhs; whnf)) ?_
    refine wl_nil ?_
    refine W_ret ?_
    have hnl : ¬ l = m := fun e => by have := of_decide_eq_true hc0; simp only [ne_eq, Int.natCast_inj] at this; exact this (by rw [e])
    exact ⟨_, resR1 (res1_tmp rfl), hX, by rw [decide_eq_false hnl]; rfl⟩
  · have hln : l.length = m.length := by have := of_decide_eq_false hc0; simp only [ne_eq, Int.natCast_inj, Classical.not_not] at this; exact this
    refine W_skip ?_
    refine W_seq ?_
    refine W_seq ?_
    refine W_region ?_
    refine wl_val (rn_assign (by conv => lhs; whnf)) ?_
    refine wl_nil ?_
    refine W_block ?_   -- block 0
    refine W_loopS (S := Nat) [0, 1, 5] (fun i => [.slice a l.length c, .slice a2 m.length c2, .int .i64 (i : Nat)]) (fun i A => (Ext Non w A) ∧ (i ≤ l.length ∧ l.take i = m.take i)) (fun i => l.length - i) 0 ⟨rfl, rfl, rfl, trivial⟩ ⟨hX, ⟨Nat.zero_le _, by simp⟩⟩ ?_
    rintro τ0 i A0 ⟨hX, hI0⟩
    obtain ⟨hil, htk⟩ := hI0
    refine W_seq ?_
    refine W_seq ?_
    refine W_region ?_
    refine wl_val (rn_move (by conv => lhs; whnf)) ?_
    refine wl_val (rn_move (by conv => lhs; whnf)) ?_
    refine wl_val (rn_len sl_81 rfl) ?_
    refine wl_val (rn_lss rfl rfl) ?_
    refine wl_nil ?_
    refine W_cond rfl (fun hc1 => ?_) (fun hc1 => ?_)
    · have hlt := of_decide_eq_true hc1; simp only [Int.ofNat_lt] at hlt
      obtain ⟨x, hi⟩ : ∃ x, (l)[i]? = some x := ⟨_, List.getElem?_eq_getElem hlt⟩
      obtain ⟨bb, oo, ea⟩ := hs.base (by intro e; have := congrArg List.length e; simp only [List.length_map, List.length_nil] at this; omega); subst ea
      obtain ⟨y, hj⟩ : ∃ y, m[i]? = some y := ⟨_, List.getElem?_eq_getElem (by omega)⟩
      obtain ⟨bb2, oo2, ea2⟩ := hx.base (by intro e; have := congrArg List.length e; simp only [List.length_map, List.length_nil] at this; omega); subst ea2
      refine W_skip ?_
      refine W_seq ?_
      refine W_block ?_   -- block 1
      refine W_seq ?_
      refine W_drawE mixed ?_; intro w1 hE1
      replace hX := hX.tr hE1
      have hS := Ext.refl Non w1
      refine wd_take 0 _ _ rfl (by kernel_rfl) hS (yd_do fun A hA => rn_move (by conv => lhs; whnf)) ?_
      refine wd_take 1 _ _ rfl (by kernel_rfl) hS (yd_do fun A hA => rn_move (by conv => lhs; whnf)) ?_
      refine wd_take 2 _ _ rfl (by kernel_rfl) hS (yd_do fun A hA => rn_indexAddr sl_81 rfl rfl (by omega)) ?_
      refine wd_take 3 _ _ rfl (by kernel_rfl) hS (yd_do fun A hA => rn_loadS s_32 rfl rfl (((hs.ext hX (fun _ h => h)).ext hA (fun _ h => h.elim)).all0 (map_at hi))) ?_
      refine wd_take 4 _ _ rfl (by kernel_rfl) hS (yd_do fun A hA => rn_move (by conv => lhs; whnf)) ?_
      refine wd_take 5 _ _ rfl (by kernel_rfl) hS (yd_do fun A hA => rn_move (by conv => lhs; whnf)) ?_
      refine wd_take 6 _ _ rfl (by kernel_rfl) hS (yd_do fun A hA => rn_indexAddr sl_81 rfl rfl (by omega)) ?_
      refine wd_take 7 _ _ rfl (by kernel_rfl) hS (yd_do fun A hA => rn_loadS s_32 rfl rfl (((hx.ext hX (fun _ h => h)).ext hA (fun _ h => h.elim)).all0 (map_at hj))) ?_
      refine wd_take 8 _ _ rfl (by kernel_rfl) hS (yd_do fun A hA => rn_neqS rfl rfl eg_32 (by decide) (msg_eqs x y)) ?_
      refine wd_done (by kernel_rfl) ?_ _
      replace hX := hX.tr hS
      refine W_cond rfl (fun hc2 => ?_) (fun hc2 => ?_)
      · refine W_seq ?_
        refine W_region ?_
        refine wl_val (rn_assign (by conv => lhs; whnf)) ?_
        refine wl_nil ?_
        refine W_ret ?_
        have hnl : ¬ l = m := fun e => by have h1 : ¬ x = y := (by simpa using hc2); rw [e, hj] at hi; cases hi; exact h1 rfl
        exact ⟨_, resR1 (res1_tmp rfl), hX, by rw [decide_eq_false hnl]; rfl⟩
      · refine W_skip ?_
        refine W_region ?_
        refine wl_val (rn_move (by conv => lhs; whnf)) ?_
        refine wl_val (rn_add rfl rfl (by omega)) ?_
        refine wl_val (rn_assign (by conv => lhs; whnf)) ?_
        refine wl_nil ?_
        have hxy : x = y := by simpa using hc2
        exact ⟨rfl, i + 1, ⟨rfl, rfl, rfl, trivial⟩, ⟨hX, ⟨hlt, by rw [List.take_add_one, List.take_add_one, htk, hi, hj, hxy]⟩⟩, by omega⟩
    · have hge := of_decide_eq_false hc1; simp only [Int.ofNat_lt, Nat.not_lt] at hge
      have hlm : l = m := by have h1 : l.take i = l := List.take_of_length_le hge; have h2 : m.take i = m := List.take_of_length_le (by omega); rw [← h1, ← h2, htk]
      refine W_exit ?_   -- exit 0
      refine W_seq ?_
      refine W_region ?_
      refine wl_val (rn_assign (by conv => lhs; whnf)) ?_
      refine wl_nil ?_
      refine W_ret ?_
      exact ⟨_, resR1 (res1_tmp rfl), hX, by rw [decide_eq_true hlm]; rfl⟩
-- bellman/bellmanlaw15.awake
set_option maxHeartbeats 1000000 in
theorem awake15_ok (w : World)  : Fn Tryd.prog 31 #[] w fun u w' => u = .bool true := by
  have e8 : kErr [98] [120] = 0 := by decide
  have e13 : kErr [97] [121] = 0 := by decide
  have kk8 : kK [] [98] [120] = [[98]] := by decide
  have kk13 : kK [[98]] [97] [121] = [[97], [98]] := by decide
  have yy8 : kY [] [] 0 [98] [120] = [([120], 1)] := by decide
  have yy13 : kY [[98]] [([120], 1)] 1 [97] [121] = [([121], 2), ([120], 1)] := by decide
  have hf : ((([[97], [98]] : List Str).zip ([([121], 2), ([120], 1)] : List (Str × Int))).filter fun q => matchB [35] q.1) = [([97], ([121], 2)), ([98], ([120], 1))] := by decide
  have hX := Ext.refl Non w
  refine fn_of_W (args := []) Tryd.func31 rfl (by kernel_rfl) rfl ?_
  refine W_seq ?_
  refine W_region ?_
  refine wl_val (rn_assign (by conv => lhs; whnf)) ?_
  refine wl_nil ?_
  refine W_seq ?_
  refine W_region ?_
  refine wl_val (rn_build' b_74 rfl rfl (cs := _) rfl) ?_
  refine wl_call e_33 rfl (kput_ok w [] [] 0 Non (fun _ h => h.elim) (MapR.nil _ _ _ _) List.Pairwise.nil (by decide) [98] [120] (by decide) (by decide) (by decide)) ?_; intro v8 w1 hE1 hR1
  replace hX := hX.tr hE1
  obtain ⟨x8, y8, hu8, hm8⟩ := hR1
  rw [if_pos e8, e8] at hu8; rw [if_pos e8, if_pos e8, kk8, yy8] at hm8; subst hu8
  obtain ⟨ea8, la8, ca8, rfl⟩ := id hm8.keys.shape; obtain ⟨eb8, lb8, cb8, rfl⟩ := id hm8.vals.shape
  obtain ⟨w8, hw8⟩ : ∃ x, x = w1 := ⟨_, rfl⟩
  rw [← hw8] at hm8
  have hV8 : Ext Non w8 w1 := by rw [hw8]; exact Ext.refl _ _
  refine wl_val (rn_move (by conv => lhs; whnf)) ?_
  refine wl_val (rn_extract rfl rfl) ?_
  refine wl_val (rn_extract rfl rfl) ?_
  refine wl_alloc z_74 ?_; intro b1 w2 hb1 hE2 hB1
  have hq1 : w.heap.size ≤ b1 := Nat.le_trans hX.size hb1
  have hl1 : Mine Non w b1 := .inr hq1
  replace hX := hX.tr hE2
  replace hV8 := hV8.tr hE2
  have hz81 : w8.heap.size ≤ b1 := by rw [hw8]; exact hb1
  have hBo := hB1
  refine wl_storeB s_74 rfl rfl rfl (three1 rfl rfl rfl) hB1 rfl ?_; intro w3 hE3 hB1 hz3
  replace hX := hX.mine hE3 hl1
  replace hV8 := hV8.mine hE3 (.inr hz81)
  refine wl_val (rn_assign (by conv => lhs; whnf)) ?_
  refine wl_nil ?_
  refine W_seq ?_
  refine W_region ?_
  refine wl_val (rn_loadB s_74 rfl rfl hB1) ?_
  refine wl_call e_33 rfl (kput_ok w3 [[98]] [([120], 1)] 1 (fun i => i = b1) (fun i e => by rw [e]; exact hB1.lt) ((hm8.sub (M' := fun i => i = b1) (fun i e h => by omega)).ext hV8 (fun _ h => h.elim)) (by simp [Sorted]) (by decide) [97] [121] (by decide) (by decide) (by decide)) ?_; intro v13 w4 hE4 hR4
  replace hX := hX.tr hE4
  replace hB1 := hB1.ext hE4 id
  replace hV8 := hV8.tr hE4
  obtain ⟨x13, y13, hu13, hm13⟩ := hR4
  rw [if_pos e13, e13] at hu13; rw [if_pos e13, if_pos e13, kk13, yy13] at hm13; subst hu13
  obtain ⟨ea13, la13, ca13, rfl⟩ := id hm13.keys.shape; obtain ⟨eb13, lb13, cb13, rfl⟩ := id hm13.vals.shape
  obtain ⟨w13, hw13⟩ : ∃ x, x = w4 := ⟨_, rfl⟩
  rw [← hw13] at hm13
  have hV13 : Ext Non w13 w4 := by rw [hw13]; exact Ext.refl _ _
  replace hV13 := hV13.of_non (M := fun i => i = b1)
  refine wl_val (rn_move (by conv => lhs; whnf)) ?_
  refine wl_val (rn_extract rfl rfl) ?_
  refine wl_val (rn_extract rfl rfl) ?_
  have hBo := hB1
  refine wl_storeB s_74 rfl rfl rfl (three1 rfl rfl rfl) hB1 rfl ?_; intro w5 hE5 hB1 hz5
  replace hX := hX.mine hE5 hl1
  replace hV13 := hV13.mine hE5 (.inl rfl)
  refine wl_val (rn_assign (by conv => lhs; whnf)) ?_
  refine wl_nil ?_
  refine W_seq ?_
  refine W_region ?_
  refine wl_val (rn_loadB s_74 rfl rfl hB1) ?_
  refine wl_call e_35 rfl (scan_ok w5 [[97], [98]] [([121], 2), ([120], 1)] 2 ((hm13.ext hV13 (fun _ h => h)).sub (fun _ h _ => h.elim)) (by decide) (by decide) [35] (by decide)) ?_; intro v18 w6 hE6 hR6
  replace hX := hX.tr hE6
  replace hB1 := hB1.ext hE6 id
  replace hV13 := hV13.tr hE6
  obtain ⟨v18, rfl, hS18⟩ := hR6
  rw [hf] at hS18
  obtain ⟨a18, c18, rfl, _⟩ := id hS18.len
  obtain ⟨w18, hw18⟩ : ∃ x, x = w6 := ⟨_, rfl⟩
  rw [← hw18] at hS18
  have hV18 : Ext Non w18 w6 := by rw [hw18]; exact Ext.refl _ _
  refine wl_val (rn_move (by conv => lhs; whnf)) ?_
  refine wl_val (rn_extract rfl rfl) ?_
  refine wl_val (rn_extract rfl rfl) ?_
  refine wl_val (rn_assign (by conv => lhs; whnf)) ?_
  refine wl_val (rn_assign (by conv => lhs; whnf)) ?_
  refine wl_nil ?_
  refine W_seq ?_
  refine W_region ?_
  refine wl_val (rn_move (by conv => lhs; whnf)) ?_
  refine wl_val (rn_eql rfl rfl) ?_
  refine wl_val (rn_move (by conv => lhs; whnf)) ?_
  refine wl_split (d := 23) rfl (fun hg23 => ?_) (fun hg23 => ?_)
  · refine wl_yes rfl (congrArg Value.bool hg23) ?_
    refine wl_val (rn_move (by conv => lhs; whnf)) ?_
    refine wl_yes rfl (congrArg Value.bool hg23) ?_
    refine wl_val (rn_eql rfl rfl) ?_
    refine wl_val (rn_pickT (congrArg Value.bool hg23) (by conv => lhs; whnf)) ?_
    refine wl_val (rn_move (by conv => lhs; whnf)) ?_
    refine wl_split (d := 27) rfl (fun hg27 => ?_) (fun hg27 => ?_)
    · refine wl_yes rfl (congrArg Value.bool hg27) ?_
      refine wl_val (rn_move (by conv => lhs; whnf)) ?_
      refine wl_yes rfl (congrArg Value.bool hg27) ?_
      refine wl_val (rn_build' b_32 rfl rfl (cs := _) rfl) ?_
      refine wl_yes rfl (congrArg Value.bool hg27) ?_
      refine wl_val (rn_build' b_32 rfl rfl (cs := _) rfl) ?_
      refine wl_yes rfl (congrArg Value.bool hg27) ?_
      refine wl_lit sl_81 (rows := ([⟨[97], [121], true⟩, ⟨[98], [120], true⟩] : List MsgD).map MsgD.enc) rfl (by decide) (by decide) rfl rfl (by intro r hr; obtain ⟨x, _, rfl⟩ := List.mem_map.1 hr; rfl) (by intro p hp; simp at hp; rcases hp with rfl | rfl <;> exact ⟨rfl, Nat.le_of_ble_eq_true rfl⟩) rfl ?_; intro v31 w7 b31 hb31 hE7 hO31
      replace hX := hX.tr hE7
      replace hB1 := hB1.ext hE7 id
      replace hV13 := hV13.tr hE7
      replace hV18 := hV18.tr hE7
      refine wl_yes rfl (congrArg Value.bool hg27) ?_
      refine wl_call e_40 rfl (rmsgs_ok w7 [⟨[97], [121], true⟩, ⟨[98], [120], true⟩] [⟨[97], [121], true⟩, ⟨[98], [120], true⟩] (hS18.ext hV18 (fun _ h => h)) (hO31.sl (M := Non) id) (by decide)) ?_; intro v32 w8 hE8 hR8
      replace hX := hX.tr hE8
      replace hB1 := hB1.ext hE8 id
      replace hV13 := hV13.tr hE8
      replace hV18 := hV18.tr hE8
      subst hR8
      refine wl_val (rn_pickT (congrArg Value.bool hg27) (by conv => lhs; whnf)) ?_
      refine wl_val (rn_assign (by conv => lhs; whnf)) ?_
      refine wl_nil ?_
      refine W_ret ?_
      exact ⟨_, resR1 (res1_tmp rfl), hX, rfl⟩
    · exact absurd hg27 (by decide)
  · exact absurd hg23 (by decide)
end Go.Proofs.YthcclgoidchkdaaDoorC
