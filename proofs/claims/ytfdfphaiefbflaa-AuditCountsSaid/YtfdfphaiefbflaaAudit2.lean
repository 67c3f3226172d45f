/- Layer 26's counting: the iterator, and the law. -/
import Derived.Test.YtfdfphaiefbflaaAudit
set_option linter.unusedVariables false
set_option linter.unusedSimpArgs false
set_option maxRecDepth 100000
namespace Go.Proofs.YtfdfphaiefbflaaC
open Go.RowKit
-- bellman/audit.Polled$1
theorem polled_iter (cs : List CallD) (sub : Int) {v : Value} (M : Nat → Prop) (w0 : World) (b1 b2 : Nat) (hs : Sl M w0 v 15 (cs.map CallD.enc)) (hC1 : IsBox w0 b1 [v]) (hC2 : IsBox w0 b2 [.int .i64 sub]) (h1 : ¬ M b1) (h2 : ¬ M b2) :
    Iter Try.prog M w0 (.func (.func 63) #[] #[.pointer (some ⟨b1, 0, none⟩), .pointer (some ⟨b2, 0, none⟩)]) (fun m : MsgD => #[.agg m.enc.toArray]) (pol sub cs) := by
  refine iter_of e_63 fun l W J Jx hW hX hY => ?_
  obtain ⟨a, c, rfl, _⟩ := hs.len
  simp only [List.length_map] at hs hC1 ⊢
  have hbig : cs.length ≤ big := by obtain ⟨⟨a1, c1, e1, e2, e3, _⟩, _⟩ := hs; simp at e2; omega
  have hbig2 : big = 9223372036854775807 := rfl
  have ea : (#[Value.func (.yield l) #[] #[]] ++ #[.pointer (some ⟨b1, 0, none⟩), .pointer (some ⟨b2, 0, none⟩)] : Array Value) = [Value.func (.yield l) #[] #[], .pointer (some ⟨b1, 0, none⟩), .pointer (some ⟨b2, 0, none⟩)].toArray := by simp
  rw [ea]
  refine calls_of_W (R := fun v W' => Tl M w0 W (J (pol sub cs)) [] W' ∨ Tl M w0 W Jx [] W') Try.func63 rfl (by kernel_rfl) rfl ?_
  refine W_seq ?_
  refine W_region ?_
  refine wl_val (rn_load1 p_22 rfl (hC1.ext hX.w0 h1) rfl) ?_
  refine wl_val (rn_len sl_22 rfl) ?_
  refine wl_val (rn_move rfl) ?_
  refine wl_nil ?_
  refine W_block ?_   -- block 0
  refine W_loopS (S := Nat) [0, 2, 6, 7, 8] (fun i => [.func (.yield l) #[] #[], .pointer (some ⟨b2, 0, none⟩), .slice a cs.length c, .int .i64 (cs.length : Nat), .int .i64 (i : Nat)]) (fun i A => (Tl M w0 W (J (pol sub (cs.take i))) [] A) ∧ (i ≤ cs.length)) (fun i => cs.length - i) 0 ⟨rfl, rfl, rfl, rfl, rfl, trivial⟩ ⟨(hX.less (by simp)), Nat.zero_le _⟩ ?_
  rintro τ0 i A0 ⟨hX, hI0⟩
  refine W_seq ?_
  refine W_region ?_
  refine wl_val (rn_lss rfl rfl) ?_
  refine wl_nil ?_
  refine W_seq ?_
  refine W_cond rfl (fun hc0 => ?_) (fun hc0 => ?_)
  · have hlt := of_decide_eq_true hc0; simp only [Int.ofNat_lt] at hlt
    obtain ⟨x, hi⟩ : ∃ x, cs[i]? = some x := ⟨_, List.getElem?_eq_getElem hlt⟩
    obtain ⟨b, o, ea⟩ := hs.base (by intro e; simp at e; subst e; simp at hlt); subst ea
    refine W_skip ?_
    refine W_seq ?_
    refine W_block ?_   -- block 1
    refine W_seq ?_
    refine W_region ?_
    refine wl_val (rn_indexAddr sl_22 rfl rfl (by omega)) ?_
    refine wl_val (rn_loadS s_102 rfl rfl ((hs.ext hX.w0 (fun _ h => h)).all0 (map_at hi))) ?_
    refine wl_alloc z_102 ?_; intro b5 w1 hb5 hE1 hB5
    replace hX := hX.add hE1 hb5 hB5.lt
    have hl5 : b5 ∈ [b5] := by simp
    refine wl_storeB s_102 rfl rfl rfl (CallD.one x) hB5 rfl ?_; intro w2 hE2 hB5 hz2
    replace hX := hX.mine hE2 hl5
    refine wl_nil ?_
    refine W_seq ?_
    refine W_region ?_
    refine wl_val (rn_fieldAddr f_102_2 (by decide) rfl) ?_
    refine wl_val (rn_fieldAddr f_97_0 (by decide) rfl) ?_
    refine wl_val (rn_load1 p_3 rfl hB5 rfl) ?_
    refine wl_val (rn_eql rfl rfl) ?_
    refine wl_val (rn_move rfl) ?_
    refine wl_split (d := 16) rfl (fun hg16 => ?_) (fun hg16 => ?_)
    · refine wl_yes rfl (congrArg Value.bool hg16) ?_
      refine wl_val (rn_fieldAddr f_102_2 (by decide) rfl) ?_
      refine wl_yes rfl (congrArg Value.bool hg16) ?_
      refine wl_val (rn_fieldAddr f_97_1 (by decide) rfl) ?_
      refine wl_yes rfl (congrArg Value.bool hg16) ?_
      refine wl_val (rn_load1 p_3 rfl hB5 rfl) ?_
      refine wl_yes rfl (congrArg Value.bool hg16) ?_
      refine wl_val (rn_load1 p_3 rfl (hC2.ext hX.w0 h2) rfl) ?_
      refine wl_yes rfl (congrArg Value.bool hg16) ?_
      refine wl_val (rn_eql rfl rfl) ?_
      refine wl_val (rn_pickT (congrArg Value.bool hg16)) ?_
      refine wl_val (rn_move rfl) ?_
      refine wl_split (d := 23) rfl (fun hg23 => ?_) (fun hg23 => ?_)
      · refine wl_yes rfl (congrArg Value.bool hg23) ?_
        refine wl_val (rn_fieldAddr f_102_3 (by decide) rfl) ?_
        refine wl_yes rfl (congrArg Value.bool hg23) ?_
        refine wl_val (rn_fieldAddr f_100_0 (by decide) rfl) ?_
        refine wl_yes rfl (congrArg Value.bool hg23) ?_
        refine wl_val (rn_load1 p_98 rfl hB5 rfl) ?_
        refine wl_yes rfl (congrArg Value.bool hg23) ?_
        refine wl_val (rn_eql rfl rfl) ?_
        refine wl_val (rn_pickT (congrArg Value.bool hg23)) ?_
        refine wl_val (rn_move rfl) ?_
        refine wl_split (d := 29) rfl (fun hg29 => ?_) (fun hg29 => ?_)
        · refine wl_yes rfl (congrArg Value.bool hg29) ?_
          refine wl_val (rn_move rfl) ?_
          refine wl_yes rfl (congrArg Value.bool hg29) ?_
          refine wl_val (rn_fieldAddr f_102_3 (by decide) rfl) ?_
          refine wl_yes rfl (congrArg Value.bool hg29) ?_
          refine wl_val (rn_fieldAddr f_100_3 (by decide) rfl) ?_
          refine wl_yes rfl (congrArg Value.bool hg29) ?_
          refine wl_val (rn_loadS s_32 (vs := x.ans.msg.enc) rfl rfl (hB5.part rfl (Nat.le_of_ble_eq_true rfl))) ?_
          refine wl_yes rfl (congrArg Value.bool hg29) ?_
          have hp : isPoll sub x = true := by simp_all [isPoll]
          refine wl_yield rfl rfl (hY _ _ _ _ _ (pol_split hi hp) hX) ?_; rintro b34 w3 ⟨hE3, hyT, hyF⟩
          refine wl_yes rfl (congrArg Value.bool hg29) ?_
          refine wl_val (rn_not rfl) ?_
          refine wl_val (rn_pickT (congrArg Value.bool hg29)) ?_
          refine wl_nil ?_
          refine W_cond rfl (fun hc1 => ?_) (fun hc1 => ?_)
          · refine W_ret ?_
            first | exact ⟨_, rfl, .inr ((hyF (by simpa using hc1)).less (by simp))⟩ | exact ⟨_, rfl, .inl (by have hge := of_decide_eq_false hc0; simp only [Int.ofNat_lt, Nat.not_lt] at hge; have hie : i = cs.length := (by omega); subst hie; rw [List.take_length] at hX; exact hX.less (by simp))⟩
          · refine W_skip ?_
            refine W_region ?_
            refine wl_val (rn_add rfl rfl (by omega)) ?_
            refine wl_val (rn_move rfl) ?_
            refine wl_nil ?_
            have hts := pol_yes (sub := sub) hi hp
            replace hX := hyT (by simpa using hc1)
            rw [← hts] at hX
            exact ⟨rfl, i + 1, ⟨rfl, rfl, rfl, rfl, rfl, trivial⟩, ⟨(hX.less (by simp)), hlt⟩, by omega⟩
        · refine wl_no rfl (congrArg Value.bool hg29) ?_
          refine wl_no rfl (congrArg Value.bool hg29) ?_
          refine wl_no rfl (congrArg Value.bool hg29) ?_
          refine wl_no rfl (congrArg Value.bool hg29) ?_
          refine wl_no rfl (congrArg Value.bool hg29) ?_
          refine wl_no rfl (congrArg Value.bool hg29) ?_
          refine wl_val (rn_pickF (congrArg Value.bool hg29)) ?_
          refine wl_nil ?_
          refine W_condF rfl ?_
          refine W_skip ?_
          refine W_region ?_
          refine wl_val (rn_add rfl rfl (by omega)) ?_
          refine wl_val (rn_move rfl) ?_
          refine wl_nil ?_
          have hp : ¬ isPoll sub x = true := by unfold isPoll; intro h; simp only [Bool.and_eq_true] at h; rcases h with ⟨h1, h2, h3⟩; simp_all
          have hts := pol_no (sub := sub) hi hp
          rw [← hts] at hX
          exact ⟨rfl, i + 1, ⟨rfl, rfl, rfl, rfl, rfl, trivial⟩, ⟨(hX.less (by simp)), hlt⟩, by omega⟩
      · refine wl_no rfl (congrArg Value.bool hg23) ?_
        refine wl_no rfl (congrArg Value.bool hg23) ?_
        refine wl_no rfl (congrArg Value.bool hg23) ?_
        refine wl_no rfl (congrArg Value.bool hg23) ?_
        refine wl_val (rn_pickF (congrArg Value.bool hg23)) ?_
        refine wl_val (rn_move rfl) ?_
        refine wl_no rfl rfl ?_
        refine wl_no rfl rfl ?_
        refine wl_no rfl rfl ?_
        refine wl_no rfl rfl ?_
        refine wl_no rfl rfl ?_
        refine wl_no rfl rfl ?_
        refine wl_val (rn_pickF rfl) ?_
        refine wl_nil ?_
        refine W_condF rfl ?_
        refine W_skip ?_
        refine W_region ?_
        refine wl_val (rn_add rfl rfl (by omega)) ?_
        refine wl_val (rn_move rfl) ?_
        refine wl_nil ?_
        have hp : ¬ isPoll sub x = true := by unfold isPoll; intro h; simp only [Bool.and_eq_true] at h; rcases h with ⟨h1, h2, h3⟩; simp_all
        have hts := pol_no (sub := sub) hi hp
        rw [← hts] at hX
        exact ⟨rfl, i + 1, ⟨rfl, rfl, rfl, rfl, rfl, trivial⟩, ⟨(hX.less (by simp)), hlt⟩, by omega⟩
    · refine wl_no rfl (congrArg Value.bool hg16) ?_
      refine wl_no rfl (congrArg Value.bool hg16) ?_
      refine wl_no rfl (congrArg Value.bool hg16) ?_
      refine wl_no rfl (congrArg Value.bool hg16) ?_
      refine wl_no rfl (congrArg Value.bool hg16) ?_
      refine wl_val (rn_pickF (congrArg Value.bool hg16)) ?_
      refine wl_val (rn_move rfl) ?_
      refine wl_no rfl rfl ?_
      refine wl_no rfl rfl ?_
      refine wl_no rfl rfl ?_
      refine wl_no rfl rfl ?_
      refine wl_val (rn_pickF rfl) ?_
      refine wl_val (rn_move rfl) ?_
      refine wl_no rfl rfl ?_
      refine wl_no rfl rfl ?_
      refine wl_no rfl rfl ?_
      refine wl_no rfl rfl ?_
      refine wl_no rfl rfl ?_
      refine wl_no rfl rfl ?_
      refine wl_val (rn_pickF rfl) ?_
      refine wl_nil ?_
      refine W_condF rfl ?_
      refine W_skip ?_
      refine W_region ?_
      refine wl_val (rn_add rfl rfl (by omega)) ?_
      refine wl_val (rn_move rfl) ?_
      refine wl_nil ?_
      have hp : ¬ isPoll sub x = true := by unfold isPoll; intro h; simp only [Bool.and_eq_true] at h; rcases h with ⟨h1, h2, h3⟩; simp_all
      have hts := pol_no (sub := sub) hi hp
      rw [← hts] at hX
      exact ⟨rfl, i + 1, ⟨rfl, rfl, rfl, rfl, rfl, trivial⟩, ⟨(hX.less (by simp)), hlt⟩, by omega⟩
  · refine W_exit ?_   -- exit 0
    first | exact ⟨_, rfl, .inr ((hyF (by simpa using hc1)).less (by simp))⟩ | exact ⟨_, rfl, .inl (by have hge := of_decide_eq_false hc0; simp only [Int.ofNat_lt, Nat.not_lt] at hge; have hie : i = cs.length := (by omega); subst hie; rw [List.take_length] at hX; exact hX.less (by simp))⟩
-- bellman/audit.Polled
theorem polled_ok (w : World) (cs : List CallD) (sub : Int) {v : Value} (M : Nat → Prop) (hM : ∀ i, M i → i < w.heap.size) (hs : Sl M w v 15 (cs.map CallD.enc)) : Fn Try.prog 16 #[v, .int .i64 sub] w fun u w' => Iter Try.prog M w' u (fun m : MsgD => #[.agg m.enc.toArray]) (pol sub cs) := by
  obtain ⟨a, c, rfl, _⟩ := hs.len
  have hX := Ext.refl Non w
  refine fn_of_W (args := [_, _]) Try.func16 rfl (by kernel_rfl) rfl ?_
  refine W_seq ?_
  refine W_region ?_
  refine wl_box rfl ?_; intro b2 w1 hb2 hE1 hB2
  have hq2 : w.heap.size ≤ b2 := Nat.le_trans hX.size hb2
  have hl2 : Mine Non w b2 := .inr hq2
  replace hX := hX.tr hE1
  refine wl_box rfl ?_; intro b3 w2 hb3 hE2 hB3
  have hn2_3 : b2 < b3 := Nat.lt_of_lt_of_le hB2.lt hb3
  have hq3 : w.heap.size ≤ b3 := Nat.le_trans hX.size hb3
  have hl3 : Mine Non w b3 := .inr hq3
  replace hX := hX.tr hE2
  replace hB2 := hB2.ext hE2 id
  refine wl_val (rn_assign rfl) ?_
  refine wl_nil ?_
  refine W_seq ?_
  refine W_region ?_
  refine wl_val (rn_makeFunc rfl) ?_
  refine wl_val (rn_assign rfl) ?_
  refine wl_nil ?_
  refine W_ret ?_
  exact ⟨_, resR1 (res1_tmp rfl), hX, polled_iter cs sub M _ b2 b3 (hs.ext hX.of_non (fun _ h => h)) hB2 hB3 (fun h => by have := hM _ h; omega) (fun h => by have := hM _ h; omega)⟩
def c1 : CallD := ⟨0, 0, ⟨0, 0, [], [], false⟩, ⟨0, 0, 0, ⟨[], [], false⟩⟩, 1, 3⟩
def c2 : CallD := ⟨0, 0, ⟨0, 0, [], [], false⟩, ⟨0, 0, 0, ⟨[], [], false⟩⟩, 2, 4⟩
-- bellman/bellmanlaw26.awake
theorem awake_ok (w : World)  : Fn Try.prog 13 #[] w fun u w' => u = .bool true := by
  have hX := Ext.refl Non w
  refine fn_of_W (args := []) Try.func13 rfl (by kernel_rfl) rfl ?_
  refine W_seq ?_
  refine W_region ?_
  refine wl_val (rn_assign rfl) ?_
  refine wl_nil ?_
  refine W_seq ?_
  refine W_region ?_
  refine wl_val (rn_build' b_102 rfl rfl (cs := c1.enc) rfl) ?_
  refine wl_val (rn_build' b_102 rfl rfl (cs := c2.enc) rfl) ?_
  refine wl_lit sl_22 (rows := [c1, c2].map CallD.enc) rfl (by decide) (by decide) rfl rfl (by intro r hr; simp at hr; rcases hr with rfl | rfl <;> rfl) (by intro p hp; simp at hp; rcases hp with rfl | rfl <;> exact ⟨rfl, by decide⟩) rfl ?_; intro v3 w1 b3 hb3 hE1 hO3
  replace hX := hX.tr hE1
  refine wl_call e_17 rfl (overlaps_ok w1 [c1, c2] (hO3.sl (M := Non) id) (by decide)) ?_; intro v4 w2 hE2 hR2
  replace hX := hX.tr hE2
  subst hR2
  refine wl_val (rn_eql rfl rfl) ?_
  refine wl_val (rn_assign rfl) ?_
  refine wl_nil ?_
  refine W_ret ?_
  exact ⟨_, resR1 (res1_tmp rfl), hX, rfl⟩
-- bellman/bellmanlaw26.AuditCounts
theorem law_ok (w : World) (cs : List CallD) (sub few : Int) (hf0 : 0 ≤ few) (hf1 : few ≤ 255) {v : Value} (hs : Sl Non w v 15 (cs.map CallD.enc)) : Fn Try.prog 3 #[v, .int .i64 sub, .int .u8 few] w fun u w' => u = .bool true := by
  have hX := Ext.refl Non w
  refine fn_of_W (args := [_, _, _]) Try.func3 rfl (by kernel_rfl) rfl ?_
  refine W_seq ?_
  refine W_region ?_
  refine wl_box rfl ?_; intro b5 w1 hb5 hE1 hB5
  have hq5 : w.heap.size ≤ b5 := Nat.le_trans hX.size hb5
  have hl5 : Mine Non w b5 := .inr hq5
  replace hX := hX.tr hE1
  refine wl_alloc z_4 ?_; intro b6 w2 hb6 hE2 hB6
  have hn5_6 : b5 < b6 := Nat.lt_of_lt_of_le hB5.lt hb6
  have hq6 : w.heap.size ≤ b6 := Nat.le_trans hX.size hb6
  have hl6 : Mine Non w b6 := .inr hq6
  replace hX := hX.tr hE2
  replace hB5 := hB5.ext hE2 id
  refine wl_nil ?_
  refine W_seq ?_
  refine W_seq ?_
  refine W_region ?_
  refine wl_call e_13 rfl (awake_ok w2) ?_; intro v12 w3 hE3 hR3
  replace hX := hX.tr hE3
  replace hB5 := hB5.ext hE3 id; replace hB6 := hB6.ext hE3 id
  subst hR3
  refine wl_val (rn_not rfl) ?_
  refine wl_nil ?_
  refine W_cond rfl (fun hc0 => ?_) (fun hc0 => ?_)
  · exact absurd hc0 (by decide)
  · refine W_skip ?_
    refine W_seq ?_
    refine W_seq ?_
    refine W_region ?_
    refine wl_val (rn_move rfl) ?_
    refine wl_call e_14 rfl (great_ok w3 cs 60 (hs.ext hX (fun _ h => h))) ?_; intro v15 w4 hE4 hR4
    replace hX := hX.tr hE4
    replace hB5 := hB5.ext hE4 id; replace hB6 := hB6.ext hE4 id
    obtain ⟨bg, rfl, hbg⟩ := hR4
    refine wl_nil ?_
    refine W_cond rfl (fun hc1 => ?_) (fun hc1 => ?_)
    · refine W_seq ?_
      refine W_region ?_
      refine wl_store1 p_4 rfl rfl rfl rfl hB6 (Nat.le_of_ble_eq_true rfl) ?_; intro w5 hE5 hB6 hz5
      replace hX := hX.mine hE5 hl6
      replace hB5 := hB5.ext hE5 (fun h => by omega)
      refine wl_nil ?_
      refine W_ret ?_
      exact ⟨_, resR1 (res1_cell p_4 rfl hB6), hX, rfl⟩
    · have hlen := hbg hc1
      refine W_skip ?_
      refine W_seq ?_
      refine W_region ?_
      have hlt6 := hB6.lt
      refine wl_val (rn_move rfl) ?_
      refine wl_val (rn_move rfl) ?_
      refine wl_call e_15 rfl (refPolled_ok w4 cs sub (hs.ext hX (fun _ h => h)) (by omega)) ?_; intro v18 w6 hE6 hR6
      replace hX := hX.tr hE6
      replace hB5 := hB5.ext hE6 id; replace hB6 := hB6.ext hE6 id
      obtain ⟨oq, hQ, hoq⟩ := hR6
      have hQf : ∀ i, oq = some i → ¬ i = b6 := fun i hi e => by have h1 := hoq i hi; omega
      replace hQ := hQ.sl hQf
      obtain ⟨aq, cq, hv18, _⟩ := hQ.len
      rw [List.length_map] at hv18; subst hv18
      refine wl_alloc z_25 ?_; intro b7 w7 hb7 hE7 hB7
      have hn5_7 : b5 < b7 := Nat.lt_of_lt_of_le hB5.lt hb7
      have hn6_7 : b6 < b7 := Nat.lt_of_lt_of_le hB6.lt hb7
      have hq7 : w.heap.size ≤ b7 := Nat.le_trans hX.size hb7
      have hl7 : Mine Non w b7 := .inr hq7
      replace hX := hX.tr hE7
      replace hB5 := hB5.ext hE7 id; replace hB6 := hB6.ext hE7 id
      refine wl_store1 p_25 rfl rfl rfl rfl hB7 (Nat.le_of_ble_eq_true rfl) ?_; intro w8 hE8 hB7 hz8
      replace hX := hX.mine hE8 hl7
      replace hB5 := hB5.ext hE8 (fun h => by omega); replace hB6 := hB6.ext hE8 (fun h => by omega)
      refine wl_nil ?_
      refine W_seq ?_
      refine W_region ?_
      refine wl_val (rn_move rfl) ?_
      refine wl_val (rn_move rfl) ?_
      refine wl_call e_16 rfl (polled_ok w8 cs sub (fun i => i = b6) (fun i e => by rw [e]; exact hB6.lt) ((hs.sub (M' := fun i => i = b6) (fun i e hlt => by omega)).ext hX.of_non (fun _ h => h))) ?_; intro v21 w9 hE9 hR9
      replace hX := hX.tr hE9
      replace hB5 := hB5.ext hE9 id; replace hB6 := hB6.ext hE9 id; replace hB7 := hB7.ext hE9 id
      have hQ0 := (hQ.sub (M' := fun i => i = b6 ∨ w6.heap.size ≤ i) (fun i h hlt => by rcases h with h | h; exact h; omega)).ext ((hE7.of_non.trans (hE8.mono (fun i e => .inr (by omega)))).trans hE9.of_non) (fun _ h => h)
      have hIt := hR9; obtain ⟨fk, ck, hfk, _⟩ := id hIt; subst hfk
      have hW := Ext.refl (fun i => i = b6) w9; have hwm6 : Mine (fun i => i = b6) w9 b6 := .inl rfl
      refine wl_val (rn_assign rfl) ?_
      refine wl_nil ?_
      refine W_seq ?_
      refine W_seq ?_
      refine W_region ?_
      refine wl_val (rn_move rfl) ?_
      refine wl_val (rn_func_eql uf_28 rfl rfl) ?_
      refine wl_val (rn_move rfl) ?_
      refine wl_yes rfl rfl ?_
      refine wl_val (rn_move rfl) ?_
      refine wl_yes rfl rfl ?_
      refine wl_call e_17 rfl (overlaps_ok w9 cs (hs.ext hX (fun _ h => h)) (by omega)) ?_; intro v26 w10 hE10 hR10
      replace hX := hX.tr hE10
      replace hB5 := hB5.ext hE10 id; replace hB6 := hB6.ext hE10 id; replace hB7 := hB7.ext hE10 id
      replace hW := hW.tr hE10
      subst hR10
      refine wl_yes rfl rfl ?_
      refine wl_val (rn_move rfl) ?_
      refine wl_yes rfl rfl ?_
      refine wl_call e_18 rfl (refOverlaps_ok w10 cs (hs.ext hX (fun _ h => h)) (by omega)) ?_; intro v28 w11 hE11 hR11
      replace hX := hX.tr hE11
      replace hB5 := hB5.ext hE11 id; replace hB6 := hB6.ext hE11 id; replace hB7 := hB7.ext hE11 id
      replace hW := hW.tr hE11
      subst hR11
      refine wl_yes rfl rfl ?_
      refine wl_val (rn_neq rfl rfl) ?_
      refine wl_val (rn_pickF rfl) ?_
      refine wl_nil ?_
      refine W_cond rfl (fun hc2 => ?_) (fun hc2 => ?_)
      · exact absurd rfl (of_decide_eq_true hc2)
      · refine W_skip ?_
        refine W_seq ?_
        refine W_seq ?_
        refine W_region ?_
        refine wl_alloc z_3 ?_; intro b9 w12 hb9 hE12 hB9
        have hn5_9 : b5 < b9 := Nat.lt_of_lt_of_le hB5.lt hb9
        have hn6_9 : b6 < b9 := Nat.lt_of_lt_of_le hB6.lt hb9
        have hn7_9 : b7 < b9 := Nat.lt_of_lt_of_le hB7.lt hb9
        have hq9 : w.heap.size ≤ b9 := Nat.le_trans hX.size hb9
        have hl9 : Mine Non w b9 := .inr hq9
        have hwm9 : Mine (fun i => i = b6) w9 b9 := .inr (Nat.le_trans hW.size hb9)
        replace hX := hX.tr hE12
        replace hB5 := hB5.ext hE12 id; replace hB6 := hB6.ext hE12 id; replace hB7 := hB7.ext hE12 id
        replace hW := hW.tr hE12
        have hBo := hB9
        refine wl_store1 p_3 rfl rfl rfl rfl hB9 (Nat.le_of_ble_eq_true rfl) ?_; intro w13 hE13 hB9 hz13
        replace hX := hX.mine hE13 hl9
        replace hB5 := hB5.ext hE13 (fun h => by omega); replace hB6 := hB6.ext hE13 (fun h => by omega); replace hB7 := hB7.ext hE13 (fun h => by omega)
        replace hW := hW.mine hE13 hwm9
        refine wl_nil ?_
        refine W_block ?_   -- block 0
        refine W_loopD (S := Nat × Nat) [5, 6, 7, 8, 9] (fun ⟨r, b9⟩ => [.pointer (some ⟨b5, 0, none⟩), .pointer (some ⟨b6, 0, none⟩), .pointer (some ⟨b7, 0, none⟩), .func (.func fk) #[] ck, .pointer (some ⟨b9, 0, none⟩)]) (fun ⟨r, b9⟩ D A => (Ext Non w A) ∧ (Mk w D A) ∧ (IsBox A b5 [.int .u8 few]) ∧ (IsBox A b6 [.bool false]) ∧ (IsBox A b7 [.slice aq (pol sub cs).length cq]) ∧ (IsBox A b9 [.int .i64 (r : Nat)]) ∧ (Mine Non w b5) ∧ (Mine Non w b6) ∧ (Mine Non w b7) ∧ (Mine Non w b9) ∧ (b5 < b6) ∧ (b5 < b7) ∧ (b5 < b9) ∧ (b6 < b7) ∧ (b6 < b9) ∧ (b7 < b9) ∧ (Ext (fun i => i = b6) w9 A ∧ Mine (fun i => i = b6) w9 b9 ∧ r ≤ 2)) (fun ⟨r, b9⟩ => 2 - r) (0, b9) ⟨rfl, rfl, rfl, rfl, rfl, trivial⟩ ⟨hX, Mk.nil, hB5, hB6, hB7, hB9, hl5, hl6, hl7, hl9, hn5_6, hn5_7, hn5_9, hn6_7, hn6_9, hn7_9, ⟨hW, hwm9, by omega⟩⟩ ?_
        rintro τ0 ⟨r, b9⟩ D A0 ⟨hX, hD, hB5, hB6, hB7, hB9, hl5, hl6, hl7, hl9, hn5_6, hn5_7, hn5_9, hn6_7, hn6_9, hn7_9, hI0⟩
        obtain ⟨hW, hwm9, hr2⟩ := hI0
        refine W_seq ?_
        refine W_seq ?_
        refine W_region ?_
        refine wl_val (rn_load1 p_3 rfl hB9 rfl) ?_
        refine wl_val (rn_lss rfl rfl) ?_
        refine wl_nil ?_
        refine W_cond rfl (fun hc3 => ?_) (fun hc3 => ?_)
        · have hr3 : r < 2 := by have := of_decide_eq_true hc3; omega
          refine W_skip ?_
          refine W_seq ?_
          refine W_block ?_   -- block 1
          refine W_seq ?_
          refine W_region ?_
          refine wl_alloc z_3 ?_; intro b10 w14 hb10 hE14 hB10
          have hn5_10 : b5 < b10 := Nat.lt_of_lt_of_le hB5.lt hb10
          have hn6_10 : b6 < b10 := Nat.lt_of_lt_of_le hB6.lt hb10
          have hn7_10 : b7 < b10 := Nat.lt_of_lt_of_le hB7.lt hb10
          have hn9_10 : b9 < b10 := Nat.lt_of_lt_of_le hB9.lt hb10
          have hq10 : w.heap.size ≤ b10 := Nat.le_trans hX.size hb10
          have hl10 : Mine Non w b10 := .inr hq10
          have hwm10 : Mine (fun i => i = b6) w9 b10 := .inr (Nat.le_trans hW.size hb10)
          replace hX := hX.tr hE14
          replace hB5 := hB5.ext hE14 id; replace hB6 := hB6.ext hE14 id; replace hB7 := hB7.ext hE14 id; replace hB9 := hB9.ext hE14 id
          replace hW := hW.tr hE14
          replace hD := hD.non hE14
          have hBo := hB10
          refine wl_store1 p_3 rfl rfl rfl rfl hB10 (Nat.le_of_ble_eq_true rfl) ?_; intro w15 hE15 hB10 hz15
          replace hX := hX.mine hE15 hl10
          replace hB5 := hB5.ext hE15 (fun h => by omega); replace hB6 := hB6.ext hE15 (fun h => by omega); replace hB7 := hB7.ext hE15 (fun h => by omega); replace hB9 := hB9.ext hE15 (fun h => by omega)
          replace hW := hW.mine hE15 hwm10
          replace hD := hD.box hE15 hBo
          refine wl_nil ?_
          refine W_seq ?_
          refine W_seq ?_
          refine W_region ?_
          refine wl_val (rn_move rfl) ?_
          refine wl_nil ?_
          refine W_block ?_   -- block 2
          have hszr := hX.size
          have hsz_hW := hW.size
          have ho5 : w.heap.size ≤ b5 := by rcases hl5 with h | h; exact h.elim; exact h
          have ho6 : w.heap.size ≤ b6 := by rcases hl6 with h | h; exact h.elim; exact h
          have ho7 : w.heap.size ≤ b7 := by rcases hl7 with h | h; exact h.elim; exact h
          have ho9 : w.heap.size ≤ b9 := by rcases hl9 with h | h; exact h.elim; exact h
          have ho10 : w.heap.size ≤ b10 := by rcases hl10 with h | h; exact h.elim; exact h
          refine W_rangeFunc (M := fun i => i = b6) (w0 := w9) (I := fun pre N A => Box N A b5 [.int .u8 few] ∧ Box N A b6 [.bool false] ∧ Box N A b7 [.slice aq (pol sub cs).length cq] ∧ Box N A b9 [.int .i64 (r : Nat)] ∧ Box N A b10 [.int .i64 (pre.length : Nat)] ∧ Ext Non w A ∧ Ext (fun i => i = b6) w9 A ∧ MkN w D N A ∧ (True)) (X := fun c N A => c = .exit 2 ∧ Box N A b5 [.int .u8 few] ∧ Box N A b6 [.bool false] ∧ Box N A b7 [.slice aq (pol sub cs).length cq] ∧ Box N A b9 [.int .i64 (r : Nat)] ∧ Ext Non w A ∧ Ext (fun i => i = b6) w9 A ∧ MkN w D N A ∧ (r = 0)) (encs := fun m : MsgD => [.agg m.enc.toArray]) (xs := pol sub cs) rfl (hIt) (hW) (fun _ => rfl) (fun pre => (Stab.box _ _).and ((Stab.box _ _).and ((Stab.box _ _).and ((Stab.box _ _).and ((Stab.box _ _).and ((Stab.old hX.size).and ((Stab.oldM hW.size).and ((Stab.mk _ _).and ((Stab.pure _)))))))))) (fun c => (Stab.pure _).and ((Stab.box _ _).and ((Stab.box _ _).and ((Stab.box _ _).and ((Stab.box _ _).and ((Stab.old hX.size).and ((Stab.oldM hW.size).and ((Stab.mk _ _).and ((Stab.pure _)))))))))) ⟨⟨hB5, id⟩, ⟨hB6, id⟩, ⟨hB7, id⟩, ⟨hB9, id⟩, ⟨hB10, id⟩, hX, hW, hD.toN, trivial⟩ ?_ ?_ ?_
          · rintro l N pre m A hl hN hA hst ⟨hK5, hK6, hK7, hK9, hK10, hXo, hW, hDk, hIr⟩ ⟨post, hpre⟩
            have hB5 := hK5.1
            have hB6 := hK6.1; have hl6 : Mine (Yc (fun i => i = b6) w9 N) A b6 := .inl ⟨hK6.2, .inl rfl⟩
            have hB7 := hK7.1
            have hB9 := hK9.1; have hl9 : Mine (Yc (fun i => i = b6) w9 N) A b9 := .inl ⟨hK9.2, hwm9⟩
            have hB10 := hK10.1; have hl10 : Mine (Yc (fun i => i = b6) w9 N) A b10 := .inl ⟨hK10.2, hwm10⟩
            have hX := Ext.refl (Yc (fun i => i = b6) w9 N) A
            have hQl : (pol sub cs).length = pre.length + (post.length + 1) := by rw [hpre]; simp
            have hQi : (pol sub cs)[pre.length]? = some m := by rw [hpre]; simp
            have hpl := pol_len sub cs
            obtain ⟨bq, ofq, eaq⟩ := hQ0.base (by intro e; have := congrArg List.length e; simp only [List.length_map, List.length_nil] at this; omega)
            have hQ1 := hQ0; rw [eaq] at hQ1
            refine W_region ?_
            refine wl_alloc z_32 ?_; intro b11 w16 hb11 hE16 hB11
            have hn5_11 : b5 < b11 := Nat.lt_of_lt_of_le hB5.lt hb11
            have hn6_11 : b6 < b11 := Nat.lt_of_lt_of_le hB6.lt hb11
            have hn7_11 : b7 < b11 := Nat.lt_of_lt_of_le hB7.lt hb11
            have hn9_11 : b9 < b11 := Nat.lt_of_lt_of_le hB9.lt hb11
            have hn10_11 : b10 < b11 := Nat.lt_of_lt_of_le hB10.lt hb11
            have hq11 : A.heap.size ≤ b11 := Nat.le_trans hX.size hb11
            have hl11 : Mine (Yc (fun i => i = b6) w9 N) A b11 := .inr hq11
            have ho11 : w.heap.size ≤ b11 := Nat.le_trans hXo.size hb11
            have hwm11 : Mine (fun i => i = b6) w9 b11 := .inr (Nat.le_trans hW.size hb11)
            replace hX := hX.tr hE16
            replace hB5 := hB5.ext hE16 id; replace hB6 := hB6.ext hE16 id; replace hB7 := hB7.ext hE16 id; replace hB9 := hB9.ext hE16 id; replace hB10 := hB10.ext hE16 id
            replace hXo := hXo.tr hE16
            replace hDk := hDk.non hE16
            replace hW := hW.tr hE16
            have hBo := hB11
            refine wl_storeB s_32 rfl rfl rfl (MsgD.one m) hB11 rfl ?_; intro w17 hE17 hB11 hz17
            replace hX := hX.mine hE17 hl11
            replace hB5 := hB5.ext hE17 (fun h => by omega); replace hB6 := hB6.ext hE17 (fun h => by omega); replace hB7 := hB7.ext hE17 (fun h => by omega); replace hB9 := hB9.ext hE17 (fun h => by omega); replace hB10 := hB10.ext hE17 (fun h => by omega)
            replace hXo := hXo.mine hE17 (.inr ho11)
            replace hDk := hDk.box hE17 hBo
            replace hW := hW.mine hE17 hwm11
            refine wl_nil ?_
            refine ⟨rfl, hX, fun A2 hE2r hz2r hst2 => ?_⟩
            have hNl := (hN l hl).2
            replace hB5 := hB5.ext hE2r (fun e => hK5.2 (by rw [e]; exact hl))
            replace hB6 := hB6.ext hE2r (fun e => hK6.2 (by rw [e]; exact hl))
            replace hB7 := hB7.ext hE2r (fun e => hK7.2 (by rw [e]; exact hl))
            replace hB9 := hB9.ext hE2r (fun e => hK9.2 (by rw [e]; exact hl))
            replace hB10 := hB10.ext hE2r (fun e => hK10.2 (by rw [e]; exact hl))
            replace hB11 := hB11.ext hE2r (fun e => by omega)
            replace hXo := hXo.mine hE2r (.inr (Nat.le_trans hszr (hN l hl).1)); replace hDk := hDk.lp hE2r hl
            replace hW := hW.mine hE2r (.inr (Nat.le_trans hsz_hW (hN l hl).1))
            have hl11 : Mine (Yc (fun i => i = b6) w9 N) A2 b11 := .inl ⟨fun h => by have := (hN _ h).2; omega, .inr (by omega)⟩
            have hl6 : Mine (Yc (fun i => i = b6) w9 N) A2 b6 := .inl ⟨hK6.2, .inl rfl⟩
            have hl9 : Mine (Yc (fun i => i = b6) w9 N) A2 b9 := .inl ⟨hK9.2, hwm9⟩
            have hl10 : Mine (Yc (fun i => i = b6) w9 N) A2 b10 := .inl ⟨hK10.2, hwm10⟩
            have hX := Ext.refl (Yc (fun i => i = b6) w9 N) A2
            refine W_block ?_   -- block 3
            refine W_seq ?_
            refine W_seq ?_
            refine W_drawE mixed ?_; intro w18 hE18
            replace hX := hX.tr hE18
            replace hB5 := hB5.ext hE18 id; replace hB6 := hB6.ext hE18 id; replace hB7 := hB7.ext hE18 id; replace hB9 := hB9.ext hE18 id; replace hB10 := hB10.ext hE18 id; replace hB11 := hB11.ext hE18 id
            replace hXo := hXo.tr hE18
            replace hDk := hDk.non hE18
            replace hW := hW.tr hE18
            have hS := Ext.refl Non w18
            refine wd_take 0 _ _ rfl (by kernel_rfl) hS (yd_do fun A hA => rn_load1 p_3 rfl (hB10.ext hA id) rfl) ?_
            refine wd_take 1 _ _ rfl (by kernel_rfl) hS (yd_do fun A hA => rn_load1 p_25 rfl (hB7.ext hA id) rfl) ?_
            refine wd_take 2 _ _ rfl (by kernel_rfl) hS (yd_do fun A hA => rn_len sl_25 rfl) ?_
            refine wd_take 3 _ _ rfl (by kernel_rfl) hS (yd_do fun A hA => rn_geq rfl rfl) ?_
            refine wd_take 4 _ _ rfl (by kernel_rfl) hS (yd_do fun A hA => rn_move rfl) ?_
            refine wd_split (d := 41) rfl (fun hg41 => ?_) (fun hg41 => ?_)
            · exact absurd (of_decide_eq_true hg41) (by omega)
            · refine wd_take 5 _ _ rfl (by kernel_rfl) hS (yd_yes rfl (congrArg Value.bool hg41) fun A hA => rn_loadB s_32 rfl rfl (hB11.ext hA id)) ?_
              refine wd_take 6 _ _ rfl (by kernel_rfl) hS (yd_yes rfl (congrArg Value.bool hg41) fun A hA => rn_load1 p_25 rfl (hB7.ext hA id) rfl) ?_
              refine wd_take 7 _ _ rfl (by kernel_rfl) hS (yd_yes rfl (congrArg Value.bool hg41) fun A hA => rn_load1 p_3 rfl (hB10.ext hA id) rfl) ?_
              refine wd_take 8 _ _ rfl (by kernel_rfl) hS (yd_yes rfl (congrArg Value.bool hg41) fun A hA => rn_indexAddr sl_25 (a := ⟨bq, ofq, none⟩) (n := (pol sub cs).length) (c := cq) (by rw [← eaq]; rfl) rfl (by omega)) ?_
              refine wd_take 9 _ _ rfl (by kernel_rfl) hS (yd_yes rfl (congrArg Value.bool hg41) fun A hA => rn_loadS s_32 rfl rfl (((hQ1.ext hW (fun _ e => .inl e)).ext hA (fun _ h => h.elim)).all0 (map_at hQi))) ?_
              refine wd_take 10 _ _ rfl (by kernel_rfl) hS (yd_yes rfl (congrArg Value.bool hg41) fun A hA => rn_neqS rfl rfl eg_32 (by decide) (msg_eqs _ _)) ?_
              refine wd_take 11 _ _ rfl (by kernel_rfl) hS (yd_do fun A hA => rn_pickF (congrArg Value.bool hg41)) ?_
              refine wd_done (by kernel_rfl) ?_ _
              replace hX := hX.tr hS
              replace hB5 := hB5.ext hS id; replace hB6 := hB6.ext hS id; replace hB7 := hB7.ext hS id; replace hB9 := hB9.ext hS id; replace hB10 := hB10.ext hS id; replace hB11 := hB11.ext hS id
              replace hXo := hXo.tr hS
              replace hDk := hDk.non hS
              replace hW := hW.tr hS
              refine W_cond rfl (fun hc4 => ?_) (fun hc4 => ?_)
              · exact absurd hc4 (by simp)
              · refine W_skip ?_
                refine W_seq ?_
                refine W_region ?_
                refine wl_val (rn_load1 p_3 rfl hB10 rfl) ?_
                refine wl_val (rn_add rfl rfl (by omega)) ?_
                have hBo := hB10
                refine wl_store1 p_3 rfl rfl rfl rfl hB10 (Nat.le_of_ble_eq_true rfl) ?_; intro w19 hE19 hB10 hz19
                replace hX := hX.mine hE19 hl10
                replace hB5 := hB5.ext hE19 (fun h => by omega); replace hB6 := hB6.ext hE19 (fun h => by omega); replace hB7 := hB7.ext hE19 (fun h => by omega); replace hB9 := hB9.ext hE19 (fun h => by omega); replace hB11 := hB11.ext hE19 (fun h => by omega)
                replace hXo := hXo.mine hE19 (.inr ho10)
                replace hDk := hDk.box hE19 hBo
                replace hW := hW.mine hE19 hwm10
                refine wl_nil ?_
                refine W_seq ?_
                refine W_region ?_
                refine wl_val (rn_load1 p_3 rfl hB9 rfl) ?_
                refine wl_val (rn_eql rfl rfl) ?_
                refine wl_val (rn_move rfl) ?_
                refine wl_split (d := 53) rfl (fun hg53 => ?_) (fun hg53 => ?_)
                · refine wl_yes rfl (congrArg Value.bool hg53) ?_
                  refine wl_val (rn_load1 p_3 rfl hB10 rfl) ?_
                  refine wl_yes rfl (congrArg Value.bool hg53) ?_
                  refine wl_val (rn_load1 p_5 rfl hB5 rfl) ?_
                  refine wl_yes rfl (congrArg Value.bool hg53) ?_
                  refine wl_val (rn_convert ui_5 ui_3 rfl (wrap_id (by omega))) ?_
                  refine wl_yes rfl (congrArg Value.bool hg53) ?_
                  refine wl_val (rn_gtr rfl rfl) ?_
                  refine wl_val (rn_pickT (congrArg Value.bool hg53)) ?_
                  refine wl_nil ?_
                  refine W_cond rfl (fun hc5 => ?_) (fun hc5 => ?_)
                  · refine W_exit ?_   -- exit 2
                    have hr0 : r = 0 := by have := of_decide_eq_true hg53; omega
                    exact ⟨hX, rfl, ⟨hB5, hK5.2⟩, ⟨hB6, hK6.2⟩, ⟨hB7, hK7.2⟩, ⟨hB9, hK9.2⟩, hXo, hW, hDk, hr0⟩
                  · refine W_skip ?_
                    replace hB10 := hB10.cast (cs' := [.int .i64 ((pre ++ [m]).length : Nat)]) (by rw [List.length_append]; rfl)
                    exact ⟨hX, ⟨hB5, hK5.2⟩, ⟨hB6, hK6.2⟩, ⟨hB7, hK7.2⟩, ⟨hB9, hK9.2⟩, ⟨hB10, hK10.2⟩, hXo, hW, hDk, trivial⟩
                · refine wl_no rfl (congrArg Value.bool hg53) ?_
                  refine wl_no rfl (congrArg Value.bool hg53) ?_
                  refine wl_no rfl (congrArg Value.bool hg53) ?_
                  refine wl_no rfl (congrArg Value.bool hg53) ?_
                  refine wl_val (rn_pickF (congrArg Value.bool hg53)) ?_
                  refine wl_nil ?_
                  refine W_condF rfl ?_
                  refine W_skip ?_
                  replace hB10 := hB10.cast (cs' := [.int .i64 ((pre ++ [m]).length : Nat)]) (by rw [List.length_append]; rfl)
                  exact ⟨hX, ⟨hB5, hK5.2⟩, ⟨hB6, hK6.2⟩, ⟨hB7, hK7.2⟩, ⟨hB9, hK9.2⟩, ⟨hB10, hK10.2⟩, hXo, hW, hDk, trivial⟩
          · rintro N rk w' ⟨hK5, hK6, hK7, hK9, hK10, hXo, hW, hDk, hIr⟩ hN hA hr hrd
            have hB5 := hK5.1
            have hB6 := hK6.1
            have hB7 := hK7.1
            have hB9 := hK9.1
            have hB10 := hK10.1
            have hX := hXo; have hD := hDk.add hrd (Nat.le_trans hszr (hN rk hr).1) hr
            refine W_seq ?_
            refine W_region ?_
            refine wl_val (rn_load1 p_3 rfl hB9 rfl) ?_
            refine wl_val (rn_eql rfl rfl) ?_
            refine wl_val (rn_move rfl) ?_
            refine wl_split (d := 61) rfl (fun hg61 => ?_) (fun hg61 => ?_)
            · refine wl_yes rfl (congrArg Value.bool hg61) ?_
              refine wl_val (rn_load1 p_3 rfl hB10 rfl) ?_
              refine wl_yes rfl (congrArg Value.bool hg61) ?_
              refine wl_val (rn_load1 p_25 rfl hB7 rfl) ?_
              refine wl_yes rfl (congrArg Value.bool hg61) ?_
              refine wl_val (rn_len sl_25 rfl) ?_
              refine wl_yes rfl (congrArg Value.bool hg61) ?_
              refine wl_val (rn_neq rfl rfl) ?_
              refine wl_val (rn_pickT (congrArg Value.bool hg61)) ?_
              refine wl_nil ?_
              refine W_cond rfl (fun hc6 => ?_) (fun hc6 => ?_)
              · exact absurd rfl (of_decide_eq_true hc6)
              · refine W_skip ?_
                refine W_seq ?_
                refine W_seq ?_
                refine W_region ?_
                refine wl_val (rn_load1 p_3 rfl hB9 rfl) ?_
                refine wl_nil ?_
                refine W_region ?_
                refine wl_alloc z_3 ?_; intro b9 w20 hb9 hE20 hB9
                have hn5_9 : b5 < b9 := Nat.lt_of_lt_of_le hB5.lt hb9
                have hn6_9 : b6 < b9 := Nat.lt_of_lt_of_le hB6.lt hb9
                have hn7_9 : b7 < b9 := Nat.lt_of_lt_of_le hB7.lt hb9
                have hn10_9 : b10 < b9 := Nat.lt_of_lt_of_le hB10.lt hb9
                have hq9 : w.heap.size ≤ b9 := Nat.le_trans hX.size hb9
                have hl9 : Mine Non w b9 := .inr hq9
                have hwm9 : Mine (fun i => i = b6) w9 b9 := .inr (Nat.le_trans hW.size hb9)
                replace hX := hX.tr hE20
                replace hB5 := hB5.ext hE20 id; replace hB6 := hB6.ext hE20 id; replace hB7 := hB7.ext hE20 id; replace hB10 := hB10.ext hE20 id
                replace hW := hW.tr hE20
                replace hD := hD.non hE20
                have hBo := hB9
                refine wl_store1 p_3 rfl rfl rfl rfl hB9 (Nat.le_of_ble_eq_true rfl) ?_; intro w21 hE21 hB9 hz21
                replace hX := hX.mine hE21 hl9
                replace hB5 := hB5.ext hE21 (fun h => by omega); replace hB6 := hB6.ext hE21 (fun h => by omega); replace hB7 := hB7.ext hE21 (fun h => by omega); replace hB10 := hB10.ext hE21 (fun h => by omega)
                replace hW := hW.mine hE21 hwm9
                replace hD := hD.box hE21 hBo
                refine wl_nil ?_
                refine W_region ?_
                refine wl_val (rn_load1 p_3 rfl hB9 rfl) ?_
                refine wl_val (rn_add rfl rfl (by omega)) ?_
                have hBo := hB9
                refine wl_store1 p_3 rfl rfl rfl rfl hB9 (Nat.le_of_ble_eq_true rfl) ?_; intro w22 hE22 hB9 hz22
                replace hX := hX.mine hE22 hl9
                replace hB5 := hB5.ext hE22 (fun h => by omega); replace hB6 := hB6.ext hE22 (fun h => by omega); replace hB7 := hB7.ext hE22 (fun h => by omega); replace hB10 := hB10.ext hE22 (fun h => by omega)
                replace hW := hW.mine hE22 hwm9
                replace hD := hD.box hE22 hBo
                refine wl_nil ?_
                exact ⟨(r + 1, b9), ⟨rfl, rfl, rfl, rfl, rfl, trivial⟩, ⟨hX, hD, hB5, hB6, hB7, hB9, hl5, hl6, hl7, hl9, hn5_6, hn5_7, hn5_9, hn6_7, hn6_9, hn7_9, ⟨hW, hwm9, by omega⟩⟩, by show 2 - (r + 1) < 2 - r; omega⟩
            · refine wl_no rfl (congrArg Value.bool hg61) ?_
              refine wl_no rfl (congrArg Value.bool hg61) ?_
              refine wl_no rfl (congrArg Value.bool hg61) ?_
              refine wl_no rfl (congrArg Value.bool hg61) ?_
              refine wl_val (rn_pickF (congrArg Value.bool hg61)) ?_
              refine wl_nil ?_
              refine W_condF rfl ?_
              refine W_skip ?_
              refine W_seq ?_
              refine W_seq ?_
              refine W_region ?_
              refine wl_val (rn_load1 p_3 rfl hB9 rfl) ?_
              refine wl_nil ?_
              refine W_region ?_
              refine wl_alloc z_3 ?_; intro b9 w23 hb9 hE23 hB9
              have hn5_9 : b5 < b9 := Nat.lt_of_lt_of_le hB5.lt hb9
              have hn6_9 : b6 < b9 := Nat.lt_of_lt_of_le hB6.lt hb9
              have hn7_9 : b7 < b9 := Nat.lt_of_lt_of_le hB7.lt hb9
              have hn10_9 : b10 < b9 := Nat.lt_of_lt_of_le hB10.lt hb9
              have hq9 : w.heap.size ≤ b9 := Nat.le_trans hX.size hb9
              have hl9 : Mine Non w b9 := .inr hq9
              have hwm9 : Mine (fun i => i = b6) w9 b9 := .inr (Nat.le_trans hW.size hb9)
              replace hX := hX.tr hE23
              replace hB5 := hB5.ext hE23 id; replace hB6 := hB6.ext hE23 id; replace hB7 := hB7.ext hE23 id; replace hB10 := hB10.ext hE23 id
              replace hW := hW.tr hE23
              replace hD := hD.non hE23
              have hBo := hB9
              refine wl_store1 p_3 rfl rfl rfl rfl hB9 (Nat.le_of_ble_eq_true rfl) ?_; intro w24 hE24 hB9 hz24
              replace hX := hX.mine hE24 hl9
              replace hB5 := hB5.ext hE24 (fun h => by omega); replace hB6 := hB6.ext hE24 (fun h => by omega); replace hB7 := hB7.ext hE24 (fun h => by omega); replace hB10 := hB10.ext hE24 (fun h => by omega)
              replace hW := hW.mine hE24 hwm9
              replace hD := hD.box hE24 hBo
              refine wl_nil ?_
              refine W_region ?_
              refine wl_val (rn_load1 p_3 rfl hB9 rfl) ?_
              refine wl_val (rn_add rfl rfl (by omega)) ?_
              have hBo := hB9
              refine wl_store1 p_3 rfl rfl rfl rfl hB9 (Nat.le_of_ble_eq_true rfl) ?_; intro w25 hE25 hB9 hz25
              replace hX := hX.mine hE25 hl9
              replace hB5 := hB5.ext hE25 (fun h => by omega); replace hB6 := hB6.ext hE25 (fun h => by omega); replace hB7 := hB7.ext hE25 (fun h => by omega); replace hB10 := hB10.ext hE25 (fun h => by omega)
              replace hW := hW.mine hE25 hwm9
              replace hD := hD.box hE25 hBo
              refine wl_nil ?_
              exact ⟨(r + 1, b9), ⟨rfl, rfl, rfl, rfl, rfl, trivial⟩, ⟨hX, hD, hB5, hB6, hB7, hB9, hl5, hl6, hl7, hl9, hn5_6, hn5_7, hn5_9, hn6_7, hn6_9, hn7_9, ⟨hW, hwm9, by omega⟩⟩, by show 2 - (r + 1) < 2 - r; omega⟩
          · rintro c N rk w' ⟨rfl, hK5, hK6, hK7, hK9, hXo, hW, hDk, hIr⟩ hN hA hr hrd
            have hB5 := hK5.1
            have hB6 := hK6.1
            have hB7 := hK7.1
            have hB9 := hK9.1
            have hX := hXo; have hD := hDk.add hrd (Nat.le_trans hszr (hN rk hr).1) hr
            have hr61 : decide ((r : Int) = 1) = false := by subst hIr; rfl
            refine W_exit ?_   -- exit 2
            refine W_seq ?_
            refine W_region ?_
            refine wl_val (rn_load1 p_3 rfl hB9 rfl) ?_
            refine wl_val (rn_eql rfl rfl) ?_
            refine wl_val (rn_move rfl) ?_
            refine wl_no rfl (congrArg Value.bool hr61) ?_
            refine wl_no rfl (congrArg Value.bool hr61) ?_
            refine wl_no rfl (congrArg Value.bool hr61) ?_
            refine wl_no rfl (congrArg Value.bool hr61) ?_
            refine wl_val (rn_pickF (congrArg Value.bool hr61)) ?_
            refine wl_nil ?_
            refine W_condF rfl ?_
            refine W_skip ?_
            refine W_seq ?_
            refine W_seq ?_
            refine W_region ?_
            refine wl_val (rn_load1 p_3 rfl hB9 rfl) ?_
            refine wl_nil ?_
            refine W_region ?_
            refine wl_alloc z_3 ?_; intro b9 w26 hb9 hE26 hB9
            have hn5_9 : b5 < b9 := Nat.lt_of_lt_of_le hB5.lt hb9
            have hn6_9 : b6 < b9 := Nat.lt_of_lt_of_le hB6.lt hb9
            have hn7_9 : b7 < b9 := Nat.lt_of_lt_of_le hB7.lt hb9
            have hq9 : w.heap.size ≤ b9 := Nat.le_trans hX.size hb9
            have hl9 : Mine Non w b9 := .inr hq9
            have hwm9 : Mine (fun i => i = b6) w9 b9 := .inr (Nat.le_trans hW.size hb9)
            replace hX := hX.tr hE26
            replace hB5 := hB5.ext hE26 id; replace hB6 := hB6.ext hE26 id; replace hB7 := hB7.ext hE26 id
            replace hW := hW.tr hE26
            replace hD := hD.non hE26
            have hBo := hB9
            refine wl_store1 p_3 rfl rfl rfl rfl hB9 (Nat.le_of_ble_eq_true rfl) ?_; intro w27 hE27 hB9 hz27
            replace hX := hX.mine hE27 hl9
            replace hB5 := hB5.ext hE27 (fun h => by omega); replace hB6 := hB6.ext hE27 (fun h => by omega); replace hB7 := hB7.ext hE27 (fun h => by omega)
            replace hW := hW.mine hE27 hwm9
            replace hD := hD.box hE27 hBo
            refine wl_nil ?_
            refine W_region ?_
            refine wl_val (rn_load1 p_3 rfl hB9 rfl) ?_
            refine wl_val (rn_add rfl rfl (by omega)) ?_
            have hBo := hB9
            refine wl_store1 p_3 rfl rfl rfl rfl hB9 (Nat.le_of_ble_eq_true rfl) ?_; intro w28 hE28 hB9 hz28
            replace hX := hX.mine hE28 hl9
            replace hB5 := hB5.ext hE28 (fun h => by omega); replace hB6 := hB6.ext hE28 (fun h => by omega); replace hB7 := hB7.ext hE28 (fun h => by omega)
            replace hW := hW.mine hE28 hwm9
            replace hD := hD.box hE28 hBo
            refine wl_nil ?_
            exact ⟨(r + 1, b9), ⟨rfl, rfl, rfl, rfl, rfl, trivial⟩, ⟨hX, hD, hB5, hB6, hB7, hB9, hl5, hl6, hl7, hl9, hn5_6, hn5_7, hn5_9, hn6_7, hn6_9, hn7_9, ⟨hW, hwm9, by omega⟩⟩, by show 2 - (r + 1) < 2 - r; omega⟩
        · refine W_exit ?_   -- exit 0
          refine W_seq ?_
          refine W_region ?_
          have hBo := hB6
          refine wl_store1 p_4 rfl rfl rfl rfl hB6 (Nat.le_of_ble_eq_true rfl) ?_; intro w29 hE29 hB6 hz29
          replace hX := hX.mine hE29 hl6
          replace hB5 := hB5.ext hE29 (fun h => by omega); replace hB7 := hB7.ext hE29 (fun h => by omega); replace hB9 := hB9.ext hE29 (fun h => by omega)
          replace hW := hW.mine hE29 hwm6
          replace hD := hD.box hE29 hBo
          refine wl_nil ?_
          refine W_ret ?_
          refine hD.leave fun B hB => ?_
          have hB5 := hB5.ext hB (hD.ne hB5)
          have hB6 := hB6.ext hB (hD.ne hB6)
          have hB7 := hB7.ext hB (hD.ne hB7)
          have hB9 := hB9.ext hB (hD.ne hB9)
          have hX := hD.out hX hB
          exact ⟨_, resR1 (res1_cell p_4 rfl hB6), hX, rfl⟩
end Go.Proofs.YtfdfphaiefbflaaC
