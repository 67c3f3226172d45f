/- The law StripeRises. -/
import Derived.Test.YtfdfphaiefbflaaStr4
set_option linter.unusedVariables false
set_option linter.unusedSimpArgs false
set_option maxRecDepth 100000
namespace Go.Proofs.YtfdfphaiefbflaaC
open Go.RowKit
theorem planOf_sorted (st ks : List Int) : Sorted ltI (planOf st ks) := foldK_sorted _ _ (ofL_sorted _)
theorem planOf_len (st ks : List Int) : (planOf st ks).length ≤ st.length + ks.length := by
  have h1 := foldK_len (qf ks) (ofL (filt st)); have h2 := ofL_len (filt st); have h3 := filt_len st; have h4 := qf_len ks
  unfold planOf; omega
theorem planOf_mem (st ks : List Int) (y : Int) : y ∈ planOf st ks ↔ (y ∈ st ∧ 0 ≤ y ∧ y < 4) ∨ ∃ k, k ∈ ks ∧ queueOf k = y ∧ 0 ≤ y := by
  unfold planOf
  rw [foldK_mem _ _ (ofL_sorted _), ofL_mem]
  unfold filt qf
  simp only [List.mem_filter, Bool.and_eq_true, decide_eq_true_eq, List.mem_map]
  constructor
  · rintro (h | ⟨⟨k, hk, rfl⟩, h⟩); exact .inl h; exact .inr ⟨k, hk, rfl, h⟩
  · rintro (h | ⟨k, hk, rfl, h⟩); exact .inl h; exact .inr ⟨⟨k, hk, rfl⟩, h⟩
theorem planOf_rng {st ks : List Int} {y : Int} (h : y ∈ planOf st ks) : 0 ≤ y ∧ y ≤ 11 := by
  rcases (planOf_mem st ks y).1 h with ⟨_, h1, h2⟩ | ⟨k, _, h1, h2⟩
  · omega
  · refine ⟨h2, ?_⟩
    unfold queueOf at h1; split at h1 <;> omega
/-- Was a lock asked for? -/
def ask1 (y : Int) (l : List Int) : Bool := l.any fun z => decide (z = y) && decide (y < 4)
def ask2 (y : Int) (l : List Int) : Bool := l.any fun z => decide (queueOf z = y)
theorem any_take {f : Int → Bool} {l : List Int} {i : Nat} {x : Int} (h : l[i]? = some x) : (l.take (i + 1)).any f = ((l.take i).any f || f x) := by
  rw [List.take_add_one, h]; simp
theorem asked_all {st subs : List Int} {y : Int} (h : y ∈ planOf st (ofL subs)) : (ask1 y st || ask2 y subs) = true := by
  rw [Bool.or_eq_true]
  rcases (planOf_mem _ _ y).1 h with ⟨h0, h1, h2⟩ | ⟨k, hk, h1, h2⟩
  · left; unfold ask1; rw [List.any_eq_true]; exact ⟨y, h0, by simp [h2]⟩
  · right; unfold ask2; rw [List.any_eq_true]; exact ⟨k, (ofL_mem _ _).1 hk, by simp [h1]⟩
-- bellman/bellmanlaw16.StripeRises
set_option maxHeartbeats 2000000 in
theorem stripeRises_ok (w : World) (st subs : List Int) {v vb : Value} (hs : Sl Non w v 1 (st.map eI1)) (ht : Sl Non w vb 1 (subs.map eI1)) : Fn Try.prog 11 #[v, vb] w fun u w' => u = .bool true := by
  obtain ⟨a, c, rfl, hbig0⟩ := hs.len
  obtain ⟨a2, c2, rfl, hbig1⟩ := ht.len
  simp only [List.length_map] at hs ht hbig0 hbig1 ⊢
  have hbig2 : big = 9223372036854775807 := rfl
  have hls := ofL_len subs
  have hpl := planOf_len st (ofL subs)
  have hso := planOf_sorted st (ofL subs)
  have hX := Ext.refl Non w
  refine fn_of_W (args := [_, _]) Try.func11 rfl (by kernel_rfl) rfl ?_
  refine W_seq ?_
  refine W_region ?_
  refine wl_val (rn_assign (by conv => lhs; whnf)) ?_
  refine wl_nil ?_
  refine W_seq ?_
  refine W_seq ?_
  refine W_region ?_
  refine wl_call e_19 rfl (awake16_ok w) ?_; intro v10 w1 hE1 hR1
  replace hX := hX.tr hE1
  subst hR1
  refine wl_val (rn_not rfl) ?_
  refine wl_nil ?_
  refine W_cond rfl (fun hc0 => ?_) (fun hc0 => ?_)
  · exact absurd hc0 (by decide)
  · refine W_skip ?_
    refine W_seq ?_
    refine W_seq ?_
    refine W_region ?_
    refine wl_val (rn_move (by conv => lhs; whnf)) ?_
    refine wl_val (rn_len sl_36 rfl) ?_
    refine wl_val (rn_gtr rfl rfl) ?_
    refine wl_val (rn_move (by conv => lhs; whnf)) ?_
    refine wl_split (d := 15) rfl (fun hg15 => ?_) (fun hg15 => ?_)
    · refine wl_no rfl (congrArg Value.bool hg15) ?_
      refine wl_no rfl (congrArg Value.bool hg15) ?_
      refine wl_no rfl (congrArg Value.bool hg15) ?_
      refine wl_val (rn_pickT (congrArg Value.bool hg15) (by conv => lhs; whnf)) ?_
      refine wl_nil ?_
      refine W_condT rfl ?_
      refine W_seq ?_
      refine W_region ?_
      refine wl_val (rn_assign (by conv => lhs; whnf)) ?_
      refine wl_nil ?_
      refine W_ret ?_
      exact ⟨_, resR1 (res1_tmp rfl), hX, rfl⟩
    · have hna : st.length ≤ 100 := by have := of_decide_eq_false hg15; omega
      refine wl_yes rfl (congrArg Value.bool hg15) ?_
      refine wl_val (rn_move (by conv => lhs; whnf)) ?_
      refine wl_yes rfl (congrArg Value.bool hg15) ?_
      refine wl_val (rn_len sl_36 rfl) ?_
      refine wl_yes rfl (congrArg Value.bool hg15) ?_
      refine wl_val (rn_gtr rfl rfl) ?_
      refine wl_val (rn_pickF (congrArg Value.bool hg15) (by conv => lhs; whnf)) ?_
      refine wl_nil ?_
      refine W_cond rfl (fun hc1 => ?_) (fun hc1 => ?_)
      · refine W_seq ?_
        refine W_region ?_
        refine wl_val (rn_assign (by conv => lhs; whnf)) ?_
        refine wl_nil ?_
        refine W_ret ?_
        exact ⟨_, resR1 (res1_tmp rfl), hX, rfl⟩
      · have hnb : subs.length ≤ 100 := by have := of_decide_eq_false hc1; omega
        refine W_skip ?_
        refine W_seq ?_
        refine W_region ?_
        refine wl_val (rn_move (by conv => lhs; whnf)) ?_
        refine wl_val (rn_move (by conv => lhs; whnf)) ?_
        refine wl_call e_25 rfl (of_ok w1 subs (ht.ext hX (fun _ h => h)) (by omega)) ?_; intro v22 w2 hE2 hR2
        replace hX := hX.tr hE2
        have hS22 := hR2
        refine wl_call e_57 rfl (plan_ok w2 st (ofL subs) (hs.ext hX (fun _ h => h)) (hS22.sub (M' := Non) (fun _ h _ => h.elim)) (ofL_sorted _) (by omega) (by omega)) ?_; intro v23 w3 hE3 hR3
        replace hX := hX.tr hE3
        have hL := hR3; obtain ⟨aL, cL, hvL, _⟩ := id hL.len; rw [List.length_map] at hvL; subst hvL
        have hV := Ext.refl Non w3
        refine wl_val (rn_assign (by conv => lhs; whnf)) ?_
        refine wl_nil ?_
        refine W_seq ?_
        refine W_seq ?_
        refine W_region ?_
        refine wl_val (rn_assign (by conv => lhs; whnf)) ?_
        refine wl_nil ?_
        refine W_block ?_   -- block 0
        refine W_loopS (S := Nat) [0, 1, 5, 6] (fun i => [.slice a st.length c, .slice a2 subs.length c2, .slice aL (planOf st (ofL subs)).length cL, .int .i64 (i : Nat)]) (fun i A => (Ext Non w A) ∧ (Ext Non w3 A ∧ i ≤ (planOf st (ofL subs)).length)) (fun i => (planOf st (ofL subs)).length - i) 0 ⟨rfl, rfl, rfl, rfl, trivial⟩ ⟨hX, ⟨hV, Nat.zero_le _⟩⟩ ?_
        rintro τ0 i A0 ⟨hX, hI0⟩
        obtain ⟨hV, hil⟩ := hI0
        refine W_seq ?_
        refine W_seq ?_
        refine W_region ?_
        refine wl_val (rn_move (by conv => lhs; whnf)) ?_
        refine wl_val (rn_move (by conv => lhs; whnf)) ?_
        refine wl_val (rn_len sl_36 rfl) ?_
        refine wl_val (rn_lss rfl rfl) ?_
        refine wl_nil ?_
        refine W_cond rfl (fun hc2 => ?_) (fun hc2 => ?_)
        · have hlt := of_decide_eq_true hc2; simp only [Int.ofNat_lt] at hlt
          obtain ⟨y, hi2⟩ : ∃ y, (planOf st (ofL subs))[i]? = some y := ⟨_, List.getElem?_eq_getElem hlt⟩
          have hymem := List.mem_of_getElem? hi2
          have hyr := planOf_rng hymem
          obtain ⟨bL, oL, eaL⟩ := hL.base (by intro e; have := congrArg List.length e; simp only [List.length_map, List.length_nil] at this; omega); subst eaL
          refine W_skip ?_
          refine W_seq ?_
          refine W_block ?_   -- block 1
          refine W_seq ?_
          refine W_seq ?_
          refine W_drawE mixed ?_; intro w4 hE4
          replace hX := hX.tr hE4
          replace hV := hV.tr hE4
          have hS := Ext.refl Non w4
          refine wd_take 0 _ _ rfl (by kernel_rfl) hS (yd_do fun A hA => rn_move (by conv => lhs; whnf)) ?_
          refine wd_take 1 _ _ rfl (by kernel_rfl) hS (yd_do fun A hA => rn_gtr rfl rfl) ?_
          refine wd_take 2 _ _ rfl (by kernel_rfl) hS (yd_do fun A hA => rn_move (by conv => lhs; whnf)) ?_
          refine wd_split (d := 32) rfl (fun hg32 => ?_) (fun hg32 => ?_)
          · have hip := of_decide_eq_true hg32
            have he1 : ((i : Int) - 1).toNat = i - 1 := by omega
            obtain ⟨y0, hi1⟩ : ∃ y0, (planOf st (ofL subs))[i - 1]? = some y0 := ⟨_, List.getElem?_eq_getElem (by omega)⟩
            refine wd_take 3 _ _ rfl (by kernel_rfl) hS (yd_yes rfl (congrArg Value.bool hg32) fun A hA => rn_move (by conv => lhs; whnf)) ?_
            refine wd_take 4 _ _ rfl (by kernel_rfl) hS (yd_yes rfl (congrArg Value.bool hg32) fun A hA => rn_move (by conv => lhs; whnf)) ?_
            refine wd_take 5 _ _ rfl (by kernel_rfl) hS (yd_yes rfl (congrArg Value.bool hg32) fun A hA => rn_sub rfl rfl (by omega)) ?_
            refine wd_take 6 _ _ rfl (by kernel_rfl) hS (yd_yes rfl (congrArg Value.bool hg32) fun A hA => rn_indexAddr sl_36 rfl rfl (by omega)) ?_
            refine wd_take 7 _ _ rfl (by kernel_rfl) hS (yd_yes rfl (congrArg Value.bool hg32) fun A hA => rn_load p_3 rfl (((hL.ext hV (fun _ h => h)).ext hA (fun _ h => h.elim)).at0 (eI_at (i := ((i : Int) - 1).toNat) (by rw [he1]; exact hi1)) rfl)) ?_
            refine wd_take 8 _ _ rfl (by kernel_rfl) hS (yd_yes rfl (congrArg Value.bool hg32) fun A hA => rn_move (by conv => lhs; whnf)) ?_
            refine wd_take 9 _ _ rfl (by kernel_rfl) hS (yd_yes rfl (congrArg Value.bool hg32) fun A hA => rn_move (by conv => lhs; whnf)) ?_
            refine wd_take 10 _ _ rfl (by kernel_rfl) hS (yd_yes rfl (congrArg Value.bool hg32) fun A hA => rn_indexAddr sl_36 rfl rfl (by omega)) ?_
            refine wd_take 11 _ _ rfl (by kernel_rfl) hS (yd_yes rfl (congrArg Value.bool hg32) fun A hA => rn_load p_3 rfl (((hL.ext hV (fun _ h => h)).ext hA (fun _ h => h.elim)).at0 (eI_at hi2) rfl)) ?_
            refine wd_take 12 _ _ rfl (by kernel_rfl) hS (yd_yes rfl (congrArg Value.bool hg32) fun A hA => rn_geq rfl rfl) ?_
            refine wd_take 13 _ _ rfl (by kernel_rfl) hS (yd_do fun A hA => rn_pickT (congrArg Value.bool hg32) (by conv => lhs; whnf)) ?_
            refine wd_take 14 _ _ rfl (by kernel_rfl) hS (yd_do fun A hA => rn_move (by conv => lhs; whnf)) ?_
            refine wd_split (d := 44) rfl (fun hg44 => ?_) (fun hg44 => ?_)
            · exact absurd (of_decide_eq_true hg44) (by have h := hso.get hi1 hi2 (by omega); simp only [ltI, decide_eq_true_eq] at h; omega)
            · refine wd_take 15 _ _ rfl (by kernel_rfl) hS (yd_yes rfl (congrArg Value.bool hg44) fun A hA => rn_move (by conv => lhs; whnf)) ?_
              refine wd_take 16 _ _ rfl (by kernel_rfl) hS (yd_yes rfl (congrArg Value.bool hg44) fun A hA => rn_move (by conv => lhs; whnf)) ?_
              refine wd_take 17 _ _ rfl (by kernel_rfl) hS (yd_yes rfl (congrArg Value.bool hg44) fun A hA => rn_indexAddr sl_36 rfl rfl (by omega)) ?_
              refine wd_take 18 _ _ rfl (by kernel_rfl) hS (yd_yes rfl (congrArg Value.bool hg44) fun A hA => rn_load p_3 rfl (((hL.ext hV (fun _ h => h)).ext hA (fun _ h => h.elim)).at0 (eI_at hi2) rfl)) ?_
              refine wd_take 19 _ _ rfl (by kernel_rfl) hS (yd_yes rfl (congrArg Value.bool hg44) fun A hA => rn_lss rfl rfl) ?_
              refine wd_take 20 _ _ rfl (by kernel_rfl) hS (yd_do fun A hA => rn_pickF (congrArg Value.bool hg44) (by conv => lhs; whnf)) ?_
              refine wd_take 21 _ _ rfl (by kernel_rfl) hS (yd_do fun A hA => rn_move (by conv => lhs; whnf)) ?_
              refine wd_split (d := 51) rfl (fun hg51 => ?_) (fun hg51 => ?_)
              · exact absurd (of_decide_eq_true hg51) (by omega)
              · refine wd_take 22 _ _ rfl (by kernel_rfl) hS (yd_yes rfl (congrArg Value.bool hg51) fun A hA => rn_move (by conv => lhs; whnf)) ?_
                refine wd_take 23 _ _ rfl (by kernel_rfl) hS (yd_yes rfl (congrArg Value.bool hg51) fun A hA => rn_move (by conv => lhs; whnf)) ?_
                refine wd_take 24 _ _ rfl (by kernel_rfl) hS (yd_yes rfl (congrArg Value.bool hg51) fun A hA => rn_indexAddr sl_36 rfl rfl (by omega)) ?_
                refine wd_take 25 _ _ rfl (by kernel_rfl) hS (yd_yes rfl (congrArg Value.bool hg51) fun A hA => rn_load p_3 rfl (((hL.ext hV (fun _ h => h)).ext hA (fun _ h => h.elim)).at0 (eI_at hi2) rfl)) ?_
                refine wd_take 26 _ _ rfl (by kernel_rfl) hS (yd_yes rfl (congrArg Value.bool hg51) fun A hA => rn_gtr rfl rfl) ?_
                refine wd_take 27 _ _ rfl (by kernel_rfl) hS (yd_do fun A hA => rn_pickF (congrArg Value.bool hg51) (by conv => lhs; whnf)) ?_
                refine wd_done (by kernel_rfl) ?_ _
                replace hX := hX.tr hS
                replace hV := hV.tr hS
                refine W_cond rfl (fun hc3 => ?_) (fun hc3 => ?_)
                · exact absurd (of_decide_eq_true hc3) (by omega)
                · refine W_skip ?_
                  refine W_seq ?_
                  refine W_region ?_
                  refine wl_val (rn_assign (by conv => lhs; whnf)) ?_
                  refine wl_nil ?_
                  refine W_seq ?_
                  refine W_seq ?_
                  refine W_region ?_
                  refine wl_val (rn_assign (by conv => lhs; whnf)) ?_
                  refine wl_nil ?_
                  refine W_block ?_   -- block 2
                  refine W_loopS (S := Nat) [0, 1, 5, 6, 7, 8] (fun k => [.slice a st.length c, .slice a2 subs.length c2, .slice (some ⟨bL, oL, none⟩) (planOf st (ofL subs)).length cL, .int .i64 (i : Nat), .bool (ask1 y (st.take k)), .int .i64 (k : Nat)]) (fun k A => (Ext Non w A) ∧ (Ext Non w3 A ∧ k ≤ st.length)) (fun k => st.length - k) 0 ⟨rfl, rfl, rfl, rfl, rfl, rfl, trivial⟩ ⟨hX, ⟨hV, Nat.zero_le _⟩⟩ ?_
                  rintro τ1 k A1 ⟨hX, hI1⟩
                  obtain ⟨hV, hkl⟩ := hI1
                  refine W_seq ?_
                  refine W_seq ?_
                  refine W_region ?_
                  refine wl_val (rn_move (by conv => lhs; whnf)) ?_
                  refine wl_val (rn_move (by conv => lhs; whnf)) ?_
                  refine wl_val (rn_len sl_36 rfl) ?_
                  refine wl_val (rn_lss rfl rfl) ?_
                  refine wl_nil ?_
                  refine W_cond rfl (fun hc4 => ?_) (fun hc4 => ?_)
                  · have hkt := of_decide_eq_true hc4; simp only [Int.ofNat_lt] at hkt
                    obtain ⟨z, hkz⟩ : ∃ z, st[k]? = some z := ⟨_, List.getElem?_eq_getElem hkt⟩
                    obtain ⟨bs, os, eas⟩ := hs.base (by intro e; have := congrArg List.length e; simp only [List.length_map, List.length_nil] at this; omega); subst eas
                    have hak : ask1 y (st.take (k + 1)) = (ask1 y (st.take k) || (decide (z = y) && decide (y < 4))) := any_take hkz
                    refine W_skip ?_
                    refine W_seq ?_
                    refine W_block ?_   -- block 3
                    refine W_drawE mixed ?_; intro w5 hE5
                    replace hX := hX.tr hE5
                    replace hV := hV.tr hE5
                    have hS := Ext.refl Non w5
                    refine wd_take 0 _ _ rfl (by kernel_rfl) hS (yd_do fun A hA => rn_move (by conv => lhs; whnf)) ?_
                    refine wd_take 1 _ _ rfl (by kernel_rfl) hS (yd_do fun A hA => rn_move (by conv => lhs; whnf)) ?_
                    refine wd_split (d := 65) rfl (fun hg65 => ?_) (fun hg65 => ?_)
                    · refine wd_take 2 _ _ rfl (by kernel_rfl) hS (yd_no rfl (congrArg Value.bool hg65)) ?_
                      refine wd_take 3 _ _ rfl (by kernel_rfl) hS (yd_no rfl (congrArg Value.bool hg65)) ?_
                      refine wd_take 4 _ _ rfl (by kernel_rfl) hS (yd_no rfl (congrArg Value.bool hg65)) ?_
                      refine wd_take 5 _ _ rfl (by kernel_rfl) hS (yd_no rfl (congrArg Value.bool hg65)) ?_
                      refine wd_take 6 _ _ rfl (by kernel_rfl) hS (yd_no rfl (congrArg Value.bool hg65)) ?_
                      refine wd_take 7 _ _ rfl (by kernel_rfl) hS (yd_no rfl (congrArg Value.bool hg65)) ?_
                      refine wd_take 8 _ _ rfl (by kernel_rfl) hS (yd_no rfl (congrArg Value.bool hg65)) ?_
                      refine wd_take 9 _ _ rfl (by kernel_rfl) hS (yd_no rfl (congrArg Value.bool hg65)) ?_
                      refine wd_take 10 _ _ rfl (by kernel_rfl) hS (yd_no rfl (congrArg Value.bool hg65)) ?_
                      refine wd_take 11 _ _ rfl (by kernel_rfl) hS (yd_no rfl (congrArg Value.bool hg65)) ?_
                      refine wd_take 12 _ _ rfl (by kernel_rfl) hS (yd_nou rfl rfl) ?_
                      refine wd_take 13 _ _ rfl (by kernel_rfl) hS (yd_nou rfl rfl) ?_
                      refine wd_take 14 _ _ rfl (by kernel_rfl) hS (yd_nou rfl rfl) ?_
                      refine wd_take 15 _ _ rfl (by kernel_rfl) hS (yd_nou rfl rfl) ?_
                      refine wd_take 16 _ _ rfl (by kernel_rfl) hS (yd_nou rfl rfl) ?_
                      refine wd_take 17 _ _ rfl (by kernel_rfl) hS (yd_no rfl (congrArg Value.bool hg65)) ?_
                      refine wd_take 18 _ _ rfl (by kernel_rfl) hS (yd_do fun A hA => rn_pickT (congrArg Value.bool hg65) (by conv => lhs; whnf)) ?_
                      refine wd_take 19 _ _ rfl (by kernel_rfl) hS (yd_do fun A hA => rn_assign (by conv => lhs; whnf)) ?_
                      refine wd_done (by kernel_rfl) ?_ _
                      replace hX := hX.tr hS
                      replace hV := hV.tr hS
                      refine W_region ?_
                      refine wl_val (rn_move (by conv => lhs; whnf)) ?_
                      refine wl_val (rn_add rfl rfl (by omega)) ?_
                      refine wl_val (rn_assign (by conv => lhs; whnf)) ?_
                      refine wl_nil ?_
                      
                      exact ⟨rfl, k + 1, ⟨rfl, rfl, rfl, rfl, (congrArg Value.bool (show true = ask1 y (st.take (k + 1)) by rw [hak, hg65]; rfl)), rfl, trivial⟩, ⟨hX, ⟨hV, hkt⟩⟩, by omega⟩
                    · refine wd_take 2 _ _ rfl (by kernel_rfl) hS (yd_yes rfl (congrArg Value.bool hg65) fun A hA => rn_move (by conv => lhs; whnf)) ?_
                      refine wd_take 3 _ _ rfl (by kernel_rfl) hS (yd_yes rfl (congrArg Value.bool hg65) fun A hA => rn_move (by conv => lhs; whnf)) ?_
                      refine wd_take 4 _ _ rfl (by kernel_rfl) hS (yd_yes rfl (congrArg Value.bool hg65) fun A hA => rn_indexAddr sl_36 rfl rfl (by omega)) ?_
                      refine wd_take 5 _ _ rfl (by kernel_rfl) hS (yd_yes rfl (congrArg Value.bool hg65) fun A hA => rn_load p_3 rfl (((hs.ext hX (fun _ h => h)).ext hA (fun _ h => h.elim)).at0 (eI_at hkz) rfl)) ?_
                      refine wd_take 6 _ _ rfl (by kernel_rfl) hS (yd_yes rfl (congrArg Value.bool hg65) fun A hA => rn_move (by conv => lhs; whnf)) ?_
                      refine wd_take 7 _ _ rfl (by kernel_rfl) hS (yd_yes rfl (congrArg Value.bool hg65) fun A hA => rn_move (by conv => lhs; whnf)) ?_
                      refine wd_take 8 _ _ rfl (by kernel_rfl) hS (yd_yes rfl (congrArg Value.bool hg65) fun A hA => rn_indexAddr sl_36 rfl rfl (by omega)) ?_
                      refine wd_take 9 _ _ rfl (by kernel_rfl) hS (yd_yes rfl (congrArg Value.bool hg65) fun A hA => rn_load p_3 rfl (((hL.ext hV (fun _ h => h)).ext hA (fun _ h => h.elim)).at0 (eI_at hi2) rfl)) ?_
                      refine wd_take 10 _ _ rfl (by kernel_rfl) hS (yd_yes rfl (congrArg Value.bool hg65) fun A hA => rn_eql rfl rfl) ?_
                      refine wd_take 11 _ _ rfl (by kernel_rfl) hS (yd_yes rfl (congrArg Value.bool hg65) fun A hA => rn_move (by conv => lhs; whnf)) ?_
                      refine wd_split (d := 75) rfl (fun hg75 => ?_) (fun hg75 => ?_)
                      · refine wd_take 12 _ _ rfl (by kernel_rfl) hS (yd_yes rfl (congrArg Value.bool hg75) fun A hA => rn_move (by conv => lhs; whnf)) ?_
                        refine wd_take 13 _ _ rfl (by kernel_rfl) hS (yd_yes rfl (congrArg Value.bool hg75) fun A hA => rn_move (by conv => lhs; whnf)) ?_
                        refine wd_take 14 _ _ rfl (by kernel_rfl) hS (yd_yes rfl (congrArg Value.bool hg75) fun A hA => rn_indexAddr sl_36 rfl rfl (by omega)) ?_
                        refine wd_take 15 _ _ rfl (by kernel_rfl) hS (yd_yes rfl (congrArg Value.bool hg75) fun A hA => rn_load p_3 rfl (((hL.ext hV (fun _ h => h)).ext hA (fun _ h => h.elim)).at0 (eI_at hi2) rfl)) ?_
                        refine wd_take 16 _ _ rfl (by kernel_rfl) hS (yd_yes rfl (congrArg Value.bool hg75) fun A hA => rn_lss rfl rfl) ?_
                        refine wd_take 17 _ _ rfl (by kernel_rfl) hS (yd_yes rfl (congrArg Value.bool hg65) fun A hA => rn_pickT (congrArg Value.bool hg75) (by conv => lhs; whnf)) ?_
                        refine wd_take 18 _ _ rfl (by kernel_rfl) hS (yd_do fun A hA => rn_pickF (congrArg Value.bool hg65) (by conv => lhs; whnf)) ?_
                        refine wd_take 19 _ _ rfl (by kernel_rfl) hS (yd_do fun A hA => rn_assign (by conv => lhs; whnf)) ?_
                        refine wd_done (by kernel_rfl) ?_ _
                        replace hX := hX.tr hS
                        replace hV := hV.tr hS
                        refine W_region ?_
                        refine wl_val (rn_move (by conv => lhs; whnf)) ?_
                        refine wl_val (rn_add rfl rfl (by omega)) ?_
                        refine wl_val (rn_assign (by conv => lhs; whnf)) ?_
                        refine wl_nil ?_
                        
                        exact ⟨rfl, k + 1, ⟨rfl, rfl, rfl, rfl, (congrArg Value.bool (show decide (y < 4) = ask1 y (st.take (k + 1)) by rw [hak, hg65, hg75]; rfl)), rfl, trivial⟩, ⟨hX, ⟨hV, hkt⟩⟩, by omega⟩
                      · refine wd_take 12 _ _ rfl (by kernel_rfl) hS (yd_no rfl (congrArg Value.bool hg75)) ?_
                        refine wd_take 13 _ _ rfl (by kernel_rfl) hS (yd_no rfl (congrArg Value.bool hg75)) ?_
                        refine wd_take 14 _ _ rfl (by kernel_rfl) hS (yd_no rfl (congrArg Value.bool hg75)) ?_
                        refine wd_take 15 _ _ rfl (by kernel_rfl) hS (yd_no rfl (congrArg Value.bool hg75)) ?_
                        refine wd_take 16 _ _ rfl (by kernel_rfl) hS (yd_no rfl (congrArg Value.bool hg75)) ?_
                        refine wd_take 17 _ _ rfl (by kernel_rfl) hS (yd_yes rfl (congrArg Value.bool hg65) fun A hA => rn_pickF (congrArg Value.bool hg75) (by conv => lhs; whnf)) ?_
                        refine wd_take 18 _ _ rfl (by kernel_rfl) hS (yd_do fun A hA => rn_pickF (congrArg Value.bool hg65) (by conv => lhs; whnf)) ?_
                        refine wd_take 19 _ _ rfl (by kernel_rfl) hS (yd_do fun A hA => rn_assign (by conv => lhs; whnf)) ?_
                        refine wd_done (by kernel_rfl) ?_ _
                        replace hX := hX.tr hS
                        replace hV := hV.tr hS
                        refine W_region ?_
                        refine wl_val (rn_move (by conv => lhs; whnf)) ?_
                        refine wl_val (rn_add rfl rfl (by omega)) ?_
                        refine wl_val (rn_assign (by conv => lhs; whnf)) ?_
                        refine wl_nil ?_
                        
                        exact ⟨rfl, k + 1, ⟨rfl, rfl, rfl, rfl, (congrArg Value.bool (show false = ask1 y (st.take (k + 1)) by rw [hak, hg65, hg75]; rfl)), rfl, trivial⟩, ⟨hX, ⟨hV, hkt⟩⟩, by omega⟩
                  · have hke := of_decide_eq_false hc4; simp only [Int.ofNat_lt, Nat.not_lt] at hke
                    have htl : st.take k = st := List.take_of_length_le hke
                    refine W_exit ?_   -- exit 2
                    refine W_seq ?_
                    refine W_seq ?_
                    refine W_region ?_
                    refine wl_val (rn_assign (by conv => lhs; whnf)) ?_
                    refine wl_nil ?_
                    refine W_block ?_   -- block 4
                    refine W_loopS (S := Nat) [0, 1, 5, 6, 7, 9] (fun k => [.slice a st.length c, .slice a2 subs.length c2, .slice (some ⟨bL, oL, none⟩) (planOf st (ofL subs)).length cL, .int .i64 (i : Nat), .bool (ask1 y st || ask2 y (subs.take k)), .int .i64 (k : Nat)]) (fun k A => (Ext Non w A) ∧ (Ext Non w3 A ∧ k ≤ subs.length)) (fun k => subs.length - k) 0 ⟨rfl, rfl, rfl, rfl, (congrArg Value.bool (show ask1 y (st.take k) = (ask1 y st || ask2 y (subs.take 0)) by rw [htl]; simp [ask2])), rfl, trivial⟩ ⟨hX, ⟨hV, Nat.zero_le _⟩⟩ ?_
                    rintro τ2 k A2 ⟨hX, hI2⟩
                    obtain ⟨hV, hkl⟩ := hI2
                    refine W_seq ?_
                    refine W_seq ?_
                    refine W_region ?_
                    refine wl_val (rn_move (by conv => lhs; whnf)) ?_
                    refine wl_val (rn_move (by conv => lhs; whnf)) ?_
                    refine wl_val (rn_len sl_36 rfl) ?_
                    refine wl_val (rn_lss rfl rfl) ?_
                    refine wl_nil ?_
                    refine W_cond rfl (fun hc5 => ?_) (fun hc5 => ?_)
                    · have hkt := of_decide_eq_true hc5; simp only [Int.ofNat_lt] at hkt
                      obtain ⟨z, hkz⟩ : ∃ z, subs[k]? = some z := ⟨_, List.getElem?_eq_getElem hkt⟩
                      obtain ⟨bt, ot, eat⟩ := ht.base (by intro e; have := congrArg List.length e; simp only [List.length_map, List.length_nil] at this; omega); subst eat
                      have hak : ask2 y (subs.take (k + 1)) = (ask2 y (subs.take k) || decide (queueOf z = y)) := any_take hkz
                      refine W_skip ?_
                      refine W_seq ?_
                      refine W_block ?_   -- block 5
                      refine W_drawE mixed ?_; intro w6 hE6
                      replace hX := hX.tr hE6
                      replace hV := hV.tr hE6
                      have hS := Ext.refl Non w6
                      refine wd_take 0 _ _ rfl (by kernel_rfl) hS (yd_do fun A hA => rn_move (by conv => lhs; whnf)) ?_
                      refine wd_take 1 _ _ rfl (by kernel_rfl) hS (yd_do fun A hA => rn_move (by conv => lhs; whnf)) ?_
                      refine wd_split (d := 90) rfl (fun hg90 => ?_) (fun hg90 => ?_)
                      · refine wd_take 2 _ _ rfl (by kernel_rfl) hS (yd_no rfl (congrArg Value.bool hg90)) ?_
                        refine wd_take 3 _ _ rfl (by kernel_rfl) hS (yd_no rfl (congrArg Value.bool hg90)) ?_
                        refine wd_take 4 _ _ rfl (by kernel_rfl) hS (yd_no rfl (congrArg Value.bool hg90)) ?_
                        refine wd_take 5 _ _ rfl (by kernel_rfl) hS (yd_no rfl (congrArg Value.bool hg90)) ?_
                        refine wd_take 7 _ _ rfl (by kernel_rfl) hS (yd_no rfl (congrArg Value.bool hg90)) ?_
                        refine wd_take 8 _ _ rfl (by kernel_rfl) hS (yd_no rfl (congrArg Value.bool hg90)) ?_
                        refine wd_take 9 _ _ rfl (by kernel_rfl) hS (yd_no rfl (congrArg Value.bool hg90)) ?_
                        refine wd_take 10 _ _ rfl (by kernel_rfl) hS (yd_no rfl (congrArg Value.bool hg90)) ?_
                        refine wd_only 6 _ rfl (by kernel_rfl) ?_
                        refine s1_no rfl (congrArg Value.bool hg90) ⟨hS, ?_⟩
                        refine wd_take 11 _ _ rfl (by kernel_rfl) hS (yd_no rfl (congrArg Value.bool hg90)) ?_
                        refine wd_take 12 _ _ rfl (by kernel_rfl) hS (yd_do fun A hA => rn_pickT (congrArg Value.bool hg90) (by conv => lhs; whnf)) ?_
                        refine wd_take 13 _ _ rfl (by kernel_rfl) hS (yd_do fun A hA => rn_assign (by conv => lhs; whnf)) ?_
                        refine wd_done (by kernel_rfl) ?_ _
                        replace hX := hX.tr hS
                        replace hV := hV.tr hS
                        refine W_region ?_
                        refine wl_val (rn_move (by conv => lhs; whnf)) ?_
                        refine wl_val (rn_add rfl rfl (by omega)) ?_
                        refine wl_val (rn_assign (by conv => lhs; whnf)) ?_
                        refine wl_nil ?_
                        
                        exact ⟨rfl, k + 1, ⟨rfl, rfl, rfl, rfl, (congrArg Value.bool (show true = (ask1 y st || ask2 y (subs.take (k + 1))) by rw [hak, ← Bool.or_assoc, hg90]; rfl)), rfl, trivial⟩, ⟨hX, ⟨hV, hkt⟩⟩, by omega⟩
                      · refine wd_take 2 _ _ rfl (by kernel_rfl) hS (yd_yes rfl (congrArg Value.bool hg90) fun A hA => rn_move (by conv => lhs; whnf)) ?_
                        refine wd_take 3 _ _ rfl (by kernel_rfl) hS (yd_yes rfl (congrArg Value.bool hg90) fun A hA => rn_move (by conv => lhs; whnf)) ?_
                        refine wd_take 4 _ _ rfl (by kernel_rfl) hS (yd_yes rfl (congrArg Value.bool hg90) fun A hA => rn_indexAddr sl_36 rfl rfl (by omega)) ?_
                        refine wd_take 5 _ _ rfl (by kernel_rfl) hS (yd_yes rfl (congrArg Value.bool hg90) fun A hA => rn_load p_3 rfl (((ht.ext hX (fun _ h => h)).ext hA (fun _ h => h.elim)).at0 (eI_at hkz) rfl)) ?_
                        refine wd_take 7 _ _ rfl (by kernel_rfl) hS (yd_yes rfl (congrArg Value.bool hg90) fun A hA => rn_move (by conv => lhs; whnf)) ?_
                        refine wd_take 8 _ _ rfl (by kernel_rfl) hS (yd_yes rfl (congrArg Value.bool hg90) fun A hA => rn_move (by conv => lhs; whnf)) ?_
                        refine wd_take 9 _ _ rfl (by kernel_rfl) hS (yd_yes rfl (congrArg Value.bool hg90) fun A hA => rn_indexAddr sl_36 rfl rfl (by omega)) ?_
                        refine wd_take 10 _ _ rfl (by kernel_rfl) hS (yd_yes rfl (congrArg Value.bool hg90) fun A hA => rn_load p_3 rfl (((hL.ext hV (fun _ h => h)).ext hA (fun _ h => h.elim)).at0 (eI_at hi2) rfl)) ?_
                        refine wd_only 6 _ rfl (by kernel_rfl) ?_
                        refine s1_yes rfl (congrArg Value.bool hg90) ?_
                        refine wl_call e_58 rfl (queue_ok w6 z) ?_; intro v95 w7 hE7 hR7
                        replace hS := hS.tr hE7
                        subst hR7
                        refine wl_nil ⟨hS, ?_⟩
                        refine wd_take 11 _ _ rfl (by kernel_rfl) hS (yd_yes rfl (congrArg Value.bool hg90) fun A hA => rn_eql rfl rfl) ?_
                        refine wd_take 12 _ _ rfl (by kernel_rfl) hS (yd_do fun A hA => rn_pickF (congrArg Value.bool hg90) (by conv => lhs; whnf)) ?_
                        refine wd_take 13 _ _ rfl (by kernel_rfl) hS (yd_do fun A hA => rn_assign (by conv => lhs; whnf)) ?_
                        refine wd_done (by kernel_rfl) ?_ _
                        replace hX := hX.tr hS
                        replace hV := hV.tr hS
                        refine W_region ?_
                        refine wl_val (rn_move (by conv => lhs; whnf)) ?_
                        refine wl_val (rn_add rfl rfl (by omega)) ?_
                        refine wl_val (rn_assign (by conv => lhs; whnf)) ?_
                        refine wl_nil ?_
                        
                        exact ⟨rfl, k + 1, ⟨rfl, rfl, rfl, rfl, (congrArg Value.bool (show decide (queueOf z = y) = (ask1 y st || ask2 y (subs.take (k + 1))) by rw [hak, ← Bool.or_assoc, hg90]; rfl)), rfl, trivial⟩, ⟨hX, ⟨hV, hkt⟩⟩, by omega⟩
                    · refine W_exit ?_   -- exit 4
                      refine W_seq ?_
                      refine W_region ?_
                      refine wl_val (rn_move (by conv => lhs; whnf)) ?_
                      refine wl_val (rn_not rfl) ?_
                      refine wl_nil ?_
                      refine W_cond rfl (fun hc6 => ?_) (fun hc6 => ?_)
                      · exact absurd hc6 (by have hk := of_decide_eq_false hc5; rw [List.take_of_length_le (by omega), asked_all hymem]; simp)
                      · refine W_skip ?_
                        refine W_region ?_
                        refine wl_val (rn_move (by conv => lhs; whnf)) ?_
                        refine wl_val (rn_add rfl rfl (by omega)) ?_
                        refine wl_val (rn_assign (by conv => lhs; whnf)) ?_
                        refine wl_nil ?_
                        exact ⟨rfl, i + 1, ⟨rfl, rfl, rfl, rfl, trivial⟩, ⟨hX, ⟨hV, hlt⟩⟩, by omega⟩
          · refine wd_take 3 _ _ rfl (by kernel_rfl) hS (yd_no rfl (congrArg Value.bool hg32)) ?_
            refine wd_take 4 _ _ rfl (by kernel_rfl) hS (yd_no rfl (congrArg Value.bool hg32)) ?_
            refine wd_take 5 _ _ rfl (by kernel_rfl) hS (yd_no rfl (congrArg Value.bool hg32)) ?_
            refine wd_take 6 _ _ rfl (by kernel_rfl) hS (yd_no rfl (congrArg Value.bool hg32)) ?_
            refine wd_take 7 _ _ rfl (by kernel_rfl) hS (yd_no rfl (congrArg Value.bool hg32)) ?_
            refine wd_take 8 _ _ rfl (by kernel_rfl) hS (yd_no rfl (congrArg Value.bool hg32)) ?_
            refine wd_take 9 _ _ rfl (by kernel_rfl) hS (yd_no rfl (congrArg Value.bool hg32)) ?_
            refine wd_take 10 _ _ rfl (by kernel_rfl) hS (yd_no rfl (congrArg Value.bool hg32)) ?_
            refine wd_take 11 _ _ rfl (by kernel_rfl) hS (yd_no rfl (congrArg Value.bool hg32)) ?_
            refine wd_take 12 _ _ rfl (by kernel_rfl) hS (yd_no rfl (congrArg Value.bool hg32)) ?_
            refine wd_take 13 _ _ rfl (by kernel_rfl) hS (yd_do fun A hA => rn_pickF (congrArg Value.bool hg32) (by conv => lhs; whnf)) ?_
            refine wd_take 14 _ _ rfl (by kernel_rfl) hS (yd_do fun A hA => rn_move (by conv => lhs; whnf)) ?_
            refine wd_take 15 _ _ rfl (by kernel_rfl) hS (yd_yes rfl rfl fun A hA => rn_move (by conv => lhs; whnf)) ?_
            refine wd_take 16 _ _ rfl (by kernel_rfl) hS (yd_yes rfl rfl fun A hA => rn_move (by conv => lhs; whnf)) ?_
            refine wd_take 17 _ _ rfl (by kernel_rfl) hS (yd_yes rfl rfl fun A hA => rn_indexAddr sl_36 rfl rfl (by omega)) ?_
            refine wd_take 18 _ _ rfl (by kernel_rfl) hS (yd_yes rfl rfl fun A hA => rn_load p_3 rfl (((hL.ext hV (fun _ h => h)).ext hA (fun _ h => h.elim)).at0 (eI_at hi2) rfl)) ?_
            refine wd_take 19 _ _ rfl (by kernel_rfl) hS (yd_yes rfl rfl fun A hA => rn_lss rfl rfl) ?_
            refine wd_take 20 _ _ rfl (by kernel_rfl) hS (yd_do fun A hA => rn_pickF rfl (by conv => lhs; whnf)) ?_
            refine wd_take 21 _ _ rfl (by kernel_rfl) hS (yd_do fun A hA => rn_move (by conv => lhs; whnf)) ?_
            refine wd_split (d := 51) rfl (fun hg51 => ?_) (fun hg51 => ?_)
            · exact absurd (of_decide_eq_true hg51) (by omega)
            · refine wd_take 22 _ _ rfl (by kernel_rfl) hS (yd_yes rfl (congrArg Value.bool hg51) fun A hA => rn_move (by conv => lhs; whnf)) ?_
              refine wd_take 23 _ _ rfl (by kernel_rfl) hS (yd_yes rfl (congrArg Value.bool hg51) fun A hA => rn_move (by conv => lhs; whnf)) ?_
              refine wd_take 24 _ _ rfl (by kernel_rfl) hS (yd_yes rfl (congrArg Value.bool hg51) fun A hA => rn_indexAddr sl_36 rfl rfl (by omega)) ?_
              refine wd_take 25 _ _ rfl (by kernel_rfl) hS (yd_yes rfl (congrArg Value.bool hg51) fun A hA => rn_load p_3 rfl (((hL.ext hV (fun _ h => h)).ext hA (fun _ h => h.elim)).at0 (eI_at hi2) rfl)) ?_
              refine wd_take 26 _ _ rfl (by kernel_rfl) hS (yd_yes rfl (congrArg Value.bool hg51) fun A hA => rn_gtr rfl rfl) ?_
              refine wd_take 27 _ _ rfl (by kernel_rfl) hS (yd_do fun A hA => rn_pickF (congrArg Value.bool hg51) (by conv => lhs; whnf)) ?_
              refine wd_done (by kernel_rfl) ?_ _
              replace hX := hX.tr hS
              replace hV := hV.tr hS
              refine W_cond rfl (fun hc3 => ?_) (fun hc3 => ?_)
              · exact absurd (of_decide_eq_true hc3) (by omega)
              · refine W_skip ?_
                refine W_seq ?_
                refine W_region ?_
                refine wl_val (rn_assign (by conv => lhs; whnf)) ?_
                refine wl_nil ?_
                refine W_seq ?_
                refine W_seq ?_
                refine W_region ?_
                refine wl_val (rn_assign (by conv => lhs; whnf)) ?_
                refine wl_nil ?_
                refine W_block ?_   -- block 2
                refine W_loopS (S := Nat) [0, 1, 5, 6, 7, 8] (fun k => [.slice a st.length c, .slice a2 subs.length c2, .slice (some ⟨bL, oL, none⟩) (planOf st (ofL subs)).length cL, .int .i64 (i : Nat), .bool (ask1 y (st.take k)), .int .i64 (k : Nat)]) (fun k A => (Ext Non w A) ∧ (Ext Non w3 A ∧ k ≤ st.length)) (fun k => st.length - k) 0 ⟨rfl, rfl, rfl, rfl, rfl, rfl, trivial⟩ ⟨hX, ⟨hV, Nat.zero_le _⟩⟩ ?_
                rintro τ1 k A1 ⟨hX, hI1⟩
                obtain ⟨hV, hkl⟩ := hI1
                refine W_seq ?_
                refine W_seq ?_
                refine W_region ?_
                refine wl_val (rn_move (by conv => lhs; whnf)) ?_
                refine wl_val (rn_move (by conv => lhs; whnf)) ?_
                refine wl_val (rn_len sl_36 rfl) ?_
                refine wl_val (rn_lss rfl rfl) ?_
                refine wl_nil ?_
                refine W_cond rfl (fun hc4 => ?_) (fun hc4 => ?_)
                · have hkt := of_decide_eq_true hc4; simp only [Int.ofNat_lt] at hkt
                  obtain ⟨z, hkz⟩ : ∃ z, st[k]? = some z := ⟨_, List.getElem?_eq_getElem hkt⟩
                  obtain ⟨bs, os, eas⟩ := hs.base (by intro e; have := congrArg List.length e; simp only [List.length_map, List.length_nil] at this; omega); subst eas
                  have hak : ask1 y (st.take (k + 1)) = (ask1 y (st.take k) || (decide (z = y) && decide (y < 4))) := any_take hkz
                  refine W_skip ?_
                  refine W_seq ?_
                  refine W_block ?_   -- block 3
                  refine W_drawE mixed ?_; intro w8 hE8
                  replace hX := hX.tr hE8
                  replace hV := hV.tr hE8
                  have hS := Ext.refl Non w8
                  refine wd_take 0 _ _ rfl (by kernel_rfl) hS (yd_do fun A hA => rn_move (by conv => lhs; whnf)) ?_
                  refine wd_take 1 _ _ rfl (by kernel_rfl) hS (yd_do fun A hA => rn_move (by conv => lhs; whnf)) ?_
                  refine wd_split (d := 65) rfl (fun hg65 => ?_) (fun hg65 => ?_)
                  · refine wd_take 2 _ _ rfl (by kernel_rfl) hS (yd_no rfl (congrArg Value.bool hg65)) ?_
                    refine wd_take 3 _ _ rfl (by kernel_rfl) hS (yd_no rfl (congrArg Value.bool hg65)) ?_
                    refine wd_take 4 _ _ rfl (by kernel_rfl) hS (yd_no rfl (congrArg Value.bool hg65)) ?_
                    refine wd_take 5 _ _ rfl (by kernel_rfl) hS (yd_no rfl (congrArg Value.bool hg65)) ?_
                    refine wd_take 6 _ _ rfl (by kernel_rfl) hS (yd_no rfl (congrArg Value.bool hg65)) ?_
                    refine wd_take 7 _ _ rfl (by kernel_rfl) hS (yd_no rfl (congrArg Value.bool hg65)) ?_
                    refine wd_take 8 _ _ rfl (by kernel_rfl) hS (yd_no rfl (congrArg Value.bool hg65)) ?_
                    refine wd_take 9 _ _ rfl (by kernel_rfl) hS (yd_no rfl (congrArg Value.bool hg65)) ?_
                    refine wd_take 10 _ _ rfl (by kernel_rfl) hS (yd_no rfl (congrArg Value.bool hg65)) ?_
                    refine wd_take 11 _ _ rfl (by kernel_rfl) hS (yd_no rfl (congrArg Value.bool hg65)) ?_
                    refine wd_take 12 _ _ rfl (by kernel_rfl) hS (yd_nou rfl rfl) ?_
                    refine wd_take 13 _ _ rfl (by kernel_rfl) hS (yd_nou rfl rfl) ?_
                    refine wd_take 14 _ _ rfl (by kernel_rfl) hS (yd_nou rfl rfl) ?_
                    refine wd_take 15 _ _ rfl (by kernel_rfl) hS (yd_nou rfl rfl) ?_
                    refine wd_take 16 _ _ rfl (by kernel_rfl) hS (yd_nou rfl rfl) ?_
                    refine wd_take 17 _ _ rfl (by kernel_rfl) hS (yd_no rfl (congrArg Value.bool hg65)) ?_
                    refine wd_take 18 _ _ rfl (by kernel_rfl) hS (yd_do fun A hA => rn_pickT (congrArg Value.bool hg65) (by conv => lhs; whnf)) ?_
                    refine wd_take 19 _ _ rfl (by kernel_rfl) hS (yd_do fun A hA => rn_assign (by conv => lhs; whnf)) ?_
                    refine wd_done (by kernel_rfl) ?_ _
                    replace hX := hX.tr hS
                    replace hV := hV.tr hS
                    refine W_region ?_
                    refine wl_val (rn_move (by conv => lhs; whnf)) ?_
                    refine wl_val (rn_add rfl rfl (by omega)) ?_
                    refine wl_val (rn_assign (by conv => lhs; whnf)) ?_
                    refine wl_nil ?_
                    
                    exact ⟨rfl, k + 1, ⟨rfl, rfl, rfl, rfl, (congrArg Value.bool (show true = ask1 y (st.take (k + 1)) by rw [hak, hg65]; rfl)), rfl, trivial⟩, ⟨hX, ⟨hV, hkt⟩⟩, by omega⟩
                  · refine wd_take 2 _ _ rfl (by kernel_rfl) hS (yd_yes rfl (congrArg Value.bool hg65) fun A hA => rn_move (by conv => lhs; whnf)) ?_
                    refine wd_take 3 _ _ rfl (by kernel_rfl) hS (yd_yes rfl (congrArg Value.bool hg65) fun A hA => rn_move (by conv => lhs; whnf)) ?_
                    refine wd_take 4 _ _ rfl (by kernel_rfl) hS (yd_yes rfl (congrArg Value.bool hg65) fun A hA => rn_indexAddr sl_36 rfl rfl (by omega)) ?_
                    refine wd_take 5 _ _ rfl (by kernel_rfl) hS (yd_yes rfl (congrArg Value.bool hg65) fun A hA => rn_load p_3 rfl (((hs.ext hX (fun _ h => h)).ext hA (fun _ h => h.elim)).at0 (eI_at hkz) rfl)) ?_
                    refine wd_take 6 _ _ rfl (by kernel_rfl) hS (yd_yes rfl (congrArg Value.bool hg65) fun A hA => rn_move (by conv => lhs; whnf)) ?_
                    refine wd_take 7 _ _ rfl (by kernel_rfl) hS (yd_yes rfl (congrArg Value.bool hg65) fun A hA => rn_move (by conv => lhs; whnf)) ?_
                    refine wd_take 8 _ _ rfl (by kernel_rfl) hS (yd_yes rfl (congrArg Value.bool hg65) fun A hA => rn_indexAddr sl_36 rfl rfl (by omega)) ?_
                    refine wd_take 9 _ _ rfl (by kernel_rfl) hS (yd_yes rfl (congrArg Value.bool hg65) fun A hA => rn_load p_3 rfl (((hL.ext hV (fun _ h => h)).ext hA (fun _ h => h.elim)).at0 (eI_at hi2) rfl)) ?_
                    refine wd_take 10 _ _ rfl (by kernel_rfl) hS (yd_yes rfl (congrArg Value.bool hg65) fun A hA => rn_eql rfl rfl) ?_
                    refine wd_take 11 _ _ rfl (by kernel_rfl) hS (yd_yes rfl (congrArg Value.bool hg65) fun A hA => rn_move (by conv => lhs; whnf)) ?_
                    refine wd_split (d := 75) rfl (fun hg75 => ?_) (fun hg75 => ?_)
                    · refine wd_take 12 _ _ rfl (by kernel_rfl) hS (yd_yes rfl (congrArg Value.bool hg75) fun A hA => rn_move (by conv => lhs; whnf)) ?_
                      refine wd_take 13 _ _ rfl (by kernel_rfl) hS (yd_yes rfl (congrArg Value.bool hg75) fun A hA => rn_move (by conv => lhs; whnf)) ?_
                      refine wd_take 14 _ _ rfl (by kernel_rfl) hS (yd_yes rfl (congrArg Value.bool hg75) fun A hA => rn_indexAddr sl_36 rfl rfl (by omega)) ?_
                      refine wd_take 15 _ _ rfl (by kernel_rfl) hS (yd_yes rfl (congrArg Value.bool hg75) fun A hA => rn_load p_3 rfl (((hL.ext hV (fun _ h => h)).ext hA (fun _ h => h.elim)).at0 (eI_at hi2) rfl)) ?_
                      refine wd_take 16 _ _ rfl (by kernel_rfl) hS (yd_yes rfl (congrArg Value.bool hg75) fun A hA => rn_lss rfl rfl) ?_
                      refine wd_take 17 _ _ rfl (by kernel_rfl) hS (yd_yes rfl (congrArg Value.bool hg65) fun A hA => rn_pickT (congrArg Value.bool hg75) (by conv => lhs; whnf)) ?_
                      refine wd_take 18 _ _ rfl (by kernel_rfl) hS (yd_do fun A hA => rn_pickF (congrArg Value.bool hg65) (by conv => lhs; whnf)) ?_
                      refine wd_take 19 _ _ rfl (by kernel_rfl) hS (yd_do fun A hA => rn_assign (by conv => lhs; whnf)) ?_
                      refine wd_done (by kernel_rfl) ?_ _
                      replace hX := hX.tr hS
                      replace hV := hV.tr hS
                      refine W_region ?_
                      refine wl_val (rn_move (by conv => lhs; whnf)) ?_
                      refine wl_val (rn_add rfl rfl (by omega)) ?_
                      refine wl_val (rn_assign (by conv => lhs; whnf)) ?_
                      refine wl_nil ?_
                      
                      exact ⟨rfl, k + 1, ⟨rfl, rfl, rfl, rfl, (congrArg Value.bool (show decide (y < 4) = ask1 y (st.take (k + 1)) by rw [hak, hg65, hg75]; rfl)), rfl, trivial⟩, ⟨hX, ⟨hV, hkt⟩⟩, by omega⟩
                    · refine wd_take 12 _ _ rfl (by kernel_rfl) hS (yd_no rfl (congrArg Value.bool hg75)) ?_
                      refine wd_take 13 _ _ rfl (by kernel_rfl) hS (yd_no rfl (congrArg Value.bool hg75)) ?_
                      refine wd_take 14 _ _ rfl (by kernel_rfl) hS (yd_no rfl (congrArg Value.bool hg75)) ?_
                      refine wd_take 15 _ _ rfl (by kernel_rfl) hS (yd_no rfl (congrArg Value.bool hg75)) ?_
                      refine wd_take 16 _ _ rfl (by kernel_rfl) hS (yd_no rfl (congrArg Value.bool hg75)) ?_
                      refine wd_take 17 _ _ rfl (by kernel_rfl) hS (yd_yes rfl (congrArg Value.bool hg65) fun A hA => rn_pickF (congrArg Value.bool hg75) (by conv => lhs; whnf)) ?_
                      refine wd_take 18 _ _ rfl (by kernel_rfl) hS (yd_do fun A hA => rn_pickF (congrArg Value.bool hg65) (by conv => lhs; whnf)) ?_
                      refine wd_take 19 _ _ rfl (by kernel_rfl) hS (yd_do fun A hA => rn_assign (by conv => lhs; whnf)) ?_
                      refine wd_done (by kernel_rfl) ?_ _
                      replace hX := hX.tr hS
                      replace hV := hV.tr hS
                      refine W_region ?_
                      refine wl_val (rn_move (by conv => lhs; whnf)) ?_
                      refine wl_val (rn_add rfl rfl (by omega)) ?_
                      refine wl_val (rn_assign (by conv => lhs; whnf)) ?_
                      refine wl_nil ?_
                      
                      exact ⟨rfl, k + 1, ⟨rfl, rfl, rfl, rfl, (congrArg Value.bool (show false = ask1 y (st.take (k + 1)) by rw [hak, hg65, hg75]; rfl)), rfl, trivial⟩, ⟨hX, ⟨hV, hkt⟩⟩, by omega⟩
                · have hke := of_decide_eq_false hc4; simp only [Int.ofNat_lt, Nat.not_lt] at hke
                  have htl : st.take k = st := List.take_of_length_le hke
                  refine W_exit ?_   -- exit 2
                  refine W_seq ?_
                  refine W_seq ?_
                  refine W_region ?_
                  refine wl_val (rn_assign (by conv => lhs; whnf)) ?_
                  refine wl_nil ?_
                  refine W_block ?_   -- block 4
                  refine W_loopS (S := Nat) [0, 1, 5, 6, 7, 9] (fun k => [.slice a st.length c, .slice a2 subs.length c2, .slice (some ⟨bL, oL, none⟩) (planOf st (ofL subs)).length cL, .int .i64 (i : Nat), .bool (ask1 y st || ask2 y (subs.take k)), .int .i64 (k : Nat)]) (fun k A => (Ext Non w A) ∧ (Ext Non w3 A ∧ k ≤ subs.length)) (fun k => subs.length - k) 0 ⟨rfl, rfl, rfl, rfl, (congrArg Value.bool (show ask1 y (st.take k) = (ask1 y st || ask2 y (subs.take 0)) by rw [htl]; simp [ask2])), rfl, trivial⟩ ⟨hX, ⟨hV, Nat.zero_le _⟩⟩ ?_
                  rintro τ2 k A2 ⟨hX, hI2⟩
                  obtain ⟨hV, hkl⟩ := hI2
                  refine W_seq ?_
                  refine W_seq ?_
                  refine W_region ?_
                  refine wl_val (rn_move (by conv => lhs; whnf)) ?_
                  refine wl_val (rn_move (by conv => lhs; whnf)) ?_
                  refine wl_val (rn_len sl_36 rfl) ?_
                  refine wl_val (rn_lss rfl rfl) ?_
                  refine wl_nil ?_
                  refine W_cond rfl (fun hc5 => ?_) (fun hc5 => ?_)
                  · have hkt := of_decide_eq_true hc5; simp only [Int.ofNat_lt] at hkt
                    obtain ⟨z, hkz⟩ : ∃ z, subs[k]? = some z := ⟨_, List.getElem?_eq_getElem hkt⟩
                    obtain ⟨bt, ot, eat⟩ := ht.base (by intro e; have := congrArg List.length e; simp only [List.length_map, List.length_nil] at this; omega); subst eat
                    have hak : ask2 y (subs.take (k + 1)) = (ask2 y (subs.take k) || decide (queueOf z = y)) := any_take hkz
                    refine W_skip ?_
                    refine W_seq ?_
                    refine W_block ?_   -- block 5
                    refine W_drawE mixed ?_; intro w9 hE9
                    replace hX := hX.tr hE9
                    replace hV := hV.tr hE9
                    have hS := Ext.refl Non w9
                    refine wd_take 0 _ _ rfl (by kernel_rfl) hS (yd_do fun A hA => rn_move (by conv => lhs; whnf)) ?_
                    refine wd_take 1 _ _ rfl (by kernel_rfl) hS (yd_do fun A hA => rn_move (by conv => lhs; whnf)) ?_
                    refine wd_split (d := 90) rfl (fun hg90 => ?_) (fun hg90 => ?_)
                    · refine wd_take 2 _ _ rfl (by kernel_rfl) hS (yd_no rfl (congrArg Value.bool hg90)) ?_
                      refine wd_take 3 _ _ rfl (by kernel_rfl) hS (yd_no rfl (congrArg Value.bool hg90)) ?_
                      refine wd_take 4 _ _ rfl (by kernel_rfl) hS (yd_no rfl (congrArg Value.bool hg90)) ?_
                      refine wd_take 5 _ _ rfl (by kernel_rfl) hS (yd_no rfl (congrArg Value.bool hg90)) ?_
                      refine wd_take 7 _ _ rfl (by kernel_rfl) hS (yd_no rfl (congrArg Value.bool hg90)) ?_
                      refine wd_take 8 _ _ rfl (by kernel_rfl) hS (yd_no rfl (congrArg Value.bool hg90)) ?_
                      refine wd_take 9 _ _ rfl (by kernel_rfl) hS (yd_no rfl (congrArg Value.bool hg90)) ?_
                      refine wd_take 10 _ _ rfl (by kernel_rfl) hS (yd_no rfl (congrArg Value.bool hg90)) ?_
                      refine wd_only 6 _ rfl (by kernel_rfl) ?_
                      refine s1_no rfl (congrArg Value.bool hg90) ⟨hS, ?_⟩
                      refine wd_take 11 _ _ rfl (by kernel_rfl) hS (yd_no rfl (congrArg Value.bool hg90)) ?_
                      refine wd_take 12 _ _ rfl (by kernel_rfl) hS (yd_do fun A hA => rn_pickT (congrArg Value.bool hg90) (by conv => lhs; whnf)) ?_
                      refine wd_take 13 _ _ rfl (by kernel_rfl) hS (yd_do fun A hA => rn_assign (by conv => lhs; whnf)) ?_
                      refine wd_done (by kernel_rfl) ?_ _
                      replace hX := hX.tr hS
                      replace hV := hV.tr hS
                      refine W_region ?_
                      refine wl_val (rn_move (by conv => lhs; whnf)) ?_
                      refine wl_val (rn_add rfl rfl (by omega)) ?_
                      refine wl_val (rn_assign (by conv => lhs; whnf)) ?_
                      refine wl_nil ?_
                      
                      exact ⟨rfl, k + 1, ⟨rfl, rfl, rfl, rfl, (congrArg Value.bool (show true = (ask1 y st || ask2 y (subs.take (k + 1))) by rw [hak, ← Bool.or_assoc, hg90]; rfl)), rfl, trivial⟩, ⟨hX, ⟨hV, hkt⟩⟩, by omega⟩
                    · refine wd_take 2 _ _ rfl (by kernel_rfl) hS (yd_yes rfl (congrArg Value.bool hg90) fun A hA => rn_move (by conv => lhs; whnf)) ?_
                      refine wd_take 3 _ _ rfl (by kernel_rfl) hS (yd_yes rfl (congrArg Value.bool hg90) fun A hA => rn_move (by conv => lhs; whnf)) ?_
                      refine wd_take 4 _ _ rfl (by kernel_rfl) hS (yd_yes rfl (congrArg Value.bool hg90) fun A hA => rn_indexAddr sl_36 rfl rfl (by omega)) ?_
                      refine wd_take 5 _ _ rfl (by kernel_rfl) hS (yd_yes rfl (congrArg Value.bool hg90) fun A hA => rn_load p_3 rfl (((ht.ext hX (fun _ h => h)).ext hA (fun _ h => h.elim)).at0 (eI_at hkz) rfl)) ?_
                      refine wd_take 7 _ _ rfl (by kernel_rfl) hS (yd_yes rfl (congrArg Value.bool hg90) fun A hA => rn_move (by conv => lhs; whnf)) ?_
                      refine wd_take 8 _ _ rfl (by kernel_rfl) hS (yd_yes rfl (congrArg Value.bool hg90) fun A hA => rn_move (by conv => lhs; whnf)) ?_
                      refine wd_take 9 _ _ rfl (by kernel_rfl) hS (yd_yes rfl (congrArg Value.bool hg90) fun A hA => rn_indexAddr sl_36 rfl rfl (by omega)) ?_
                      refine wd_take 10 _ _ rfl (by kernel_rfl) hS (yd_yes rfl (congrArg Value.bool hg90) fun A hA => rn_load p_3 rfl (((hL.ext hV (fun _ h => h)).ext hA (fun _ h => h.elim)).at0 (eI_at hi2) rfl)) ?_
                      refine wd_only 6 _ rfl (by kernel_rfl) ?_
                      refine s1_yes rfl (congrArg Value.bool hg90) ?_
                      refine wl_call e_58 rfl (queue_ok w9 z) ?_; intro v95 w10 hE10 hR10
                      replace hS := hS.tr hE10
                      subst hR10
                      refine wl_nil ⟨hS, ?_⟩
                      refine wd_take 11 _ _ rfl (by kernel_rfl) hS (yd_yes rfl (congrArg Value.bool hg90) fun A hA => rn_eql rfl rfl) ?_
                      refine wd_take 12 _ _ rfl (by kernel_rfl) hS (yd_do fun A hA => rn_pickF (congrArg Value.bool hg90) (by conv => lhs; whnf)) ?_
                      refine wd_take 13 _ _ rfl (by kernel_rfl) hS (yd_do fun A hA => rn_assign (by conv => lhs; whnf)) ?_
                      refine wd_done (by kernel_rfl) ?_ _
                      replace hX := hX.tr hS
                      replace hV := hV.tr hS
                      refine W_region ?_
                      refine wl_val (rn_move (by conv => lhs; whnf)) ?_
                      refine wl_val (rn_add rfl rfl (by omega)) ?_
                      refine wl_val (rn_assign (by conv => lhs; whnf)) ?_
                      refine wl_nil ?_
                      
                      exact ⟨rfl, k + 1, ⟨rfl, rfl, rfl, rfl, (congrArg Value.bool (show decide (queueOf z = y) = (ask1 y st || ask2 y (subs.take (k + 1))) by rw [hak, ← Bool.or_assoc, hg90]; rfl)), rfl, trivial⟩, ⟨hX, ⟨hV, hkt⟩⟩, by omega⟩
                  · refine W_exit ?_   -- exit 4
                    refine W_seq ?_
                    refine W_region ?_
                    refine wl_val (rn_move (by conv => lhs; whnf)) ?_
                    refine wl_val (rn_not rfl) ?_
                    refine wl_nil ?_
                    refine W_cond rfl (fun hc6 => ?_) (fun hc6 => ?_)
                    · exact absurd hc6 (by have hk := of_decide_eq_false hc5; rw [List.take_of_length_le (by omega), asked_all hymem]; simp)
                    · refine W_skip ?_
                      refine W_region ?_
                      refine wl_val (rn_move (by conv => lhs; whnf)) ?_
                      refine wl_val (rn_add rfl rfl (by omega)) ?_
                      refine wl_val (rn_assign (by conv => lhs; whnf)) ?_
                      refine wl_nil ?_
                      exact ⟨rfl, i + 1, ⟨rfl, rfl, rfl, rfl, trivial⟩, ⟨hX, ⟨hV, hlt⟩⟩, by omega⟩
        · refine W_exit ?_   -- exit 0
          refine W_seq ?_
          refine W_region ?_
          refine wl_val (rn_assign (by conv => lhs; whnf)) ?_
          refine wl_nil ?_
          refine W_ret ?_
          exact ⟨_, resR1 (res1_tmp rfl), hX, rfl⟩
end Go.Proofs.YtfdfphaiefbflaaC
