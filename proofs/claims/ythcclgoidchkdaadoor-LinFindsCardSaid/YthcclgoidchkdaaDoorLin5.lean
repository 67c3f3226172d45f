/- Layer 8: counting all ways. -/
import Derived.Test.YthcclgoidchkdaaDoorLin4
set_option linter.unusedVariables false
set_option linter.unusedSimpArgs false
set_option maxRecDepth 100000
namespace Go.Proofs.YthcclgoidchkdaaDoorC
open Go.RowKit
theorem FH.fresh {w w' : World} {B : Nat} {l : List CallD} {done : List Bool} {way : List Nat} {s : StD} {vl vw : Value} {ow : Option Nat} {b bd bm f : Nat} {M : Nat → Prop} (h : FH w B l done way s vl vw ow b bd bm f) (hE : Ext M w w') (hM : ∀ i, M i → w.heap.size ≤ i ∨ (¬ Ms b bd ow Non i ∧ B ≤ i)) : FH w' B l done way s vl vw ow b bd bm f := by
  have hb := h.low b (.inl rfl)
  refine ⟨h.srch.ext hE (fun hm => ?_) (fun hm => ?_) (fun j hj hm => ?_), h.hl.ext hE (fun i hi => ?_), h.len, h.dlen, h.wl, h.und, h.bound, h.pay, h.slot, fun i hi => ⟨(h.low i hi).1, Nat.lt_of_lt_of_le (h.low i hi).2 hE.size⟩⟩
  · rcases hM _ hm with q | q; omega; exact q.1 (.inl rfl)
  · have := (h.low bd (.inr (.inl rfl))).2
    rcases hM _ hm with q | q; omega; exact q.1 (.inr (.inl rfl))
  · have := h.srch.wy.lt hj
    rcases hM _ hm with q | q; omega; exact q.1 (.inr (.inr (.inl hj)))
  · rcases hM _ hi with q | q; omega; exact q.2
theorem alls_small {l : List CallD} {f : Nat} (done : List Bool) (s : StD) (hl : l.length ≤ 7) (hf : f ≤ 7) : (alls l f done s).length ≤ 823543 := by
  have h1 := alls_len l f done s
  have h2 : l.length ^ f ≤ 7 ^ f := Nat.pow_le_pow_left hl f
  have h3 : 7 ^ f ≤ 7 ^ 7 := Nat.pow_le_pow_right (by decide) hf
  have h4 : (7 : Nat) ^ 7 = 823543 := by decide
  omega
theorem cntP_small {l : List CallD} {f : Nat} (done : List Bool) (s : StD) {p : List Nat} (hl : l.length ≤ 7) (hf : f ≤ 7) (hp : p.length ≤ 7) : cntP l f done s p ≤ 7 * 823543 := by
  have h1 := flat_le (fun i => match stepB l s i with | some s' => (alls l f (done.set i true) s').map (i :: ·) | none => []) 823543 p (fun i _ => by
    cases stepB l s i with
    | none => simp
    | some s' => simp only [List.length_map]; exact alls_small _ _ hl hf)
  exact Nat.le_trans h1 (Nat.mul_le_mul_right 823543 hp)
-- (*bellman/lin.search[bellman/bellmanref08.State]).count$1
set_option maxHeartbeats 2000000 in
theorem count1_ok (w : World) (f : Nat) (ih : CountOk f) (B : Nat) (l : List CallD) (done : List Bool) (way : List Nat) (s : StD) (vl vw : Value) (ow : Option Nat) (b0 bd bm : Nat) (hH : FH w B l done way s vl vw ow b0 bd bm f) (hl7 : l.length ≤ 7) (b1 b2 n : Nat) (hB1 : IsBox w b1 [.int .i64 (n : Nat)]) (hB2 : IsBox w b2 [.pointer (some ⟨b0, 0, none⟩)]) (hF1 : ¬ Ms b0 bd ow Non b1) (hF2 : ¬ Ms b0 bd ow Non b2) (hn12 : b1 ≠ b2) (hn : n ≤ 100000000) : FnM Tryd.prog (Ms b0 bd ow (fun i => i = b1 ∨ i = b2)) 120 #[.agg s.enc.toArray, .pointer (some ⟨b1, 0, none⟩), .pointer (some ⟨b2, 0, none⟩)] w fun u w' => u = .bool false ∧ IsBox w' b1 [.int .i64 (n + (alls l f done s).length : Nat)] ∧ IsBox w' b2 [.pointer (some ⟨b0, 0, none⟩)] ∧ ∃ vw' ow', Srch w' b0 bd bm vl done way vw' ow' ∧ Fr ow w.heap.size ow' := by
  have hz1 := hB1.lt; have hz2 := hB2.lt; have hz0 := hH.srch.box.lt; have hzd := hH.srch.dn.box.lt
  have hwy : ∀ j, ow = some j → j < w.heap.size := fun j hj => hH.srch.wy.lt hj
  have hwl := hH.wl
  have hal := alls_small done s hl7 (f := f) (by omega)
  have hl1 : Mine (Ms b0 bd ow (fun i => i = b1 ∨ i = b2)) w b1 := .inl (.inr (.inr (.inr (.inl rfl))))
  have hX := Ext.refl (Ms b0 bd ow (fun i => i = b1 ∨ i = b2)) w
  refine fnM_of_W (args := [_, _, _]) Tryd.func120 rfl (by kernel_rfl) rfl ?_
  refine W_seq ?_
  refine W_region ?_
  refine wl_boxS rfl ?_; intro b3 w1 hb3 hE1 hB3
  have hn1_3 : b1 < b3 := Nat.lt_of_lt_of_le hB1.lt hb3
  have hn2_3 : b2 < b3 := Nat.lt_of_lt_of_le hB2.lt hb3
  have hq3 : w.heap.size ≤ b3 := Nat.le_trans hX.size hb3
  have hl3 : Mine (Ms b0 bd ow (fun i => i = b1 ∨ i = b2)) w b3 := .inr hq3
  have hF3 : ¬ Ms b0 bd ow Non b3 := fun h => by rcases h with h | h | h | h; omega; omega; have := hwy _ h; omega; exact h
  replace hX := hX.tr hE1
  replace hB1 := hB1.ext hE1 id; replace hB2 := hB2.ext hE1 id
  replace hH := hH.non hE1
  refine wl_val (rn_assign (by conv => lhs; whnf)) ?_
  refine wl_nil ?_
  refine W_seq ?_
  refine W_drawXF (Ms b0 bd ow Non) (fun j => j == 5) mixed ?_; intro w2 hE2
  replace hX := hX.tr hE2
  replace hB1 := hB1.ext hE2 id; replace hB2 := hB2.ext hE2 id; replace hB3 := hB3.ext hE2 id
  replace hH := hH.non hE2
  have hS := Ext.refl (Ms b0 bd ow Non) w2
  refine wx_take 0 [4, 5] _ _ rfl (by kernel_rfl) hS (yd_do fun A hA => rn_load1 p_3 rfl (hB1.ext hA hF1) rfl) ?_
  refine wx_take 1 [3, 4, 5] _ _ rfl (by kernel_rfl) hS (yd_do fun A hA => rn_load1 p_114 rfl (hB2.ext hA hF2) rfl) ?_
  refine wx_take 2 [3, 4, 5] _ _ rfl (by kernel_rfl) hS (yd_do fun A hA => rn_loadB s_27 rfl rfl (hB3.ext hA hF3)) ?_
  refine wx_only 3 _ rfl (by kernel_rfl) ?_
  refine s1_do ?_
  have hszX := hX.size
  refine wl_callM e_72 rfl (ih w2 B l done way s vl vw ow b0 bd bm hH hl7) ?_; rintro v8 w3 hE3 ⟨rfl, vw2, ow2, hS2, hw2⟩
  replace hS := hS.trans hE3
  refine wl_nil ⟨fun _ => hS, ?_⟩
  refine wx_take 4 [5] _ _ rfl (by kernel_rfl) hS (yd_do fun A hA => rn_add rfl rfl (by omega)) ?_
  replace hX := hX.own2 hS (fun i h => .inl (by rcases h with h | h | h | h; exact .inl h; exact .inr (.inl h); exact .inr (.inr (.inl h)); exact h.elim))
  replace hB1 := hB1.ext hS hF1; replace hB2 := hB2.ext hS hF2; replace hB3 := hB3.ext hS hF3
  refine wx_only 5 _ rfl (by kernel_rfl) ?_
  refine s1_do ?_
  have hBo := hB1
  refine wl_store1 (b := b1) p_3 rfl (by conv => lhs; whnf) rfl rfl hB1 (Nat.le_of_ble_eq_true rfl) ?_; intro w4 hE4 hB1 hz4
  replace hX := hX.mine hE4 hl1
  replace hB2 := hB2.ext hE4 (fun h => by omega); replace hB3 := hB3.ext hE4 (fun h => by omega)
  replace hS2 := hS2.ext hE4 (fun e => hF1 (.inl e.symm)) (fun e => hF1 (.inr (.inl e.symm))) (fun j hj e => by rcases hw2 j hj with q | q; exact hF1 (.inr (.inr (.inl (e ▸ q)))); omega)
  refine wl_nil ⟨fun h => absurd h (by decide), ?_⟩
  refine wx_done (by kernel_rfl) ?_ _
  refine W_seq ?_
  refine W_region ?_
  refine wl_val (rn_assign (by conv => lhs; whnf)) ?_
  refine wl_nil ?_
  refine W_ret ?_
  exact ⟨_, resR1 (res1_tmp rfl), hX, ⟨rfl, hB1.cast (by push_cast; rfl), hB2, vw2, ow2, hS2, fun j hj => by rcases hw2 j hj with q | q; exact .inl q; exact .inr (by omega)⟩⟩
/-- The calls that may come next, by counting. -/
theorem count_each {f : Nat} (ih : CountOk f) (w : World) (B : Nat) (l : List CallD) (done : List Bool) (way : List Nat) (s : StD) (vl vw : Value) (ow : Option Nat) (b bd bm : Nat) (hH : FH w B l done way s vl vw ow b bd bm (f + 1)) (hl7 : l.length ≤ 7) (b5 b2 : Nat) (hB5 : IsBox w b5 [.int .i64 0]) (hB2 : IsBox w b2 [.pointer (some ⟨b, 0, none⟩)])
    (hF5 : ¬ Ms b bd ow Non b5) (hF2 : ¬ Ms b bd ow Non b2) (h52 : b5 ≠ b2) (hm5 : b5 ≠ bm) (hm2 : b2 ≠ bm) (h5B : B ≤ b5) (h2B : B ≤ b2) :
    FnM Tryd.prog (Ms b bd ow (fun i => i = b5 ∨ i = b2)) 115 #[.pointer (some ⟨b, 0, none⟩), .agg s.enc.toArray, .func (.func 120) #[] #[.pointer (some ⟨b5, 0, none⟩), .pointer (some ⟨b2, 0, none⟩)]] w fun u w' =>
      IsBox w' b5 [.int .i64 ((alls l (f + 1) done s).length : Nat)] ∧ ∃ vw' ow', Srch w' b bd bm vl done way vw' ow' ∧ Fr ow w.heap.size ow' := by
  have hwl := hH.wl
  have hlen := hH.len
  have hz5 := hB5.lt; have hz2 := hB2.lt
  have hlb := hH.low b (.inl rfl)
  have hml := mini_len l done
  refine (each_ok w l done way s ow B b bd bm (fun i => i = b5 ∨ i = b2) 120 #[] #[.pointer (some ⟨b5, 0, none⟩), .pointer (some ⟨b2, 0, none⟩)] (fun p A => IsBox A b5 [.int .i64 (cntP l f done s p : Nat)] ∧ IsBox A b2 [.pointer (some ⟨b, 0, none⟩)])
    (fun _ _ _ _ => False) e_120 hH.srch hH.hl (fun i hi => ?_) (fun i hi => ?_) (hH.low bm (.inr (.inr (.inr rfl)))).2 hlen hH.dlen (by omega) hH.bnd ?_ ?_ ?_ ?_).mono ?_
  · rcases hi with h | h | h | h | h
    · exact hH.low i (.inl h)
    · exact hH.low i (.inr (.inl h))
    · exact hH.low i (.inr (.inr (.inl h)))
    · subst h; exact ⟨h5B, hz5⟩
    · subst h; exact ⟨h2B, hz2⟩
  · rcases hi with h | h
    · subst h; exact ⟨hz5, fun e => hF5 (.inl e), fun e => hF5 (.inr (.inl e)), fun e => hF5 (.inr (.inr (.inl e)))⟩
    · subst h; exact ⟨hz2, fun e => hF2 (.inl e), fun e => hF2 (.inr (.inl e)), fun e => hF2 (.inr (.inr (.inl e)))⟩
  · rintro p i q s' A vw' ow' hm hs ⟨hA5, hA2⟩ hE ho hS
    have hi : i ∈ mini l done := by rw [hm]; simp
    have hN := hH.next hi hs hE (fun j hj => by rcases hj with h | h <;> subst h <;> assumption) ho hS
    have hF : ∀ k, k < w.heap.size → ¬ Ms b bd ow Non k → ¬ Ms b bd ow' Non k := fun k hk hn h => by
      rcases h with h | h | h | h
      · exact hn (.inl h)
      · exact hn (.inr (.inl h))
      · rcases ho k h with q | q
        · exact hn (.inr (.inr (.inl q)))
        · omega
      · exact h
    have hpl : p.length ≤ 7 := by have := congrArg List.length hm; simp only [List.length_append, List.length_cons] at this; omega
    have hcs := cntP_small done s (p := p) hl7 (f := f) (by omega) hpl
    rw [arr3]
    refine (count1_ok A f ih B l (done.set i true) (way ++ [i]) s' vl vw' ow' b bd bm hN hl7 b5 b2 (cntP l f done s p) hA5 hA2 (hF _ hz5 hF5) (hF _ hz2 hF2) h52 (by omega)).mono ?_
    rintro v B' hE' ⟨rfl, h1, h2, v', o', h3, h4⟩
    refine ⟨false, rfl, fun h => (by cases h), fun _ => ⟨⟨?_, h2⟩, v', o', h3, h4⟩⟩
    rw [cntP_snoc, hs]; exact h1
  · rintro p i q A hm hs ⟨hA5, hA2⟩
    refine ⟨?_, hA2⟩
    rw [cntP_snoc, hs]; exact hA5
  · rintro p A B' N ⟨hA5, hA2⟩ hE hN
    exact ⟨hA5.ext hE (fun h => hN _ h (.inl rfl)), hA2.ext hE (fun h => hN _ h (.inr rfl))⟩
  · exact ⟨hB5, hB2⟩
  · rintro v w' hE ⟨r, rfl, h1, h2⟩
    cases r with
    | true => obtain ⟨p, i, q, s', _, _, h⟩ := h1 rfl; exact h.elim
    | false =>
      obtain ⟨⟨h3, _⟩, v', o', h4, h5⟩ := h2 rfl
      rw [cntP_all] at h3
      exact ⟨h3, v', o', h4, h5⟩
-- (*bellman/lin.search[bellman/bellmanref08.State]).count
set_option maxHeartbeats 2000000 in
theorem count_step (w : World) (f : Nat) (ih : ∀ g, g < f → CountOk g) (B : Nat) (l : List CallD) (done : List Bool) (way : List Nat) (s : StD) (vl vw : Value) (ow : Option Nat) (b0 bd bm : Nat) (hH : FH w B l done way s vl vw ow b0 bd bm f) (hl7 : l.length ≤ 7) : FnM Tryd.prog (Ms b0 bd ow Non) 72 #[.pointer (some ⟨b0, 0, none⟩), .agg s.enc.toArray] w fun u w' => u = .int .i64 ((alls l f done s).length : Nat) ∧ ∃ vw' ow', Srch w' b0 bd bm vl done way vw' ow' ∧ Fr ow w.heap.size ow' := by
  obtain ⟨al, cl, rfl, _⟩ := hH.hl.len
  obtain ⟨aw, cw, hvw⟩ := id hH.srch.wy.len; subst hvw
  simp only [List.length_map] at hH ⊢
  have hwl := hH.wl
  have hz0 := hH.srch.box.lt; have hzd := hH.srch.dn.box.lt
  have hwy : ∀ j, ow = some j → j < w.heap.size := fun j hj => hH.srch.wy.lt hj
  have hlb := hH.low b0 (.inl rfl)
  have hlm := (hH.low bm (.inr (.inr (.inr rfl)))).2
  have hX := Ext.refl (Ms b0 bd ow Non) w
  refine fnM_of_W (args := [_, _]) Tryd.func72 rfl (by kernel_rfl) rfl ?_
  refine W_seq ?_
  refine W_region ?_
  refine wl_box1 (by conv => lhs; whnf) rfl ?_; intro b2 w1 hb2 hE1 hB2
  have hq2 : w.heap.size ≤ b2 := Nat.le_trans hX.size hb2
  have hl2 : Mine (Ms b0 bd ow Non) w b2 := .inr hq2
  have hF2 : ¬ Ms b0 bd ow Non b2 := fun h => by rcases h with h | h | h | h; omega; omega; have := hwy _ h; omega; exact h
  replace hX := hX.tr hE1
  replace hH := hH.non hE1
  refine wl_boxS rfl ?_; intro b3 w2 hb3 hE2 hB3
  have hn2_3 : b2 < b3 := Nat.lt_of_lt_of_le hB2.lt hb3
  have hq3 : w.heap.size ≤ b3 := Nat.le_trans hX.size hb3
  have hl3 : Mine (Ms b0 bd ow Non) w b3 := .inr hq3
  replace hX := hX.tr hE2
  replace hB2 := hB2.ext hE2 id
  replace hH := hH.non hE2
  refine wl_val (rn_assign (by conv => lhs; whnf)) ?_
  refine wl_nil ?_
  refine W_seq ?_
  refine W_seq ?_
  refine W_drawE mixed ?_; intro w3 hE3
  replace hX := hX.tr hE3
  replace hB2 := hB2.ext hE3 id; replace hB3 := hB3.ext hE3 id
  replace hH := hH.non hE3
  have hS := Ext.refl Non w3
  refine wd_take 0 _ _ rfl (by kernel_rfl) hS (yd_do fun A hA => rn_load1 p_114 rfl (hB2.ext hA id) rfl) ?_
  refine wd_take 1 _ _ rfl (by kernel_rfl) hS (yd_do fun A hA => rn_nilCheck rfl) ?_
  refine wd_take 2 _ _ rfl (by kernel_rfl) hS (yd_do fun A hA => rn_fieldAddr f_120_3 (by decide) rfl) ?_
  refine wd_take 3 _ _ rfl (by kernel_rfl) hS (yd_do fun A hA => rn_load1 p_39 rfl (hH.srch.box.ext hA id) rfl) ?_
  refine wd_take 4 _ _ rfl (by kernel_rfl) hS (yd_do fun A hA => rn_len sl_39 rfl) ?_
  refine wd_take 5 _ _ rfl (by kernel_rfl) hS (yd_do fun A hA => rn_load1 p_114 rfl (hB2.ext hA id) rfl) ?_
  refine wd_take 6 _ _ rfl (by kernel_rfl) hS (yd_do fun A hA => rn_nilCheck rfl) ?_
  refine wd_take 7 _ _ rfl (by kernel_rfl) hS (yd_do fun A hA => rn_fieldAddr f_120_1 (by decide) rfl) ?_
  refine wd_take 8 _ _ rfl (by kernel_rfl) hS (yd_do fun A hA => rn_load1 p_25 rfl (hH.srch.box.ext hA id) rfl) ?_
  refine wd_take 9 _ _ rfl (by kernel_rfl) hS (yd_do fun A hA => rn_len sl_25 rfl) ?_
  refine wd_take 10 _ _ rfl (by kernel_rfl) hS (yd_do fun A hA => rn_eql rfl rfl) ?_
  refine wd_done (by kernel_rfl) ?_ _
  replace hX := hX.tr hS
  replace hB2 := hB2.ext hS id; replace hB3 := hB3.ext hS id
  replace hH := hH.non hS
  refine W_cond rfl (fun hc0 => ?_) (fun hc0 => ?_)
  · have hf0 : f = 0 := by have := of_decide_eq_true hc0; omega
    subst hf0
    refine W_seq ?_
    refine W_region ?_
    refine wl_val (rn_assign (by conv => lhs; whnf)) ?_
    refine wl_nil ?_
    refine W_ret ?_
    exact ⟨_, resR1 (res1_tmp rfl), hX, ⟨rfl, _, ow, hH.srch, fun j hj => .inl hj⟩⟩
  · obtain ⟨g, hg⟩ : ∃ g, f = g + 1 := ⟨f - 1, by have := of_decide_eq_false hc0; omega⟩
    subst hg
    refine W_skip ?_
    refine W_seq ?_
    refine W_region ?_
    refine wl_alloc z_3 ?_; intro b5 w4 hb5 hE4 hB5
    have hn2_5 : b2 < b5 := Nat.lt_of_lt_of_le hB2.lt hb5
    have hn3_5 : b3 < b5 := Nat.lt_of_lt_of_le hB3.lt hb5
    have hq5 : w.heap.size ≤ b5 := Nat.le_trans hX.size hb5
    have hl5 : Mine (Ms b0 bd ow Non) w b5 := .inr hq5
    have hF5 : ¬ Ms b0 bd ow Non b5 := fun h => by rcases h with h | h | h | h; omega; omega; have := hwy _ h; omega; exact h
    replace hX := hX.tr hE4
    replace hB2 := hB2.ext hE4 id; replace hB3 := hB3.ext hE4 id
    replace hH := hH.non hE4
    have hBo := hB5
    refine wl_store1 (b := b5) p_3 rfl (by conv => lhs; whnf) rfl rfl hB5 (Nat.le_of_ble_eq_true rfl) ?_; intro w5 hE5 hB5 hz5
    replace hX := hX.mine hE5 hl5
    replace hB2 := hB2.ext hE5 (fun h => by omega); replace hB3 := hB3.ext hE5 (fun h => by omega)
    replace hH := hH.fresh hE5 (fun i e => by subst e; exact .inr ⟨hF5, by omega⟩)
    refine wl_nil ?_
    refine W_seq ?_
    refine W_region ?_
    refine wl_val (rn_load1 p_114 rfl hB2 rfl) ?_
    refine wl_val (rn_loadB s_27 rfl rfl hB3) ?_
    refine wl_val (rn_makeFunc rfl) ?_
    refine wl_callM e_115 rfl (count_each (ih g (by omega)) w5 B l done way s _ _ ow b0 bd bm hH hl7 b5 b2 hB5 hB2 hF5 hF2 (by omega) (by omega) (by omega) (by omega) (by omega)) ?_; rintro v20 w6 hE6 ⟨hB5, vw2, ow2, hS2, hw2⟩
    have hszX := hX.size
    replace hX := hX.own2 hE6 (fun i h => by rcases h with h | h | h | h | h; exact .inl (.inl h); exact .inl (.inr (.inl h)); exact .inl (.inr (.inr (.inl h))); exact .inr (by omega); exact .inr (by omega))
    refine wl_nil ?_
    refine W_seq ?_
    refine W_region ?_
    refine wl_val (rn_load1 p_3 rfl hB5 rfl) ?_
    refine wl_val (rn_assign (by conv => lhs; whnf)) ?_
    refine wl_nil ?_
    refine W_ret ?_
    exact ⟨_, resR1 (res1_tmp rfl), hX, ⟨rfl, vw2, ow2, hS2, fun j hj => by rcases hw2 j hj with q | q; exact .inl q; exact .inr (by omega)⟩⟩
theorem count_ok (f : Nat) : CountOk f := by
  induction f using Nat.strongRecOn with
  | _ f ih => exact fun w B l done way s vl vw ow b bd bm hH hl7 => count_step w f ih B l done way s vl vw ow b bd bm hH hl7
end Go.Proofs.YthcclgoidchkdaaDoorC
