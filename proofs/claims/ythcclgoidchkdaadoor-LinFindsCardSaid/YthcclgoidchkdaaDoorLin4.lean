/- Layer 8: finding the first way, counting all. -/
import Derived.Test.YthcclgoidchkdaaDoorLin3
set_option linter.unusedVariables false
set_option linter.unusedSimpArgs false
set_option maxRecDepth 100000
namespace Go.Proofs.YthcclgoidchkdaaDoorC
open Go.RowKit
theorem mp_sb : MapT Tryd.prog 118 9 4 (.bool false) := ⟨by kernel_rfl, by kernel_rfl, by kernel_rfl⟩
abbrev Gb (B : Nat) : Prop := ∃ g, Tryd.prog.globalNamed "internal/strconv.uint64pow10" = some g ∧ g < B
abbrev Fr (ow : Option Nat) (n : Nat) (ow' : Option Nat) : Prop := ∀ j, ow' = some j → ow = some j ∨ n ≤ j
/-- A way was found, or there is none. -/
def Fd (l : List CallD) (f : Nat) (done : List Bool) (way : List Nat) (s : StD) (vl : Value) (ow : Option Nat) (b bd bm n : Nat) (u : Value) (w' : World) : Prop :=
  ∃ r, u = .bool r ∧ (r = true → ∃ o rest done' vw' ow', alls l f done s = o :: rest ∧ Srch w' b bd bm vl done' (way ++ o) vw' ow') ∧
    (r = false → alls l f done s = [] ∧ ∃ vw' ow' ks', Srch w' b bd bm vl done way vw' ow' ∧ IsMp w' bm (kv ks') ∧ DeadOk l ks' ∧ Fr ow n ow')
def FindOk (f : Nat) : Prop := ∀ (w : World) (B : Nat) (l : List CallD) (done : List Bool) (way : List Nat) (s : StD) (vl vw : Value) (ow : Option Nat) (b bd bm : Nat) (ks : List Str),
  FH w B l done way s vl vw ow b bd bm f → IsMp w bm (kv ks) → DeadOk l ks → Tab w → Gb B →
  FnM Tryd.prog (Ms b bd ow (fun i => i = bm)) 65 #[.pointer (some ⟨b, 0, none⟩), .agg s.enc.toArray] w fun u w' => Fd l f done way s vl ow b bd bm w.heap.size u w'
def CountOk (f : Nat) : Prop := ∀ (w : World) (B : Nat) (l : List CallD) (done : List Bool) (way : List Nat) (s : StD) (vl vw : Value) (ow : Option Nat) (b bd bm : Nat),
  FH w B l done way s vl vw ow b bd bm f → l.length ≤ 7 →
  FnM Tryd.prog (Ms b bd ow Non) 72 #[.pointer (some ⟨b, 0, none⟩), .agg s.enc.toArray] w fun u w' => u = .int .i64 ((alls l f done s).length : Nat) ∧ ∃ vw' ow', Srch w' b bd bm vl done way vw' ow' ∧ Fr ow w.heap.size ow'
theorem FH.non {w w' : World} {B : Nat} {l : List CallD} {done : List Bool} {way : List Nat} {s : StD} {vl vw : Value} {ow : Option Nat} {b bd bm f : Nat} (h : FH w B l done way s vl vw ow b bd bm f) (hE : Ext Non w w') : FH w' B l done way s vl vw ow b bd bm f :=
  ⟨h.srch.ext hE id id (fun _ _ => id), h.hl.ext hE (fun _ h => h.elim), h.len, h.dlen, h.wl, h.und, h.bound, h.pay, h.slot, fun i hi => ⟨(h.low i hi).1, Nat.lt_of_lt_of_le (h.low i hi).2 hE.size⟩⟩
theorem FH.bnd {w : World} {B : Nat} {l : List CallD} {done : List Bool} {way : List Nat} {s : StD} {vl vw : Value} {ow : Option Nat} {b bd bm f : Nat} (h : FH w B l done way s vl vw ow b bd bm f) : -1000000 ≤ s.n ∧ s.n ≤ 1000000 := by
  have := h.bound; have := h.wl; have := h.len; omega
/-- One call further. -/
theorem FH.next {w A : World} {B : Nat} {l : List CallD} {done : List Bool} {way : List Nat} {s s' : StD} {vl vw vw' : Value} {ow ow' : Option Nat} {b bd bm f i : Nat} {X : Nat → Prop} (h : FH w B l done way s vl vw ow b bd bm (f + 1)) (hi : i ∈ mini l done) (hs : stepB l s i = some s') (hE : Ext (Ms b bd ow X) w A) (hX : ∀ i, X i → B ≤ i)
    (ho : Fr ow w.heap.size ow') (hS : Srch A b bd bm vl (done.set i true) (way ++ [i]) vw' ow') : FH A B l (done.set i true) (way ++ [i]) s' vl vw' ow' b bd bm f := by
  obtain ⟨c, hc, hd⟩ := stepB_some hs
  have hu := undone_pos hi h.dlen
  have hb := doS_bound s c.op (k := 99 * way.length) h.bound
  rw [hd] at hb; simp only [] at hb
  have hsl := doS_slot (x := c.op) h.slot (h.pay c (List.mem_of_getElem? hc))
  rw [hd] at hsl; simp only [] at hsl
  have hlb := h.low b (.inl rfl)
  refine ⟨hS, h.hl.ext hE (fun j hj => ?_), h.len, by rw [List.length_set]; exact h.dlen, by have := h.wl; simp only [List.length_append, List.length_cons, List.length_nil]; omega, by have := h.und; omega, ?_, h.pay, hsl, fun j hj => ?_⟩
  · rcases hj with hj | hj | hj | hj
    · exact (h.low j (.inl hj)).1
    · exact (h.low j (.inr (.inl hj))).1
    · exact (h.low j (.inr (.inr (.inl hj)))).1
    · exact hX j hj
  · simp only [List.length_append, List.length_cons, List.length_nil]; push_cast; omega
  · rcases hj with hj | hj | hj | hj
    · rw [hj]; exact ⟨hlb.1, hS.box.lt⟩
    · rw [hj]; exact ⟨(h.low bd (.inr (.inl rfl))).1, hS.dn.box.lt⟩
    · refine ⟨?_, hS.wy.lt hj⟩
      rcases ho j hj with q | q
      · exact (h.low j (.inr (.inr (.inl q)))).1
      · omega
    · have := h.low j (.inr (.inr (.inr hj))); exact ⟨this.1, Nat.lt_of_lt_of_le this.2 hE.size⟩
theorem arr2 (a x : Value) : (#[a] ++ [x].toArray ++ #[] : Array Value) = #[a, x] := by simp
theorem arr3 (a b x : Value) : ((#[] : Array Value) ++ [x].toArray ++ #[a, b] : Array Value) = #[x, a, b] := by simp
/-- The calls that may come next, by finding. -/
theorem find_each {f : Nat} (ih : FindOk f) (w : World) (B : Nat) (l : List CallD) (done : List Bool) (way : List Nat) (s : StD) (vl vw : Value) (ow : Option Nat) (b bd bm : Nat) (ks : List Str) (hH : FH w B l done way s vl vw ow b bd bm (f + 1)) (hM : IsMp w bm (kv ks)) (hD : DeadOk l ks) (hT : Tab w) (hG : Gb B) :
    FnM Tryd.prog (Ms b bd ow (fun i => i = bm)) 115 #[.pointer (some ⟨b, 0, none⟩), .agg s.enc.toArray, .func (.func 65) #[.pointer (some ⟨b, 0, none⟩)] #[]] w fun u w' => Fd l (f + 1) done way s vl ow b bd bm w.heap.size u w' := by
  have hwl := hH.wl
  have hlen := hH.len
  have hlb := hH.low b (.inl rfl)
  refine (each_ok w l done way s ow B b bd bm (fun i => i = bm) 65 #[.pointer (some ⟨b, 0, none⟩)] #[] (fun p A => ∃ ks', IsMp A bm (kv ks') ∧ DeadOk l ks' ∧ ∀ x ∈ p, ∀ s', stepB l s x = some s' → alls l f (done.set x true) s' = [])
    (fun p i s' A => ∃ o rest done' vw' ow', (∀ x ∈ p, ∀ s', stepB l s x = some s' → alls l f (done.set x true) s' = []) ∧ alls l f (done.set i true) s' = o :: rest ∧ Srch A b bd bm vl done' (way ++ [i] ++ o) vw' ow') e_65 hH.srch hH.hl hH.low (fun i hi => ?_) (hH.low bm (.inr (.inr (.inr rfl)))).2 hlen hH.dlen (by omega) hH.bnd ?_ ?_ ?_ ?_).mono ?_
  · subst hi; exact ⟨(hH.low i (.inr (.inr (.inr rfl)))).2, hH.srch.n2.symm, hH.srch.n3.symm, fun h => (hH.srch.n4 i h).2.2 rfl⟩
  · rintro p i q s' A vw' ow' hm hs ⟨ks', hM', hD', hp⟩ hE ho hS
    have hi : i ∈ mini l done := by rw [hm]; simp
    have hN := hH.next hi hs hE (fun j hj => (hH.low j (.inr (.inr (.inr hj)))).1) ho hS
    have hT' := hT.ext hE (fun j hj => (hH.low j hj).1) hG
    rw [arr2]
    refine (ih A B l (done.set i true) (way ++ [i]) s' vl vw' ow' b bd bm ks' hN hM' hD' hT' hG).mono ?_
    rintro v B' hE' ⟨r, rfl, h1, h2⟩
    refine ⟨r, rfl, fun hr => ?_, fun hr => ?_⟩
    · obtain ⟨o, rest, d', v', o', h3, h4⟩ := h1 hr
      exact ⟨o, rest, d', v', o', hp, h3, h4⟩
    · obtain ⟨h3, v', o', ks2, h4, h5, h6, h7⟩ := h2 hr
      refine ⟨⟨ks2, h5, h6, fun x hx s2 hs2 => ?_⟩, v', o', h4, h7⟩
      rcases List.mem_append.1 hx with hx | hx
      · exact hp x hx s2 hs2
      · rw [List.mem_singleton] at hx; subst hx
        rw [hs] at hs2; cases hs2; exact h3
  · rintro p i q A hm hs ⟨ks', hM', hD', hp⟩
    refine ⟨ks', hM', hD', fun x hx s2 hs2 => ?_⟩
    rcases List.mem_append.1 hx with hx | hx
    · exact hp x hx s2 hs2
    · rw [List.mem_singleton] at hx; subst hx; rw [hs] at hs2; cases hs2
  · rintro p A B' N ⟨ks', hM', hD', hp⟩ hE hN
    exact ⟨ks', hM'.ext hE (fun h => hN _ h rfl), hD', hp⟩
  · exact ⟨ks, hM, hD, by simp⟩
  · rintro v w' hE ⟨r, rfl, h1, h2⟩
    refine ⟨r, rfl, fun hr => ?_, fun hr => ?_⟩
    · obtain ⟨p, i, q, s', hm, hs, o, rest, d', v', o', hp, h3, h4⟩ := h1 hr
      obtain ⟨rest', h5⟩ := alls_first hm hp hs h3
      exact ⟨i :: o, rest', d', v', o', h5, by rw [List.append_assoc] at h4; exact h4⟩
    · obtain ⟨⟨ks', hM', hD', hp⟩, v', o', h4, h5⟩ := h2 hr
      exact ⟨alls_none hp, v', o', ks', h4, hM', hD', h5⟩
-- (*bellman/lin.search[bellman/bellmanref08.State]).find
set_option maxHeartbeats 2000000 in
theorem find_step (w : World) (f : Nat) (ih : ∀ g, g < f → FindOk g) (B : Nat) (l : List CallD) (done : List Bool) (way : List Nat) (s : StD) (vl vw : Value) (ow : Option Nat) (b0 bd bm : Nat) (ks : List Str) (hH : FH w B l done way s vl vw ow b0 bd bm f) (hM : IsMp w bm (kv ks)) (hD_ : DeadOk l ks) (hT : Tab w) (hG : Gb B) : FnM Tryd.prog (Ms b0 bd ow (fun i => i = bm)) 65 #[.pointer (some ⟨b0, 0, none⟩), .agg s.enc.toArray] w fun u w' => Fd l f done way s vl ow b0 bd bm w.heap.size u w' := by
  obtain ⟨al, cl, rfl, _⟩ := hH.hl.len
  obtain ⟨aw, cw, hvw⟩ := id hH.srch.wy.len; subst hvw
  simp only [List.length_map] at hH ⊢
  have hB0 := hH.srch.box
  have hbnd := hH.bnd
  have hsl := hH.slot
  have hwl := hH.wl
  have hlen := hH.len
  have hdl := hH.dlen
  have hX := Ext.refl (Ms b0 bd ow (fun i => i = bm)) w
  refine fnM_of_W (args := [_, _]) Tryd.func65 rfl (by kernel_rfl) rfl ?_
  refine W_seq ?_
  refine W_region ?_
  refine wl_boxS rfl ?_; intro b3 w1 hb3 hE1 hB3
  have hn0_3 : b0 < b3 := Nat.lt_of_lt_of_le hB0.lt hb3
  have hq3 : w.heap.size ≤ b3 := Nat.le_trans hX.size hb3
  have hl3 : Mine (Ms b0 bd ow (fun i => i = bm)) w b3 := .inr hq3
  replace hX := hX.tr hE1
  replace hB0 := hB0.ext hE1 id
  replace hH := hH.non hE1
  replace hM := hM.ext hE1 id
  replace hT := hT.non hE1
  refine wl_val (rn_assign (by conv => lhs; whnf)) ?_
  refine wl_nil ?_
  refine W_seq ?_
  refine W_seq ?_
  refine W_drawE mixed ?_; intro w2 hE2
  replace hX := hX.tr hE2
  replace hB0 := hB0.ext hE2 id; replace hB3 := hB3.ext hE2 id
  replace hH := hH.non hE2
  replace hM := hM.ext hE2 id
  replace hT := hT.non hE2
  have hS := Ext.refl Non w2
  refine wd_take 0 _ _ rfl (by kernel_rfl) hS (yd_do fun A hA => rn_move (by conv => lhs; whnf)) ?_
  refine wd_take 1 _ _ rfl (by kernel_rfl) hS (yd_do fun A hA => rn_nilCheck rfl) ?_
  refine wd_take 2 _ _ rfl (by kernel_rfl) hS (yd_do fun A hA => rn_fieldAddr f_120_3 (by decide) rfl) ?_
  refine wd_take 3 _ _ rfl (by kernel_rfl) hS (yd_do fun A hA => rn_load1 p_39 rfl (hB0.ext hA id) rfl) ?_
  refine wd_take 4 _ _ rfl (by kernel_rfl) hS (yd_do fun A hA => rn_len sl_39 rfl) ?_
  refine wd_take 5 _ _ rfl (by kernel_rfl) hS (yd_do fun A hA => rn_move (by conv => lhs; whnf)) ?_
  refine wd_take 6 _ _ rfl (by kernel_rfl) hS (yd_do fun A hA => rn_nilCheck rfl) ?_
  refine wd_take 7 _ _ rfl (by kernel_rfl) hS (yd_do fun A hA => rn_fieldAddr f_120_1 (by decide) rfl) ?_
  refine wd_take 8 _ _ rfl (by kernel_rfl) hS (yd_do fun A hA => rn_load1 p_25 rfl (hB0.ext hA id) rfl) ?_
  refine wd_take 9 _ _ rfl (by kernel_rfl) hS (yd_do fun A hA => rn_len sl_25 rfl) ?_
  refine wd_take 10 _ _ rfl (by kernel_rfl) hS (yd_do fun A hA => rn_eql rfl rfl) ?_
  refine wd_done (by kernel_rfl) ?_ _
  replace hX := hX.tr hS
  replace hB0 := hB0.ext hS id; replace hB3 := hB3.ext hS id
  replace hH := hH.non hS
  replace hM := hM.ext hS id
  replace hT := hT.non hS
  refine W_cond rfl (fun hc0 => ?_) (fun hc0 => ?_)
  · have hf0 : f = 0 := by have := of_decide_eq_true hc0; omega
    refine W_seq ?_
    refine W_region ?_
    refine wl_val (rn_assign (by conv => lhs; whnf)) ?_
    refine wl_nil ?_
    refine W_ret ?_
    exact ⟨_, resR1 (res1_tmp rfl), hX, ⟨true, rfl, fun _ => ⟨[], [], done, _, ow, by rw [hf0]; rfl, by rw [List.append_nil]; exact hH.srch⟩, fun h => (by cases h)⟩⟩
  · obtain ⟨g, hg⟩ : ∃ g, f = g + 1 := ⟨f - 1, by have := of_decide_eq_false hc0; omega⟩
    subst hg
    refine W_skip ?_
    refine W_seq ?_
    refine W_region ?_
    refine wl_val (rn_move (by conv => lhs; whnf)) ?_
    refine wl_val (rn_loadB s_27 rfl rfl hB3) ?_
    refine wl_call e_114 rfl (key_ok w2 done s _ _ b0 bd bm hB0 hH.srch.dn hT hbnd (by omega) (by omega)) ?_; intro v19 w3 hE3 hR3
    replace hX := hX.tr hE3
    replace hB0 := hB0.ext hE3 id; replace hB3 := hB3.ext hE3 id
    replace hH := hH.non hE3
    replace hM := hM.ext hE3 id
    replace hT := hT.non hE3
    subst hR3
    refine wl_val (rn_assign (by conv => lhs; whnf)) ?_
    refine wl_nil ?_
    refine W_seq ?_
    refine W_seq ?_
    refine W_region ?_
    refine wl_val (rn_move (by conv => lhs; whnf)) ?_
    refine wl_val (rn_nilCheck rfl) ?_
    refine wl_val (rn_fieldAddr f_120_4 (by decide) rfl) ?_
    refine wl_val (rn_load1 p_118 rfl hB0 rfl) ?_
    refine wl_val (rn_move (by conv => lhs; whnf)) ?_
    refine wl_val (Rn.cast (rn_lookup1 mp_sb rfl rfl hM (kv_get _ ks)) (v' := .bool (decide (keyOf done s ∈ ks))) (by by_cases h : keyOf done s ∈ ks <;> simp [h])) ?_
    refine wl_nil ?_
    refine W_cond rfl (fun hc1 => ?_) (fun hc1 => ?_)
    · have hdead := hD_ _ (of_decide_eq_true hc1) done s hdl rfl
      refine W_seq ?_
      refine W_region ?_
      refine wl_val (rn_assign (by conv => lhs; whnf)) ?_
      refine wl_nil ?_
      refine W_ret ?_
      exact ⟨_, resR1 (res1_tmp rfl), hX, ⟨false, rfl, fun h => (by cases h), fun _ => ⟨by rw [← hH.und]; exact hdead, _, ow, ks, hH.srch, hM, hD_, fun j hj => .inl hj⟩⟩⟩
    · refine W_skip ?_
      refine W_seq ?_
      refine W_seq ?_
      refine W_region ?_
      refine wl_val (rn_move (by conv => lhs; whnf)) ?_
      refine wl_val (rn_loadB s_27 rfl rfl hB3) ?_
      refine wl_val (rn_move (by conv => lhs; whnf)) ?_
      refine wl_val (rn_makeFuncF rfl) ?_
      refine wl_callM e_115 rfl (find_each (ih g (by omega)) w3 B l done way s _ _ ow b0 bd bm ks hH hM hD_ hT hG) ?_; rintro v30 w4 hE4 ⟨r, rfl, hrT, hrF⟩
      have hszX := hX.size
      replace hX := hX.own2 hE4 (fun i h => .inl h)
      refine wl_nil ?_
      refine W_cond rfl (fun hc2 => ?_) (fun hc2 => ?_)
      · refine W_seq ?_
        refine W_region ?_
        refine wl_val (rn_assign (by conv => lhs; whnf)) ?_
        refine wl_nil ?_
        refine W_ret ?_
        exact ⟨_, resR1 (res1_tmp rfl), hX, ⟨true, rfl, fun _ => hrT hc2, fun h => (by cases h)⟩⟩
      · obtain ⟨hal, vw2, ow2, ks2, hS2, hM2, hD2, hw2⟩ := hrF hc2
        have hB0 := hS2.box
        obtain ⟨ks3, hk1, hk2⟩ := kv_put (keyOf done s) ks2
        refine W_skip ?_
        refine W_seq ?_
        refine W_region ?_
        refine wl_val (rn_move (by conv => lhs; whnf)) ?_
        refine wl_val (rn_nilCheck rfl) ?_
        refine wl_val (rn_fieldAddr f_120_4 (by decide) rfl) ?_
        refine wl_val (rn_load1 p_118 rfl hB0 rfl) ?_
        refine wl_val (rn_move (by conv => lhs; whnf)) ?_
        refine wl_mapUpdate (k := keyOf done s) (v := .bool true) mp_sb rfl rfl rfl hM2 ?_; intro w5 hE5 hM3 hz5
        replace hX := hX.own2 hE5 (fun i h => .inl (.inr (.inr (.inr h))))
        have hS3 := hS2.ext hE5 hS2.n2 hS2.n3 (fun j hj => (hS2.n4 j hj).2.2)
        rw [hk1] at hM3
        refine wl_nil ?_
        refine W_seq ?_
        refine W_region ?_
        refine wl_val (rn_assign (by conv => lhs; whnf)) ?_
        refine wl_nil ?_
        refine W_ret ?_
        exact ⟨_, resR1 (res1_tmp rfl), hX, ⟨false, rfl, fun h => (by cases h), fun _ => ⟨hal, _, ow2, ks3, hS3, hM3, fun k hk d2 s2 hd2 he => by
            rcases (hk2 k).1 hk with q | q
            · obtain ⟨e1, e2⟩ := key_inj (by omega) (he.trans q); subst e1; subst e2; rw [hH.und]; exact hal
            · exact hD2 k q d2 s2 hd2 he, fun j hj => by rcases hw2 j hj with q | q; exact .inl q; exact .inr (Nat.le_trans hszX q)⟩⟩⟩
theorem find_ok (f : Nat) : FindOk f := by
  induction f using Nat.strongRecOn with
  | _ f ih => exact fun w B l done way s vl vw ow b bd bm ks hH hM hD hT hG => find_step w f ih B l done way s vl vw ow b bd bm ks hH hM hD hT hG
end Go.Proofs.YthcclgoidchkdaaDoorC
