/- Which filter matches which topic, and covers which filter: the program's functions, and the document's. -/
import Derived.Test.YtaddeakfojpdoaaGreatDoorBunP8
import Derived.Test.YtaddeakfojpdoaaGreatDoorBunP5
import Derived.Test.YtaddeakfojpdoaaGreatDoorBunP3
set_option linter.unusedVariables false
set_option linter.unusedSimpArgs false
set_option maxRecDepth 100000
namespace Go.Proofs.YtaddeakfojpdoaaGreatDoorC
open Go.RowKit
/-- Function value fk cap tells of a text what p says. -/
def Tells (fk : FuncId) (cap : Array Value) (w : World) (p : Str → Bool) : Prop := entersB Tryz.prog fk = true ∧ ∀ (A : World) (x : Str), x.length ≤ 1000000 → Ext Non w A → Fn Tryz.prog fk (#[Sv x] ++ cap) A fun u _ => u = .bool (p x)
theorem Tells.ext {fk : FuncId} {cap : Array Value} {w w' : World} {p : Str → Bool} (h : Tells fk cap w p) (hE : Ext Non w w') : Tells fk cap w' p := ⟨h.1, fun A x hx hA => h.2 A x hx (hE.trans hA)⟩
theorem wl_tell {P : Program} {σ : Env} {w : World} {ty : TypeId} {pos : String} {af : Array Edge} {ops rest : List Oper} {K : Ops} {f : FuncId} {x y : Operand} {cap : Array Value} {ts : Array TypeId} {d : Nat} {s : Str} {b : Bool} (hx : ev σ x = .func (.func f) #[] cap) (hf : entersB P f = true) (hy : ev σ y = Sv s)
    (h : Fn P f (#[Sv s] ++ cap) w fun u _ => u = .bool b) (k : ∀ w', Ext Non w w' → wl P ops rest K (put σ (some d) (.bool b)) w') : wl P ops (⟨some d, .call ⟨.value x, #[y], ts⟩, ty, pos, af, none⟩ :: rest) K σ w :=
  wl_callv hx hf (show [y].map (ev σ) = [Sv s] by simp [hy]) h fun e w' he => by obtain ⟨v, e1, e2, e3⟩ := he; subst e3; exact ⟨_, e1, k w' e2⟩
theorem like_yes {some : Str → Bool} {L T : List Str} {n : Nat} (h : L[n]? = Option.some [35]) (hn : n ≤ T.length) (hall : ∀ j, j < n → okAt some L T j ∧ L[j]? ≠ Option.some [35]) : likeB some L T = true :=
  (likeB_iff some L T).2 (.inl ⟨n, h, hn, fun j hj => (hall j hj).1⟩)
theorem like_no {some : Str → Bool} {L T : List Str} {n : Nat} {l : Str} (hl : L[n]? = Option.some l) (h35 : ¬ l = [35]) (hall : ∀ j, j < n → okAt some L T j ∧ L[j]? ≠ Option.some [35]) (hno : ¬ okAt some L T n) : likeB some L T = false :=
  likeB_no (i := n) (fun j hj => by
    rcases Nat.lt_or_ge j n with h | h
    · exact (hall j h).2
    · obtain rfl : j = n := by omega
      rw [hl]; exact fun e => h35 (Option.some.inj e)) (List.getElem?_eq_some_iff.1 hl).1 hno
theorem not_okAt {some : Str → Bool} {L T : List Str} {n : Nat} {l t : Str} (hl : L[n]? = Option.some l) (ht : T[n]? = Option.some t) (h1 : ¬ l = t) (h2 : l = [43] → some t = false) : ¬ okAt some L T n := by
  rintro ⟨l2, t2, e1, e2, h3⟩
  rw [hl] at e1; rw [ht] at e2; cases e1; cases e2
  rcases h3 with h3 | ⟨h3, h4⟩
  · exact h1 h3
  · rw [h2 h3] at h4; cases h4
theorem not_okAt2 {some : Str → Bool} {L T : List Str} {n : Nat} (h : T.length ≤ n) : ¬ okAt some L T n := by
  rintro ⟨l2, t2, e1, e2, h3⟩
  rw [List.getElem?_eq_none h] at e2; cases e2
theorem like_end {some : Str → Bool} {L T : List Str} (hall : ∀ j, j < L.length → okAt some L T j ∧ L[j]? ≠ Option.some [35]) : likeB some L T = decide ((L.length : Int) = (T.length : Int)) := by
  rw [likeB_end (fun j => by
    rcases Nat.lt_or_ge j L.length with h | h
    · exact (hall j h).2
    · rw [List.getElem?_eq_none h]; simp) (fun j hj => (hall j hj).1)]
  exact decide_eq_decide.2 (by omega)
abbrev notRest : Str → Bool := fun l => decide (l ≠ [35])
theorem covers_no1 {f t : Str} (h : filterB f = false) : coversB f t = false := by unfold coversB; rw [h]; rfl
theorem covers_no2 {f t : Str} (h : filterB t = false) : coversB f t = false := by unfold coversB; rw [h]; simp
theorem covers_no3 {f t : Str} (h : (wildB f && headIs 36 t) = true) : coversB f t = false := by unfold coversB; rw [h]; simp
theorem covers_eq {f t : Str} (h1 : filterB f = true) (h2 : filterB t = true) (h3 : (wildB f && headIs 36 t) = false) : coversB f t = likeB notRest (spl 47 f) (spl 47 t) := by unfold coversB; rw [h1, h2, h3]; rfl
theorem filter_ne {s : Str} (h : filterB s = true) : ∃ c, s[0]? = some c := by
  unfold filterB sizedB at h
  simp only [Bool.and_eq_true, decide_eq_true_eq] at h
  cases s with
  | nil => exact absurd rfl h.1.1.1
  | cons c s => exact ⟨c, rfl⟩
theorem headIs_pre (c : UInt8) (s : Str) : headIs c s = decide (s.take 1 = [c]) := by cases s <;> simp [headIs]
-- internal/stringslite.HasPrefix
theorem hasPrefix1_ok (w : World) (s : Str) (c : UInt8) (hn : s.length ≤ 1000000) : Fn Tryz.prog 142 #[Sv s, Sv [c]] w fun u w' => u = .bool (headIs c s) := by
  have hX := Ext.refl Non w
  refine fn_of_W (args := [_, _]) Tryz.func142 rfl (by kernel_rfl) rfl ?_
  refine W_seq ?_
  refine W_region ?_
  refine wl_val (rn_assign (by conv => lhs; whnf)) ?_
  refine wl_nil ?_
  refine W_seq ?_
  refine W_region ?_
  refine wl_val (rn_move (by conv => lhs; whnf)) ?_
  refine wl_val (rn_slen us_9 rfl) ?_
  refine wl_val (rn_move (by conv => lhs; whnf)) ?_
  refine wl_val (rn_slen us_9 rfl) ?_
  refine wl_val (rn_geq rfl rfl) ?_
  refine wl_val (rn_move (by conv => lhs; whnf)) ?_
  refine wl_split (d := 10) rfl (fun hg10 => ?_) (fun hg10 => ?_)
  · have hq := of_decide_eq_true hg10; simp only [List.length_singleton] at hq
    refine wl_yes rfl (congrArg Value.bool hg10) ?_
    refine wl_val (rn_move (by conv => lhs; whnf)) ?_
    refine wl_yes rfl (congrArg Value.bool hg10) ?_
    refine wl_val (rn_move (by conv => lhs; whnf)) ?_
    refine wl_yes rfl (congrArg Value.bool hg10) ?_
    refine wl_val (rn_slen us_9 rfl) ?_
    refine wl_yes rfl (congrArg Value.bool hg10) ?_
    refine wl_val (rn_sslice us_9 (l := 0) (h := 1) rfl rfl ⟨_, rfl⟩ (by omega) (by first | omega | (simp only [List.length_cons, List.length_nil, List.length_append]; omega))) ?_
    refine wl_yes rfl (congrArg Value.bool hg10) ?_
    refine wl_val (rn_move (by conv => lhs; whnf)) ?_
    refine wl_yes rfl (congrArg Value.bool hg10) ?_
    refine wl_val (rn_seql rfl rfl) ?_
    refine wl_val (rn_pickT (congrArg Value.bool hg10) (by conv => lhs; whnf)) ?_
    refine wl_val (rn_assign (by conv => lhs; whnf)) ?_
    refine wl_nil ?_
    refine W_ret ?_
    exact ⟨_, resR1 (res1_tmp rfl), hX, by rw [headIs_pre]; show Value.bool (decide ((s.drop 0).take (1 - 0) = [c])) = _; rw [List.drop_zero]⟩
  · have hq := of_decide_eq_false hg10; simp only [List.length_singleton] at hq
    refine wl_no rfl (congrArg Value.bool hg10) ?_
    refine wl_no rfl (congrArg Value.bool hg10) ?_
    refine wl_no rfl (congrArg Value.bool hg10) ?_
    refine wl_no rfl (congrArg Value.bool hg10) ?_
    refine wl_no rfl (congrArg Value.bool hg10) ?_
    refine wl_no rfl (congrArg Value.bool hg10) ?_
    refine wl_val (rn_pickF (congrArg Value.bool hg10) (by conv => lhs; whnf)) ?_
    refine wl_val (rn_assign (by conv => lhs; whnf)) ?_
    refine wl_nil ?_
    refine W_ret ?_
    exact ⟨_, resR1 (res1_tmp rfl), hX, by rw [headIs_pre]; have e : s = [] := List.length_eq_zero_iff.1 (by omega); subst e; rfl⟩
-- strings.HasPrefix
theorem hasPrefix_ok (w : World) (s : Str) (c : UInt8) (hn : s.length ≤ 1000000) : Fn Tryz.prog 102 #[Sv s, Sv [c]] w fun u w' => u = .bool (headIs c s) := by
  have hX := Ext.refl Non w
  refine fn_of_W (args := [_, _]) Tryz.func102 rfl (by kernel_rfl) rfl ?_
  refine W_seq ?_
  refine W_region ?_
  refine wl_val (rn_assign (by conv => lhs; whnf)) ?_
  refine wl_nil ?_
  refine W_seq ?_
  refine W_region ?_
  refine wl_val (rn_move (by conv => lhs; whnf)) ?_
  refine wl_val (rn_move (by conv => lhs; whnf)) ?_
  refine wl_call e_142 rfl (hasPrefix1_ok w s c hn) ?_; intro v7 w1 hE1 hR1
  replace hX := hX.tr hE1
  subst hR1
  refine wl_val (rn_assign (by conv => lhs; whnf)) ?_
  refine wl_nil ?_
  refine W_ret ?_
  exact ⟨_, resR1 (res1_tmp rfl), hX, rfl⟩
-- bellman/match.apart
theorem apart_ok (w : World) (f s : Str) (hnf : f.length ≤ 1000000) (hn : s.length ≤ 1000000) : Fn Tryz.prog 65 #[Sv f, Sv s] w fun u w' => u = .bool (wildB f && headIs 36 s) := by
  have hX := Ext.refl Non w
  refine fn_of_W (args := [_, _]) Tryz.func65 rfl (by kernel_rfl) rfl ?_
  refine W_seq ?_
  refine W_region ?_
  refine wl_val (rn_assign (by conv => lhs; whnf)) ?_
  refine wl_nil ?_
  refine W_seq ?_
  refine W_region ?_
  refine wl_val (rn_move (by conv => lhs; whnf)) ?_
  refine wl_call e_101 rfl (twild_ok w f hnf) ?_; intro v6 w1 hE1 hR1
  replace hX := hX.tr hE1
  subst hR1
  refine wl_val (rn_move (by conv => lhs; whnf)) ?_
  refine wl_split (d := 7) rfl (fun hg7 => ?_) (fun hg7 => ?_)
  · refine wl_yes rfl (congrArg Value.bool hg7) ?_
    refine wl_val (rn_move (by conv => lhs; whnf)) ?_
    refine wl_yes rfl (congrArg Value.bool hg7) ?_
    refine wl_call e_102 rfl (hasPrefix_ok w1 s 36 hn) ?_; intro v9 w2 hE2 hR2
    replace hX := hX.tr hE2
    subst hR2
    refine wl_val (rn_pickT (congrArg Value.bool hg7) (by conv => lhs; whnf)) ?_
    refine wl_val (rn_assign (by conv => lhs; whnf)) ?_
    refine wl_nil ?_
    refine W_ret ?_
    exact ⟨_, resR1 (res1_tmp rfl), hX, by have e : wildB f = true := hg7; rw [e]; rfl⟩
  · refine wl_no rfl (congrArg Value.bool hg7) ?_
    refine wl_no rfl (congrArg Value.bool hg7) ?_
    refine wl_val (rn_pickF (congrArg Value.bool hg7) (by conv => lhs; whnf)) ?_
    refine wl_val (rn_assign (by conv => lhs; whnf)) ?_
    refine wl_nil ?_
    refine W_ret ?_
    exact ⟨_, resR1 (res1_tmp rfl), hX, by have e : wildB f = false := hg7; rw [e]; rfl⟩
-- bellman/match.like
set_option maxHeartbeats 2000000 in
theorem like_ok (w : World) (f : Str) (T : List Str) (p : Str → Bool) {v : Value} {fk : FuncId} {cap : Array Value} (hnf : f.length ≤ 1000000) (hTl : ∀ t ∈ T, t.length ≤ 1000000) (hs : Sl Non w v 1 (T.map eS1)) (hp : Tells fk cap w p) : Fn Tryz.prog 66 #[Sv f, v, .func (.func fk) #[] cap] w fun u w' => u = .bool (likeB p (spl 47 f) T) := by
  obtain ⟨a, c, rfl, hbg⟩ := hs.len
  simp only [List.length_map] at hs hbg ⊢
  have hsl := spl_len_le 47 f
  have hX := Ext.refl Non w
  refine fn_of_W (args := [_, _, _]) Tryz.func66 rfl (by kernel_rfl) rfl ?_
  refine W_seq ?_
  refine W_region ?_
  refine wl_box1 (by conv => lhs; whnf) rfl ?_; intro b4 w1 hb4 hE1 hB4
  have hq4 : w.heap.size ≤ b4 := Nat.le_trans hX.size hb4
  have hl4 : Mine Non w b4 := .inr hq4
  replace hX := hX.tr hE1
  refine wl_box1 (by conv => lhs; whnf) rfl ?_; intro b5 w2 hb5 hE2 hB5
  have hn4_5 : b4 < b5 := Nat.lt_of_lt_of_le hB4.lt hb5
  have hq5 : w.heap.size ≤ b5 := Nat.le_trans hX.size hb5
  have hl5 : Mine Non w b5 := .inr hq5
  replace hX := hX.tr hE2
  replace hB4 := hB4.ext hE2 id
  refine wl_alloc z_4 ?_; intro b6 w3 hb6 hE3 hB6
  have hn4_6 : b4 < b6 := Nat.lt_of_lt_of_le hB4.lt hb6
  have hn5_6 : b5 < b6 := Nat.lt_of_lt_of_le hB5.lt hb6
  have hq6 : w.heap.size ≤ b6 := Nat.le_trans hX.size hb6
  have hl6 : Mine Non w b6 := .inr hq6
  replace hX := hX.tr hE3
  replace hB4 := hB4.ext hE3 id; replace hB5 := hB5.ext hE3 id
  refine wl_nil ?_
  refine W_seq ?_
  refine W_region ?_
  refine wl_alloc z_3 ?_; intro b7 w4 hb7 hE4 hB7
  have hn4_7 : b4 < b7 := Nat.lt_of_lt_of_le hB4.lt hb7
  have hn5_7 : b5 < b7 := Nat.lt_of_lt_of_le hB5.lt hb7
  have hn6_7 : b6 < b7 := Nat.lt_of_lt_of_le hB6.lt hb7
  have hq7 : w.heap.size ≤ b7 := Nat.le_trans hX.size hb7
  have hl7 : Mine Non w b7 := .inr hq7
  replace hX := hX.tr hE4
  replace hB4 := hB4.ext hE4 id; replace hB5 := hB5.ext hE4 id; replace hB6 := hB6.ext hE4 id
  refine wl_store1 (b := b7) p_3 rfl (by conv => lhs; whnf) rfl rfl hB7 (Nat.le_of_ble_eq_true rfl) ?_; intro w5 hE5 hB7 hz5
  replace hX := hX.mine hE5 hl7
  replace hB4 := hB4.ext hE5 (fun h => by omega); replace hB5 := hB5.ext hE5 (fun h => by omega); replace hB6 := hB6.ext hE5 (fun h => by omega)
  refine wl_nil ?_
  refine W_seq ?_
  refine W_seq ?_
  refine W_region ?_
  refine wl_val (rn_move (by conv => lhs; whnf)) ?_
  refine wl_call e_47 rfl (each_ok w5 f (fun i => i = b6 ∨ i = b7) (fun i e => by rcases e with e | e; rw [e]; exact hB6.lt; rw [e]; exact hB7.lt) hnf) ?_; intro v11 w6 hE6 hR6
  replace hX := hX.tr hE6
  replace hB4 := hB4.ext hE6 id; replace hB5 := hB5.ext hE6 id; replace hB6 := hB6.ext hE6 id; replace hB7 := hB7.ext hE6 id
  have hIt := hR6; obtain ⟨fk2, ck, hfk, _⟩ := id hIt; subst hfk
  obtain ⟨wa, hwa⟩ : ∃ x, x = w6 := ⟨_, rfl⟩
  have hW : Ext (fun i => i = b6 ∨ i = b7) wa w6 := by rw [hwa]; exact Ext.refl _ _
  have hIt2 := hIt; rw [← hwa] at hIt2; have hz6 : b6 < wa.heap.size := by rw [hwa]; exact hB6.lt
  have hz7 : b7 < wa.heap.size := by rw [hwa]; exact hB7.lt
  refine wl_nil ?_
  refine W_block ?_   -- block 0
  have hszr := hX.size
  have hsz_hW := hW.size
  have ho4 : w.heap.size ≤ b4 := by rcases hl4 with h | h; exact h.elim; exact h
  have ho5 : w.heap.size ≤ b5 := by rcases hl5 with h | h; exact h.elim; exact h
  have ho6 : w.heap.size ≤ b6 := by rcases hl6 with h | h; exact h.elim; exact h
  have ho7 : w.heap.size ≤ b7 := by rcases hl7 with h | h; exact h.elim; exact h
  refine W_rangeFunc (M := fun i => i = b6 ∨ i = b7) (w0 := wa) (I := fun pre N A => Box N A b4 [.slice a T.length c] ∧ Box N A b5 [.func (.func fk) #[] cap] ∧ Box N A b6 [.bool false] ∧ Box N A b7 [.int .i64 (pre.length : Nat)] ∧ Ext Non w A ∧ Ext (fun i => i = b6 ∨ i = b7) wa A ∧ MkN w [] N A ∧ ((∀ j, j < pre.length → okAt p (spl 47 f) T j ∧ (spl 47 f)[j]? ≠ some [35]) ∧ pre.length ≤ T.length)) (X := fun c N A => c = .ret ∧ Box N A b6 [.bool (likeB p (spl 47 f) T)] ∧ Ext Non w A ∧ Ext (fun i => i = b6 ∨ i = b7) wa A ∧ MkN w [] N A ∧ (True)) (encs := fun p : Nat × Str => [.int .i64 (p.1 : Nat), Sv p.2]) (xs := numb (spl 47 f)) rfl (hIt2) (hW) (fun _ => rfl) (fun pre => (Stab.box _ _).and ((Stab.box _ _).and ((Stab.box _ _).and ((Stab.box _ _).and ((Stab.old hX.size).and ((Stab.oldM hW.size).and ((Stab.mk _ _).and ((Stab.pure _))))))))) (fun c => (Stab.pure _).and ((Stab.box _ _).and ((Stab.old hX.size).and ((Stab.oldM hW.size).and ((Stab.mk _ _).and ((Stab.pure _))))))) ⟨⟨hB4, id⟩, ⟨hB5, id⟩, ⟨hB6, id⟩, ⟨hB7, id⟩, hX, hW, (Mk.nil : Mk w [] _).toN, ⟨fun j h => absurd h (Nat.not_lt_zero _), Nat.zero_le _⟩⟩ ?_ ?_ ?_
  · rintro l N pre x A hl hN hA hst ⟨hK4, hK5, hK6, hK7, hXo, hW, hDk, hIr⟩ ⟨post, hpre⟩
    have hB4 := hK4.1
    have hB5 := hK5.1
    have hB6 := hK6.1; have hl6 : Mine (Yc (fun i => i = b6 ∨ i = b7) wa N) A b6 := .inl ⟨hK6.2, .inl (.inl rfl)⟩
    have hB7 := hK7.1; have hl7 : Mine (Yc (fun i => i = b6 ∨ i = b7) wa N) A b7 := .inl ⟨hK7.2, .inl (.inr rfl)⟩
    have hX := Ext.refl (Yc (fun i => i = b6 ∨ i = b7) wa N) A
    refine W_seq ?_
    refine W_region ?_
    refine wl_val (rn_assign (by conv => lhs; whnf)) ?_
    refine wl_nil ?_
    refine W_region ?_
    refine wl_val (rn_assign (by conv => lhs; whnf)) ?_
    refine wl_nil ?_
    refine ⟨rfl, hX, fun A2 hE2r hz2r hst2 => ?_⟩
    have hNl := (hN l hl).2
    replace hB4 := hB4.ext hE2r (fun e => hK4.2 (by rw [e]; exact hl))
    replace hB5 := hB5.ext hE2r (fun e => hK5.2 (by rw [e]; exact hl))
    replace hB6 := hB6.ext hE2r (fun e => hK6.2 (by rw [e]; exact hl))
    replace hB7 := hB7.ext hE2r (fun e => hK7.2 (by rw [e]; exact hl))
    replace hXo := hXo.mine hE2r (.inr (Nat.le_trans hszr (hN l hl).1)); replace hDk := hDk.lp hE2r hl
    replace hW := hW.mine hE2r (.inr (Nat.le_trans hsz_hW (hN l hl).1))
    have hl6 : Mine (Yc (fun i => i = b6 ∨ i = b7) wa N) A2 b6 := .inl ⟨hK6.2, .inl (.inl rfl)⟩
    have hl7 : Mine (Yc (fun i => i = b6 ∨ i = b7) wa N) A2 b7 := .inl ⟨hK7.2, .inl (.inr rfl)⟩
    have hX := Ext.refl (Yc (fun i => i = b6 ∨ i = b7) wa N) A2
    obtain ⟨hxi, hxl, hxp⟩ := numb_at (i := x.1) (x := x.2) (post := post) (pre := pre) (by rw [hpre])
    have hxlt := (List.getElem?_eq_some_iff.1 hxl).1
    have hprl := hIr.2
    refine W_block ?_   -- block 1
    refine W_seq ?_
    refine W_seq ?_
    refine W_region ?_
    refine wl_val (rn_move (by conv => lhs; whnf)) ?_
    refine wl_val (rn_seql rfl rfl) ?_
    refine wl_nil ?_
    refine W_cond rfl (fun hc0 => ?_) (fun hc0 => ?_)
    · have hR : likeB p (spl 47 f) T = true := like_yes (by rw [← hxi, hxl, of_decide_eq_true hc0]) (by omega) hIr.1
      refine W_seq ?_
      refine W_region ?_
      have hBo := hB6
      refine wl_store1 (b := b6) p_4 rfl (by conv => lhs; whnf) rfl rfl hB6 (Nat.le_of_ble_eq_true rfl) ?_; intro w7 hE7 hB6 hz7
      replace hX := hX.mine hE7 hl6
      replace hB4 := hB4.ext hE7 (fun h => by omega); replace hB5 := hB5.ext hE7 (fun h => by omega); replace hB7 := hB7.ext hE7 (fun h => by omega)
      replace hXo := hXo.mine hE7 (.inr ho6)
      replace hDk := hDk.box hE7 hBo
      replace hW := hW.mine hE7 (.inl (by first | exact .inl rfl | exact .inr rfl))
      refine wl_nil ?_
      refine W_ret ?_
      replace hB6 := hB6.cast (cs' := [Value.bool (likeB p (spl 47 f) T)]) (by rw [hR] <;> rfl)
      exact ⟨hX, rfl, ⟨hB6, hK6.2⟩, hXo, hW, hDk, trivial⟩
    · have q35 : ¬ x.2 = [35] := of_decide_eq_false hc0
      refine W_skip ?_
      refine W_seq ?_
      refine W_seq ?_
      refine W_drawE mixed ?_; intro w8 hE8
      replace hX := hX.tr hE8
      replace hB4 := hB4.ext hE8 id; replace hB5 := hB5.ext hE8 id; replace hB6 := hB6.ext hE8 id; replace hB7 := hB7.ext hE8 id
      replace hXo := hXo.tr hE8
      replace hDk := hDk.non hE8
      replace hW := hW.tr hE8
      have hS := Ext.refl Non w8
      refine wd_take 0 _ _ rfl (by kernel_rfl) hS (yd_do fun A hA => rn_move (by conv => lhs; whnf)) ?_
      refine wd_take 1 _ _ rfl (by kernel_rfl) hS (yd_do fun A hA => rn_load1 p_22 rfl (hB4.ext hA id) rfl) ?_
      refine wd_take 2 _ _ rfl (by kernel_rfl) hS (yd_do fun A hA => rn_len sl_22 rfl) ?_
      refine wd_take 3 _ _ rfl (by kernel_rfl) hS (yd_do fun A hA => rn_geq rfl rfl) ?_
      refine wd_take 4 _ _ rfl (by kernel_rfl) hS (yd_do fun A hA => rn_move (by conv => lhs; whnf)) ?_
      refine wd_split (d := 20) rfl (fun hg20 => ?_) (fun hg20 => ?_)
      · have hR : likeB p (spl 47 f) T = false := like_no hxl q35 (by rw [hxi]; exact hIr.1) (not_okAt2 (by have := of_decide_eq_true hg20; omega))
        refine wd_take 5 _ _ rfl (by kernel_rfl) hS (yd_no rfl (congrArg Value.bool hg20)) ?_
        refine wd_take 6 _ _ rfl (by kernel_rfl) hS (yd_no rfl (congrArg Value.bool hg20)) ?_
        refine wd_take 7 _ _ rfl (by kernel_rfl) hS (yd_no rfl (congrArg Value.bool hg20)) ?_
        refine wd_take 8 _ _ rfl (by kernel_rfl) hS (yd_no rfl (congrArg Value.bool hg20)) ?_
        refine wd_take 9 _ _ rfl (by kernel_rfl) hS (yd_no rfl (congrArg Value.bool hg20)) ?_
        refine wd_take 10 _ _ rfl (by kernel_rfl) hS (yd_no rfl (congrArg Value.bool hg20)) ?_
        refine wd_take 11 _ _ rfl (by kernel_rfl) hS (yd_no rfl (congrArg Value.bool hg20)) ?_
        refine wd_take 12 _ _ rfl (by kernel_rfl) hS (yd_nou rfl rfl) ?_
        refine wd_take 13 _ _ rfl (by kernel_rfl) hS (yd_nou rfl rfl) ?_
        refine wd_take 14 _ _ rfl (by kernel_rfl) hS (yd_nou rfl rfl) ?_
        refine wd_take 15 _ _ rfl (by kernel_rfl) hS (yd_nou rfl rfl) ?_
        refine wd_take 16 _ _ rfl (by kernel_rfl) hS (yd_nou rfl rfl) ?_
        refine wd_take 17 _ _ rfl (by kernel_rfl) hS (yd_nou rfl rfl) ?_
        refine wd_take 18 _ _ rfl (by kernel_rfl) hS (yd_nou rfl rfl) ?_
        refine wd_take 19 _ _ rfl (by kernel_rfl) hS (yd_nou rfl rfl) ?_
        refine wd_only 20 _ rfl (by kernel_rfl) ?_
        refine s1_nou rfl rfl ⟨hS, ?_⟩
        refine wd_take 21 _ _ rfl (by kernel_rfl) hS (yd_nou rfl rfl) ?_
        refine wd_take 22 _ _ rfl (by kernel_rfl) hS (yd_nou rfl rfl) ?_
        refine wd_take 23 _ _ rfl (by kernel_rfl) hS (yd_no rfl (congrArg Value.bool hg20)) ?_
        refine wd_take 24 _ _ rfl (by kernel_rfl) hS (yd_do fun A hA => rn_pickT (congrArg Value.bool hg20) (by conv => lhs; whnf)) ?_
        refine wd_done (by kernel_rfl) ?_ _
        replace hX := hX.tr hS
        replace hB4 := hB4.ext hS id; replace hB5 := hB5.ext hS id; replace hB6 := hB6.ext hS id; replace hB7 := hB7.ext hS id
        replace hXo := hXo.tr hS
        replace hDk := hDk.non hS
        replace hW := hW.tr hS
        refine W_condT rfl ?_
        refine W_seq ?_
        refine W_region ?_
        have hBo := hB6
        refine wl_store1 (b := b6) p_4 rfl (by conv => lhs; whnf) rfl rfl hB6 (Nat.le_of_ble_eq_true rfl) ?_; intro w9 hE9 hB6 hz9
        replace hX := hX.mine hE9 hl6
        replace hB4 := hB4.ext hE9 (fun h => by omega); replace hB5 := hB5.ext hE9 (fun h => by omega); replace hB7 := hB7.ext hE9 (fun h => by omega)
        replace hXo := hXo.mine hE9 (.inr ho6)
        replace hDk := hDk.box hE9 hBo
        replace hW := hW.mine hE9 (.inl (by first | exact .inl rfl | exact .inr rfl))
        refine wl_nil ?_
        refine W_ret ?_
        replace hB6 := hB6.cast (cs' := [Value.bool (likeB p (spl 47 f) T)]) (by rw [hR] <;> rfl)
        exact ⟨hX, rfl, ⟨hB6, hK6.2⟩, hXo, hW, hDk, trivial⟩
      · have hxT : x.1 < T.length := by have := of_decide_eq_false hg20; omega
        obtain ⟨t, ht⟩ : ∃ t, T[x.1]? = some t := ⟨_, List.getElem?_eq_getElem hxT⟩
        obtain ⟨bt, ot, eat⟩ := hs.base (by intro e; have := congrArg List.length e; simp only [List.length_map, List.length_nil] at this; omega)
        refine wd_take 5 _ _ rfl (by kernel_rfl) hS (yd_yes rfl (congrArg Value.bool hg20) fun A hA => rn_move (by conv => lhs; whnf)) ?_
        refine wd_take 6 _ _ rfl (by kernel_rfl) hS (yd_yes rfl (congrArg Value.bool hg20) fun A hA => rn_load1 p_22 rfl (hB4.ext hA id) rfl) ?_
        refine wd_take 7 _ _ rfl (by kernel_rfl) hS (yd_yes rfl (congrArg Value.bool hg20) fun A hA => rn_move (by conv => lhs; whnf)) ?_
        refine wd_take 8 _ _ rfl (by kernel_rfl) hS (yd_yes rfl (congrArg Value.bool hg20) fun A hA => rn_indexAddr sl_22 (a := ⟨bt, ot, none⟩) (n := T.length) (c := c) (by rw [← eat]; rfl) rfl (by omega)) ?_
        refine wd_take 9 _ _ rfl (by kernel_rfl) hS (yd_yes rfl (congrArg Value.bool hg20) fun A hA => rn_load p_9 rfl ((((eat ▸ hs : Sl Non w (.slice (some ⟨bt, ot, none⟩) T.length c) 1 (T.map eS1)).ext hXo (fun _ h => h)).ext hA (fun _ h => h.elim)).at0 (eS_at (i := ((x.1 : Nat) : Int).toNat) ht) rfl)) ?_
        refine wd_take 10 _ _ rfl (by kernel_rfl) hS (yd_yes rfl (congrArg Value.bool hg20) fun A hA => rn_sneq rfl rfl) ?_
        refine wd_take 11 _ _ rfl (by kernel_rfl) hS (yd_yes rfl (congrArg Value.bool hg20) fun A hA => rn_move (by conv => lhs; whnf)) ?_
        refine wd_split (d := 27) rfl (fun hg27 => ?_) (fun hg27 => ?_)
        · have q1 : ¬ x.2 = t := by simpa using of_decide_eq_true hg27
          refine wd_take 12 _ _ rfl (by kernel_rfl) hS (yd_yes rfl (congrArg Value.bool hg27) fun A hA => rn_move (by conv => lhs; whnf)) ?_
          refine wd_take 13 _ _ rfl (by kernel_rfl) hS (yd_yes rfl (congrArg Value.bool hg27) fun A hA => rn_seql rfl rfl) ?_
          refine wd_take 14 _ _ rfl (by kernel_rfl) hS (yd_yes rfl (congrArg Value.bool hg27) fun A hA => rn_move (by conv => lhs; whnf)) ?_
          refine wd_split (d := 30) rfl (fun hg30 => ?_) (fun hg30 => ?_)
          · have q2 : x.2 = [43] := of_decide_eq_true hg30
            refine wd_take 15 _ _ rfl (by kernel_rfl) hS (yd_yes rfl (congrArg Value.bool hg30) fun A hA => rn_load1 p_37 rfl (hB5.ext hA id) rfl) ?_
            refine wd_take 16 _ _ rfl (by kernel_rfl) hS (yd_yes rfl (congrArg Value.bool hg30) fun A hA => rn_load1 p_22 rfl (hB4.ext hA id) rfl) ?_
            refine wd_take 17 _ _ rfl (by kernel_rfl) hS (yd_yes rfl (congrArg Value.bool hg30) fun A hA => rn_move (by conv => lhs; whnf)) ?_
            refine wd_take 18 _ _ rfl (by kernel_rfl) hS (yd_yes rfl (congrArg Value.bool hg30) fun A hA => rn_indexAddr sl_22 (a := ⟨bt, ot, none⟩) (n := T.length) (c := c) (by rw [← eat]; rfl) rfl (by omega)) ?_
            refine wd_take 19 _ _ rfl (by kernel_rfl) hS (yd_yes rfl (congrArg Value.bool hg30) fun A hA => rn_load p_9 rfl ((((eat ▸ hs : Sl Non w (.slice (some ⟨bt, ot, none⟩) T.length c) 1 (T.map eS1)).ext hXo (fun _ h => h)).ext hA (fun _ h => h.elim)).at0 (eS_at (i := ((x.1 : Nat) : Int).toNat) ht) rfl)) ?_
            refine wd_only 20 _ rfl (by kernel_rfl) ?_
            refine s1_yes rfl (congrArg Value.bool hg30) ?_
            refine wl_tell (s := t) rfl hp.1 rfl (hp.2 w8 t (hTl t (List.mem_of_getElem? ht)) (hXo.tr hS)) ?_; intro w10 hE10
            replace hS := hS.tr hE10
            refine wl_nil ⟨hS, ?_⟩
            refine wd_take 21 _ _ rfl (by kernel_rfl) hS (yd_yes rfl (congrArg Value.bool hg27) fun A hA => rn_pickT (congrArg Value.bool hg30) (by conv => lhs; whnf)) ?_
            refine wd_take 22 _ _ rfl (by kernel_rfl) hS (yd_yes rfl (congrArg Value.bool hg27) fun A hA => rn_not rfl) ?_
            refine wd_take 23 _ _ rfl (by kernel_rfl) hS (yd_yes rfl (congrArg Value.bool hg20) fun A hA => rn_pickT (congrArg Value.bool hg27) (by conv => lhs; whnf)) ?_
            refine wd_take 24 _ _ rfl (by kernel_rfl) hS (yd_do fun A hA => rn_pickF (congrArg Value.bool hg20) (by conv => lhs; whnf)) ?_
            refine wd_done (by kernel_rfl) ?_ _
            replace hX := hX.tr hS
            replace hB4 := hB4.ext hS id; replace hB5 := hB5.ext hS id; replace hB6 := hB6.ext hS id; replace hB7 := hB7.ext hS id
            replace hXo := hXo.tr hS
            replace hDk := hDk.non hS
            replace hW := hW.tr hS
            refine W_cond rfl (fun hc1 => ?_) (fun hc1 => ?_)
            · have hR : likeB p (spl 47 f) T = false := by first | assumption | exact like_no hxl q35 (by rw [hxi]; exact hIr.1) (not_okAt hxl ht q1 (fun _ => by simpa using hc1))
              refine W_seq ?_
              refine W_region ?_
              have hBo := hB6
              refine wl_store1 (b := b6) p_4 rfl (by conv => lhs; whnf) rfl rfl hB6 (Nat.le_of_ble_eq_true rfl) ?_; intro w11 hE11 hB6 hz11
              replace hX := hX.mine hE11 hl6
              replace hB4 := hB4.ext hE11 (fun h => by omega); replace hB5 := hB5.ext hE11 (fun h => by omega); replace hB7 := hB7.ext hE11 (fun h => by omega)
              replace hXo := hXo.mine hE11 (.inr ho6)
              replace hDk := hDk.box hE11 hBo
              replace hW := hW.mine hE11 (.inl (by first | exact .inl rfl | exact .inr rfl))
              refine wl_nil ?_
              refine W_ret ?_
              replace hB6 := hB6.cast (cs' := [Value.bool (likeB p (spl 47 f) T)]) (by rw [hR] <;> rfl)
              exact ⟨hX, rfl, ⟨hB6, hK6.2⟩, hXo, hW, hDk, trivial⟩
            · have hok : okAt p (spl 47 f) T x.1 := by first | assumption | exact ⟨x.2, t, hxl, ht, .inr ⟨q2, by simpa using hc1⟩⟩ | exact absurd hc1 (by simp)
              refine W_skip ?_
              refine W_region ?_
              refine wl_val (rn_load1 p_3 rfl hB7 rfl) ?_
              refine wl_val (rn_add rfl rfl (by omega)) ?_
              have hBo := hB7
              refine wl_store1 (b := b7) p_3 rfl (by conv => lhs; whnf) rfl rfl hB7 (Nat.le_of_ble_eq_true rfl) ?_; intro w12 hE12 hB7 hz12
              replace hX := hX.mine hE12 hl7
              replace hB4 := hB4.ext hE12 (fun h => by omega); replace hB5 := hB5.ext hE12 (fun h => by omega); replace hB6 := hB6.ext hE12 (fun h => by omega)
              replace hXo := hXo.mine hE12 (.inr ho7)
              replace hDk := hDk.box hE12 hBo
              replace hW := hW.mine hE12 (.inl (by first | exact .inl rfl | exact .inr rfl))
              refine wl_nil ?_
              replace hB7 := hB7.cast (show [Value.int .i64 ((pre.length : Int) + 1)] = [.int .i64 ((pre ++ [x]).length : Nat)] by simp)
              exact ⟨hX, ⟨hB4, hK4.2⟩, ⟨hB5, hK5.2⟩, ⟨hB6, hK6.2⟩, ⟨hB7, hK7.2⟩, hXo, hW, hDk, ⟨fun j hj => by rw [List.length_append, List.length_singleton] at hj; rcases Nat.lt_or_ge j pre.length with h | h; exact hIr.1 j h; (have e : j = x.1 := by omega); subst e; exact ⟨hok, by rw [hxl]; exact fun e => q35 (Option.some.inj e)⟩, by rw [List.length_append, List.length_singleton]; omega⟩⟩
          · have hR : likeB p (spl 47 f) T = false := like_no hxl q35 (by rw [hxi]; exact hIr.1) (not_okAt hxl ht q1 (fun e => absurd e (of_decide_eq_false hg30)))
            refine wd_take 15 _ _ rfl (by kernel_rfl) hS (yd_no rfl (congrArg Value.bool hg30)) ?_
            refine wd_take 16 _ _ rfl (by kernel_rfl) hS (yd_no rfl (congrArg Value.bool hg30)) ?_
            refine wd_take 17 _ _ rfl (by kernel_rfl) hS (yd_no rfl (congrArg Value.bool hg30)) ?_
            refine wd_take 18 _ _ rfl (by kernel_rfl) hS (yd_no rfl (congrArg Value.bool hg30)) ?_
            refine wd_take 19 _ _ rfl (by kernel_rfl) hS (yd_no rfl (congrArg Value.bool hg30)) ?_
            refine wd_only 20 _ rfl (by kernel_rfl) ?_
            refine s1_no rfl (congrArg Value.bool hg30) ⟨hS, ?_⟩
            refine wd_take 21 _ _ rfl (by kernel_rfl) hS (yd_yes rfl (congrArg Value.bool hg27) fun A hA => rn_pickF (congrArg Value.bool hg30) (by conv => lhs; whnf)) ?_
            refine wd_take 22 _ _ rfl (by kernel_rfl) hS (yd_yes rfl (congrArg Value.bool hg27) fun A hA => rn_not rfl) ?_
            refine wd_take 23 _ _ rfl (by kernel_rfl) hS (yd_yes rfl (congrArg Value.bool hg20) fun A hA => rn_pickT (congrArg Value.bool hg27) (by conv => lhs; whnf)) ?_
            refine wd_take 24 _ _ rfl (by kernel_rfl) hS (yd_do fun A hA => rn_pickF (congrArg Value.bool hg20) (by conv => lhs; whnf)) ?_
            refine wd_done (by kernel_rfl) ?_ _
            replace hX := hX.tr hS
            replace hB4 := hB4.ext hS id; replace hB5 := hB5.ext hS id; replace hB6 := hB6.ext hS id; replace hB7 := hB7.ext hS id
            replace hXo := hXo.tr hS
            replace hDk := hDk.non hS
            replace hW := hW.tr hS
            refine W_cond rfl (fun hc1 => ?_) (fun hc1 => ?_)
            · have hR : likeB p (spl 47 f) T = false := by first | assumption | exact like_no hxl q35 (by rw [hxi]; exact hIr.1) (not_okAt hxl ht q1 (fun _ => by simpa using hc1))
              refine W_seq ?_
              refine W_region ?_
              have hBo := hB6
              refine wl_store1 (b := b6) p_4 rfl (by conv => lhs; whnf) rfl rfl hB6 (Nat.le_of_ble_eq_true rfl) ?_; intro w13 hE13 hB6 hz13
              replace hX := hX.mine hE13 hl6
              replace hB4 := hB4.ext hE13 (fun h => by omega); replace hB5 := hB5.ext hE13 (fun h => by omega); replace hB7 := hB7.ext hE13 (fun h => by omega)
              replace hXo := hXo.mine hE13 (.inr ho6)
              replace hDk := hDk.box hE13 hBo
              replace hW := hW.mine hE13 (.inl (by first | exact .inl rfl | exact .inr rfl))
              refine wl_nil ?_
              refine W_ret ?_
              replace hB6 := hB6.cast (cs' := [Value.bool (likeB p (spl 47 f) T)]) (by rw [hR] <;> rfl)
              exact ⟨hX, rfl, ⟨hB6, hK6.2⟩, hXo, hW, hDk, trivial⟩
            · have hok : okAt p (spl 47 f) T x.1 := by first | assumption | exact ⟨x.2, t, hxl, ht, .inr ⟨q2, by simpa using hc1⟩⟩ | exact absurd hc1 (by simp)
              refine W_skip ?_
              refine W_region ?_
              refine wl_val (rn_load1 p_3 rfl hB7 rfl) ?_
              refine wl_val (rn_add rfl rfl (by omega)) ?_
              have hBo := hB7
              refine wl_store1 (b := b7) p_3 rfl (by conv => lhs; whnf) rfl rfl hB7 (Nat.le_of_ble_eq_true rfl) ?_; intro w14 hE14 hB7 hz14
              replace hX := hX.mine hE14 hl7
              replace hB4 := hB4.ext hE14 (fun h => by omega); replace hB5 := hB5.ext hE14 (fun h => by omega); replace hB6 := hB6.ext hE14 (fun h => by omega)
              replace hXo := hXo.mine hE14 (.inr ho7)
              replace hDk := hDk.box hE14 hBo
              replace hW := hW.mine hE14 (.inl (by first | exact .inl rfl | exact .inr rfl))
              refine wl_nil ?_
              replace hB7 := hB7.cast (show [Value.int .i64 ((pre.length : Int) + 1)] = [.int .i64 ((pre ++ [x]).length : Nat)] by simp)
              exact ⟨hX, ⟨hB4, hK4.2⟩, ⟨hB5, hK5.2⟩, ⟨hB6, hK6.2⟩, ⟨hB7, hK7.2⟩, hXo, hW, hDk, ⟨fun j hj => by rw [List.length_append, List.length_singleton] at hj; rcases Nat.lt_or_ge j pre.length with h | h; exact hIr.1 j h; (have e : j = x.1 := by omega); subst e; exact ⟨hok, by rw [hxl]; exact fun e => q35 (Option.some.inj e)⟩, by rw [List.length_append, List.length_singleton]; omega⟩⟩
        · have hok : okAt p (spl 47 f) T x.1 := ⟨x.2, t, hxl, ht, .inl (by simpa using of_decide_eq_false hg27)⟩
          refine wd_take 12 _ _ rfl (by kernel_rfl) hS (yd_no rfl (congrArg Value.bool hg27)) ?_
          refine wd_take 13 _ _ rfl (by kernel_rfl) hS (yd_no rfl (congrArg Value.bool hg27)) ?_
          refine wd_take 14 _ _ rfl (by kernel_rfl) hS (yd_no rfl (congrArg Value.bool hg27)) ?_
          refine wd_take 15 _ _ rfl (by kernel_rfl) hS (yd_nou rfl rfl) ?_
          refine wd_take 16 _ _ rfl (by kernel_rfl) hS (yd_nou rfl rfl) ?_
          refine wd_take 17 _ _ rfl (by kernel_rfl) hS (yd_nou rfl rfl) ?_
          refine wd_take 18 _ _ rfl (by kernel_rfl) hS (yd_nou rfl rfl) ?_
          refine wd_take 19 _ _ rfl (by kernel_rfl) hS (yd_nou rfl rfl) ?_
          refine wd_only 20 _ rfl (by kernel_rfl) ?_
          refine s1_nou rfl rfl ⟨hS, ?_⟩
          refine wd_take 21 _ _ rfl (by kernel_rfl) hS (yd_no rfl (congrArg Value.bool hg27)) ?_
          refine wd_take 22 _ _ rfl (by kernel_rfl) hS (yd_no rfl (congrArg Value.bool hg27)) ?_
          refine wd_take 23 _ _ rfl (by kernel_rfl) hS (yd_yes rfl (congrArg Value.bool hg20) fun A hA => rn_pickF (congrArg Value.bool hg27) (by conv => lhs; whnf)) ?_
          refine wd_take 24 _ _ rfl (by kernel_rfl) hS (yd_do fun A hA => rn_pickF (congrArg Value.bool hg20) (by conv => lhs; whnf)) ?_
          refine wd_done (by kernel_rfl) ?_ _
          replace hX := hX.tr hS
          replace hB4 := hB4.ext hS id; replace hB5 := hB5.ext hS id; replace hB6 := hB6.ext hS id; replace hB7 := hB7.ext hS id
          replace hXo := hXo.tr hS
          replace hDk := hDk.non hS
          replace hW := hW.tr hS
          refine W_condF rfl ?_
          refine W_skip ?_
          refine W_region ?_
          refine wl_val (rn_load1 p_3 rfl hB7 rfl) ?_
          refine wl_val (rn_add rfl rfl (by omega)) ?_
          have hBo := hB7
          refine wl_store1 (b := b7) p_3 rfl (by conv => lhs; whnf) rfl rfl hB7 (Nat.le_of_ble_eq_true rfl) ?_; intro w15 hE15 hB7 hz15
          replace hX := hX.mine hE15 hl7
          replace hB4 := hB4.ext hE15 (fun h => by omega); replace hB5 := hB5.ext hE15 (fun h => by omega); replace hB6 := hB6.ext hE15 (fun h => by omega)
          replace hXo := hXo.mine hE15 (.inr ho7)
          replace hDk := hDk.box hE15 hBo
          replace hW := hW.mine hE15 (.inl (by first | exact .inl rfl | exact .inr rfl))
          refine wl_nil ?_
          replace hB7 := hB7.cast (show [Value.int .i64 ((pre.length : Int) + 1)] = [.int .i64 ((pre ++ [x]).length : Nat)] by simp)
          exact ⟨hX, ⟨hB4, hK4.2⟩, ⟨hB5, hK5.2⟩, ⟨hB6, hK6.2⟩, ⟨hB7, hK7.2⟩, hXo, hW, hDk, ⟨fun j hj => by rw [List.length_append, List.length_singleton] at hj; rcases Nat.lt_or_ge j pre.length with h | h; exact hIr.1 j h; (have e : j = x.1 := by omega); subst e; exact ⟨hok, by rw [hxl]; exact fun e => q35 (Option.some.inj e)⟩, by rw [List.length_append, List.length_singleton]; omega⟩⟩
  · rintro N rk w' ⟨hK4, hK5, hK6, hK7, hXo, hW, hDk, hIr⟩ hN hA hr hrd
    have hB4 := hK4.1
    have hB5 := hK5.1
    have hB6 := hK6.1
    have hB7 := hK7.1
    have hX := hXo; have hD := hDk.add hrd (Nat.le_trans hszr (hN rk hr).1) hr
    refine W_seq ?_
    refine W_region ?_
    refine wl_val (rn_load1 p_3 rfl hB7 rfl) ?_
    refine wl_val (rn_load1 p_22 rfl hB4 rfl) ?_
    refine wl_val (rn_len sl_22 rfl) ?_
    refine wl_val (rn_eql rfl rfl) ?_
    have hBo := hB6
    refine wl_store1 (b := b6) p_4 rfl (by conv => lhs; whnf) rfl rfl hB6 (Nat.le_of_ble_eq_true rfl) ?_; intro w16 hE16 hB6 hz16
    replace hX := hX.mine hE16 hl6
    replace hB4 := hB4.ext hE16 (fun h => by omega); replace hB5 := hB5.ext hE16 (fun h => by omega); replace hB7 := hB7.ext hE16 (fun h => by omega)
    replace hD := hD.box hE16 hBo
    refine wl_nil ?_
    refine W_ret ?_
    refine hD.leave fun B hB => ?_
    have hB4 := hB4.ext hB (hD.ne hB4)
    have hB5 := hB5.ext hB (hD.ne hB5)
    have hB6 := hB6.ext hB (hD.ne hB6)
    have hB7 := hB7.ext hB (hD.ne hB7)
    have hX := hD.out hX hB
    exact ⟨_, resR1 (res1_cell p_4 rfl hB6), hX, by rw [like_end (fun j hj => hIr.1 j (by rw [numb_len]; exact hj)), numb_len]⟩
  · rintro c N rk w' ⟨rfl, hK6, hXo, hW, hDk, hIr⟩ hN hA hr hrd
    have hB6 := hK6.1
    have hX := hXo; have hD := hDk.add hrd (Nat.le_trans hszr (hN rk hr).1) hr
    refine W_ret ?_
    refine hD.leave fun B hB => ?_
    have hB6 := hB6.ext hB (hD.ne hB6)
    have hX := hD.out hX hB
    exact ⟨_, resR1 (res1_cell p_4 rfl hB6), hX, rfl⟩
-- bellman/match.Covers$1
theorem covers1_ok (w : World) (x : Str) : Fn Tryz.prog 67 #[Sv x] w fun u w' => u = .bool (notRest x) := by
  have hX := Ext.refl Non w
  refine fn_of_W (args := [_]) Tryz.func67 rfl (by kernel_rfl) rfl ?_
  refine W_seq ?_
  refine W_region ?_
  refine wl_val (rn_assign (by conv => lhs; whnf)) ?_
  refine wl_nil ?_
  refine W_seq ?_
  refine W_region ?_
  refine wl_val (rn_move (by conv => lhs; whnf)) ?_
  refine wl_val (rn_sneq rfl rfl) ?_
  refine wl_val (rn_assign (by conv => lhs; whnf)) ?_
  refine wl_nil ?_
  refine W_ret ?_
  exact ⟨_, resR1 (res1_tmp rfl), hX, rfl⟩
theorem tells_rest (w : World) : Tells 67 #[] w notRest := ⟨e_67, fun A x _ _ => covers1_ok A x⟩
-- bellman/match.Covers
set_option maxHeartbeats 800000 in
theorem tcovers_ok (w : World) (f t : Str) (hnf : f.length ≤ 1000000) (hnt : t.length ≤ 1000000) : Fn Tryz.prog 40 #[Sv f, Sv t] w fun u w' => u = .bool (coversB f t) := by
  have hX := Ext.refl Non w
  refine fn_of_W (args := [_, _]) Tryz.func40 rfl (by kernel_rfl) rfl ?_
  refine W_seq ?_
  refine W_region ?_
  refine wl_val (rn_assign (by conv => lhs; whnf)) ?_
  refine wl_nil ?_
  refine W_seq ?_
  refine W_seq ?_
  refine W_region ?_
  refine wl_val (rn_move (by conv => lhs; whnf)) ?_
  refine wl_call e_64 rfl (tfilter_ok w f hnf) ?_; intro v6 w1 hE1 hR1
  replace hX := hX.tr hE1
  subst hR1
  refine wl_val (rn_not rfl) ?_
  refine wl_val (rn_move (by conv => lhs; whnf)) ?_
  refine wl_split (d := 8) rfl (fun hg8 => ?_) (fun hg8 => ?_)
  · have hR : coversB f t = false := covers_no1 (by simpa using hg8)
    refine wl_no rfl (congrArg Value.bool hg8) ?_
    refine wl_no rfl (congrArg Value.bool hg8) ?_
    refine wl_no rfl (congrArg Value.bool hg8) ?_
    refine wl_val (rn_pickT (congrArg Value.bool hg8) (by conv => lhs; whnf)) ?_
    refine wl_val (rn_move (by conv => lhs; whnf)) ?_
    refine wl_no rfl rfl ?_
    refine wl_no rfl rfl ?_
    refine wl_no rfl rfl ?_
    refine wl_val (rn_pickT rfl (by conv => lhs; whnf)) ?_
    refine wl_nil ?_
    refine W_condT rfl ?_
    refine W_seq ?_
    refine W_region ?_
    refine wl_val (rn_assign (by conv => lhs; whnf)) ?_
    refine wl_nil ?_
    refine W_ret ?_
    exact ⟨_, resR1 (res1_tmp rfl), hX, by rw [hR]; rfl⟩
  · have hF : filterB f = true := by simpa using hg8
    refine wl_yes rfl (congrArg Value.bool hg8) ?_
    refine wl_val (rn_move (by conv => lhs; whnf)) ?_
    refine wl_yes rfl (congrArg Value.bool hg8) ?_
    refine wl_call e_64 rfl (tfilter_ok w1 t hnt) ?_; intro v10 w2 hE2 hR2
    replace hX := hX.tr hE2
    subst hR2
    refine wl_yes rfl (congrArg Value.bool hg8) ?_
    refine wl_val (rn_not rfl) ?_
    refine wl_val (rn_pickF (congrArg Value.bool hg8) (by conv => lhs; whnf)) ?_
    refine wl_val (rn_move (by conv => lhs; whnf)) ?_
    refine wl_split (d := 13) rfl (fun hg13 => ?_) (fun hg13 => ?_)
    · have hR : coversB f t = false := covers_no2 (by simpa using hg13)
      refine wl_no rfl (congrArg Value.bool hg13) ?_
      refine wl_no rfl (congrArg Value.bool hg13) ?_
      refine wl_no rfl (congrArg Value.bool hg13) ?_
      refine wl_val (rn_pickT (congrArg Value.bool hg13) (by conv => lhs; whnf)) ?_
      refine wl_nil ?_
      refine W_condT rfl ?_
      refine W_seq ?_
      refine W_region ?_
      refine wl_val (rn_assign (by conv => lhs; whnf)) ?_
      refine wl_nil ?_
      refine W_ret ?_
      exact ⟨_, resR1 (res1_tmp rfl), hX, by rw [hR]; rfl⟩
    · have hP : filterB t = true := by simpa using hg13
      refine wl_yes rfl (congrArg Value.bool hg13) ?_
      refine wl_val (rn_move (by conv => lhs; whnf)) ?_
      refine wl_yes rfl (congrArg Value.bool hg13) ?_
      refine wl_val (rn_move (by conv => lhs; whnf)) ?_
      refine wl_yes rfl (congrArg Value.bool hg13) ?_
      refine wl_call e_65 rfl (apart_ok w2 f t hnf hnt) ?_; intro v16 w3 hE3 hR3
      replace hX := hX.tr hE3
      subst hR3
      refine wl_val (rn_pickF (congrArg Value.bool hg13) (by conv => lhs; whnf)) ?_
      refine wl_nil ?_
      refine W_cond rfl (fun hc0 => ?_) (fun hc0 => ?_)
      · have hR : coversB f t = false := by first | assumption | exact covers_no3 hc0
        refine W_seq ?_
        refine W_region ?_
        refine wl_val (rn_assign (by conv => lhs; whnf)) ?_
        refine wl_nil ?_
        refine W_ret ?_
        exact ⟨_, resR1 (res1_tmp rfl), hX, by rw [hR]; rfl⟩
      · have hR := covers_eq hF hP hc0
        refine W_skip ?_
        refine W_seq ?_
        refine W_region ?_
        refine wl_val (rn_move (by conv => lhs; whnf)) ?_
        refine wl_val (rn_move (by conv => lhs; whnf)) ?_
        refine wl_call e_26 rfl (levels_ok w3 t hnt) ?_; intro v20 w4 hE4 hR4
        replace hX := hX.tr hE4
        have hL := hR4; obtain ⟨a20, c20, hv20_, _⟩ := id hL.len; rw [List.length_map] at hv20_; subst hv20_
        obtain ⟨wL, hwL⟩ : ∃ x, x = w4 := ⟨_, rfl⟩
        rw [← hwL] at hL
        have hV : Ext Non wL w4 := by rw [hwL]; exact Ext.refl _ _
        refine wl_call e_66 rfl (like_ok w4 f (spl 47 t) notRest hnf (fun x hx => by have := spl_le hx; omega) (hL.ext hV (fun _ h => h)) (tells_rest w4)) ?_; intro v21 w5 hE5 hR5
        replace hX := hX.tr hE5
        replace hV := hV.tr hE5
        subst hR5
        refine wl_val (rn_assign (by conv => lhs; whnf)) ?_
        refine wl_nil ?_
        refine W_ret ?_
        exact ⟨_, resR1 (res1_tmp rfl), hX, by rw [hR]; rfl⟩
end Go.Proofs.YtaddeakfojpdoaaGreatDoorC

/- Tries: the pairs that a filter covers. -/
set_option linter.unusedVariables false
set_option linter.unusedSimpArgs false
set_option maxRecDepth 100000
namespace Go.Proofs.YtaddeakfojpdoaaGreatDoorC
open Go.RowKit
-- bellman/walk.Under$1
set_option maxHeartbeats 1600000 in
theorem under_iter (t : Tr) {n m : Nat} (hok : t.Ok n m) (hm : m ≤ 1000000) (f : Str) (hnf : f.length ≤ 1000000) (hkl : ∀ q ∈ t.told [], q.1.length ≤ 1000000) (M : Nat → Prop) (w0 : World) (b1 b2 : Nat) {v : Value} (ht : TrM M w0 t v) (hC1 : IsBox w0 b1 [v]) (hC2 : IsBox w0 b2 [Sv f]) (h1 : ¬ M b1) (h2 : ¬ M b2) :
    Iter Tryz.prog M w0 (.func (.func 39) #[] #[.pointer (some ⟨b1, 0, none⟩), .pointer (some ⟨b2, 0, none⟩)]) encT ((t.told []).filter fun q => coversB f q.1) := by
  refine iter_ofS e_39 fun l W J Jx hW hT hY => ?_
  replace hT := hT.all0
  obtain ⟨pa, rfl⟩ := ht.ptr
  have ea : (#[Value.func (.yield l) #[] #[]] ++ #[.pointer (some ⟨b1, 0, none⟩), .pointer (some ⟨b2, 0, none⟩)] : Array Value) = [Value.func (.yield l) #[] #[], .pointer (some ⟨b1, 0, none⟩), .pointer (some ⟨b2, 0, none⟩)].toArray := by simp
  rw [ea]
  have hX := Ext.refl Tru W
  have hB1 := hC1.ext hW h1; have hB2 := hC2.ext hW h2
  have hl1 : Mine Tru W b1 := .inl trivial; have hl2 : Mine Tru W b2 := .inl trivial
  refine calls_of_W (R := fun v W' => Ts M w0 W (J ((t.told []).filter fun q => coversB f q.1)) Non W' ∨ Ts M w0 W Jx Non W') Tryz.func39 rfl (by kernel_rfl) rfl ?_
  refine W_seq ?_
  refine W_region ?_
  refine wl_box1 (by conv => lhs; whnf) rfl ?_; intro b3 w1 hb3 hE1 hB3
  have hn1_3 : b1 < b3 := Nat.lt_of_lt_of_le hB1.lt hb3
  have hn2_3 : b2 < b3 := Nat.lt_of_lt_of_le hB2.lt hb3
  have hq3 : W.heap.size ≤ b3 := Nat.le_trans hX.size hb3
  have hl3 : Mine Tru W b3 := .inr hq3
  replace hX := hX.tr hE1
  replace hB1 := hB1.ext hE1 id; replace hB2 := hB2.ext hE1 id
  replace hT := hT.allT hE1
  refine wl_nil ?_
  refine W_seq ?_
  refine W_region ?_
  have hz3 := hB3.lt; have hW2 := hX.size; have hzC2 := hC2.lt
  have htr := (((ht.sub (M' := fun i => M i ∨ w0.heap.size ≤ i) (fun i h hi => h.resolve_right (by omega))).ext hW (fun i h => .inl h)).ext hE1 (fun _ h => h.elim)).sub (M' := fun i => (M i ∨ w0.heap.size ≤ i) ∧ i < w1.heap.size) (fun i h _ => h.1)
  refine wl_val (rn_load1 p_26 rfl hB1 rfl) ?_
  refine wl_call e_10 rfl (pairs_ok w1 t hok hm (fun i => (M i ∨ w0.heap.size ≤ i) ∧ i < w1.heap.size) (fun i h => h.2) htr) ?_; intro v7 w2 hE2 hR2
  replace hX := hX.tr hE2
  replace hB1 := hB1.ext hE2 id; replace hB2 := hB2.ext hE2 id; replace hB3 := hB3.ext hE2 id
  replace hT := hT.allT hE2
  have hIt := (hR2).1; obtain ⟨fi, ci, hfi, _⟩ := id hIt; subst hfi
  have hz38 := hE2.size
  refine wl_nil ?_
  refine W_block ?_   -- block 0
  have hszr := hX.size
  refine W_rangeFunc (M := fun i => (M i ∨ w0.heap.size ≤ i) ∧ i < w1.heap.size) (w0 := w2) (I := fun pre N A => Box N A b2 [Sv f] ∧ Box N A b3 [.func (.yield l) #[] #[]] ∧ Ext Tru W A ∧ MkN W [] N A ∧ (Ts M w0 W (J (pre.filter fun q => coversB f q.1)) (fun i => Al W w2 i ∨ N i) A) ∧ (True)) (X := fun c N A => c = .ret ∧ Ext Tru W A ∧ MkN W [] N A ∧ (Ts M w0 W Jx (fun i => Al W w2 i ∨ N i) A) ∧ (True)) (encs := fun q : Str × Int => [Sv q.1, .int .i64 q.2]) (xs := t.told []) rfl (hIt) (Ext.refl _ w2) (fun _ => rfl) (fun pre => (Stab.box _ _).and ((Stab.box _ _).and ((Stab.oldM hX.size).and ((Stab.mk _ _).and ((Ts.stabS _ _ _ _ _).and ((Stab.pure _))))))) (fun c => (Stab.pure _).and ((Stab.oldM hX.size).and ((Stab.mk _ _).and ((Ts.stabS _ _ _ _ _).and ((Stab.pure _)))))) ⟨⟨hB2, id⟩, ⟨hB3, id⟩, hX, ⟨Mk.nil, fun r h => by cases h⟩, hT.less (fun i hi => hi.elim id (fun h => h.elim)), trivial⟩ ?_ ?_ ?_
  · rintro l N pre x A hl hN hA hst ⟨hK2, hK3, hXo, hDk, hT, hIr⟩ ⟨post, hpre⟩
    have hB2 := hK2.1
    have hB3 := hK3.1
    have hX := Ext.refl (Yc (fun i => (M i ∨ w0.heap.size ≤ i) ∧ i < w1.heap.size) w2 N) A
    replace hT := Ts.grow0 hT
    refine W_seq ?_
    refine W_region ?_
    refine wl_val (rn_assign (by conv => lhs; whnf)) ?_
    refine wl_nil ?_
    refine W_region ?_
    refine wl_val (rn_assign (by conv => lhs; whnf)) ?_
    refine wl_nil ?_
    refine ⟨rfl, hX, fun A2 hE2r hz2r hst2 => ?_⟩
    have hNl := (hN l hl).2
    replace hB2 := hB2.ext hE2r (fun e => hK2.2 (by rw [e]; exact hl))
    replace hB3 := hB3.ext hE2r (fun e => hK3.2 (by rw [e]; exact hl))
    replace hXo := hXo.mine hE2r (.inr (Nat.le_trans hszr (hN l hl).1)); replace hDk := hDk.lp hE2r hl
    replace hT := hT.grow hE2r (fun i e => .inl (.inr (by rw [e]; exact hl)))
    have hX := Ext.refl (Yc (fun i => (M i ∨ w0.heap.size ≤ i) ∧ i < w1.heap.size) w2 N) A2
    have hxl : x.1.length ≤ 1000000 := hkl x (by rw [hpre]; simp)
    refine W_block ?_   -- block 1
    refine W_seq ?_
    refine W_region ?_
    refine wl_val (rn_load1 p_9 rfl hB2 rfl) ?_
    refine wl_val (rn_move (by conv => lhs; whnf)) ?_
    refine wl_call e_40 rfl (tcovers_ok A2 f x.1 hnf hxl) ?_; intro v12 w3 hE3 hR3
    replace hX := hX.tr hE3
    replace hB2 := hB2.ext hE3 id; replace hB3 := hB3.ext hE3 id
    replace hXo := hXo.tr hE3
    replace hDk := hDk.non hE3
    replace hT := hT.grow hE3 (fun _ h => h.elim)
    subst hR3
    refine wl_val (rn_move (by conv => lhs; whnf)) ?_
    refine wl_split (d := 13) rfl (fun hg13 => ?_) (fun hg13 => ?_)
    · refine wl_yes rfl (congrArg Value.bool hg13) ?_
      refine wl_val (rn_load1 p_70 rfl hB3 rfl) ?_
      refine wl_yes rfl (congrArg Value.bool hg13) ?_
      refine wl_val (rn_move (by conv => lhs; whnf)) ?_
      refine wl_yes rfl (congrArg Value.bool hg13) ?_
      refine wl_val (rn_move (by conv => lhs; whnf)) ?_
      refine wl_yes rfl (congrArg Value.bool hg13) ?_
      refine wl_yield rfl rfl (hY (pre.filter fun q => coversB f q.1) x (post.filter fun q => coversB f q.1) _ w3 (by rw [hpre, List.filter_append, List.filter_cons_of_pos (by exact hg13)]) hT) ?_; intro y17 w4 ⟨hE4, hyT, hyF⟩
      replace hX := hX.trans (hE4.mono fun i h => ⟨fun hn => h.1 (.inl (.inr hn)), (Nat.lt_or_ge i w2.heap.size).elim (fun h4 => .inl ⟨h.2, (Nat.lt_or_ge i w1.heap.size).elim id (fun h3 => absurd (Or.inl (Or.inl ⟨Nat.le_trans hW2 h3, h4⟩)) h.1)⟩) .inr⟩)
      replace hXo := hXo.trans (hE4.mono fun _ _ => trivial); replace hDk : MkN W [] N w4 := ⟨Mk.nil, fun r h => by cases h⟩
      replace hB2 := hB2.ext hE4 (fun h => h.2.elim h2 (fun e => by omega)); replace hB3 := hB3.ext hE4 (fun h => h.1 (.inl (.inl ⟨hq3, by omega⟩)))
      refine wl_yes rfl (congrArg Value.bool hg13) ?_
      refine wl_val (rn_not rfl) ?_
      refine wl_val (rn_pickT (congrArg Value.bool hg13) (by conv => lhs; whnf)) ?_
      refine wl_nil ?_
      refine W_cond rfl (fun hc0 => ?_) (fun hc0 => ?_)
      · have hTx := (hyF (by simpa using hc0)).less (S' := fun i => Al W w2 i ∨ N i) (fun i h => .inl h)
        refine W_ret ?_
        exact ⟨hX, rfl, hXo, hDk, hTx, trivial⟩
      · replace hT := hyT (by simpa using hc0)
        refine W_skip ?_
        exact ⟨hX, ⟨hB2, hK2.2⟩, ⟨hB3, hK3.2⟩, hXo, hDk, (by rw [List.filter_append, List.filter_cons_of_pos (by exact hg13), List.filter_nil]; exact hT.less (fun i h => .inl h)), trivial⟩
    · refine wl_no rfl (congrArg Value.bool hg13) ?_
      refine wl_no rfl (congrArg Value.bool hg13) ?_
      refine wl_no rfl (congrArg Value.bool hg13) ?_
      refine wl_no rfl (congrArg Value.bool hg13) ?_
      refine wl_no rfl (congrArg Value.bool hg13) ?_
      refine wl_val (rn_pickF (congrArg Value.bool hg13) (by conv => lhs; whnf)) ?_
      refine wl_nil ?_
      refine W_condF rfl ?_
      refine W_skip ?_
      exact ⟨hX, ⟨hB2, hK2.2⟩, ⟨hB3, hK3.2⟩, hXo, hDk, (by rw [List.filter_append, List.filter_cons_of_neg (by rw [hg13]; simp), List.filter_nil, List.append_nil]; exact hT.less (fun i h => .inl h)), trivial⟩
  · rintro N rk w' ⟨hK2, hK3, hXo, hDk, hT, hIr⟩ hN hA hr hrd
    have hB2 := hK2.1
    have hB3 := hK3.1
    have hX := hXo; have hD := hDk.add hrd (Nat.le_trans hszr (hN rk hr).1) hr
    refine hD.leave fun B hB => ?_
    have hB2 := hB2.ext hB (hD.ne hB2)
    have hB3 := hB3.ext hB (hD.ne hB3)
    exact ⟨_, rfl, .inl ((hT.ext hB (fun i hi => .inr (by simp only [List.mem_singleton] at hi; rw [mark_inj hi]; exact hr))).less (fun _ h => h.elim))⟩
  · rintro c N rk w' ⟨rfl, hXo, hDk, hTx, hIr⟩ hN hA hr hrd
    have hX := hXo; have hD := hDk.add hrd (Nat.le_trans hszr (hN rk hr).1) hr
    refine W_ret ?_
    refine hD.leave fun B hB => ?_
    exact ⟨_, rfl, .inr ((hTx.ext hB (fun i hi => .inr (by simp only [List.mem_singleton] at hi; rw [mark_inj hi]; exact hr))).less (fun _ h => h.elim))⟩
-- bellman/walk.Under
theorem under_ok (w : World) (t : Tr) {v : Value} {n m : Nat} (hok : t.Ok n m) (hm : m ≤ 1000000) (f : Str) (hnf : f.length ≤ 1000000) (hkl : ∀ q ∈ t.told [], q.1.length ≤ 1000000) (M : Nat → Prop) (hM : ∀ i, M i → i < w.heap.size) (ht : TrM M w t v) : Fn Tryz.prog 22 #[v, Sv f] w fun u w' => Iter Tryz.prog M w' u encT ((t.told []).filter fun q => coversB f q.1) := by
  obtain ⟨pa, rfl⟩ := ht.ptr
  have hX := Ext.refl Non w
  refine fn_of_W (args := [_, _]) Tryz.func22 rfl (by kernel_rfl) rfl ?_
  refine W_seq ?_
  refine W_region ?_
  refine wl_box1 (by conv => lhs; whnf) rfl ?_; intro b2 w1 hb2 hE1 hB2
  have hq2 : w.heap.size ≤ b2 := Nat.le_trans hX.size hb2
  have hl2 : Mine Non w b2 := .inr hq2
  replace hX := hX.tr hE1
  refine wl_box1 (by conv => lhs; whnf) rfl ?_; intro b3 w2 hb3 hE2 hB3
  have hn2_3 : b2 < b3 := Nat.lt_of_lt_of_le hB2.lt hb3
  have hq3 : w.heap.size ≤ b3 := Nat.le_trans hX.size hb3
  have hl3 : Mine Non w b3 := .inr hq3
  replace hX := hX.tr hE2
  replace hB2 := hB2.ext hE2 id
  refine wl_val (rn_assign (by conv => lhs; whnf)) ?_
  refine wl_nil ?_
  refine W_seq ?_
  refine W_region ?_
  refine wl_val (rn_makeFunc rfl) ?_
  refine wl_val (rn_assign (by conv => lhs; whnf)) ?_
  refine wl_nil ?_
  refine W_ret ?_
  exact ⟨_, resR1 (res1_tmp rfl), hX, under_iter t hok hm f hnf hkl M _ b2 b3 (ht.ext hX (fun _ h => h.elim)) hB2 hB3 (fun h => by have := hM _ h; omega) (fun h => by have := hM _ h; omega)⟩
-- bellman/walk.Filters
set_option maxHeartbeats 800000 in
theorem filters_ok (w : World) (t : Tr) {v : Value} {n m : Nat} (hok : t.Ok n m) (hm : m ≤ 1000000) (hn : (t.told []).length ≤ 2000) (sub : Int) (ht : TrM Non w t v) : Fn Tryz.prog 17 #[v, .int .i64 sub] w fun u w' => Sl Non w' u 1 ((((t.told []).filter fun q => decide (q.2 = sub)).map Prod.fst).map eS1) := by
  obtain ⟨pa, rfl⟩ := ht.ptr
  have hX := Ext.refl Non w
  refine fn_of_W (args := [_, _]) Tryz.func17 rfl (by kernel_rfl) rfl ?_
  refine W_seq ?_
  refine W_region ?_
  refine wl_box1 (by conv => lhs; whnf) rfl ?_; intro b3 w1 hb3 hE1 hB3
  have hq3 : w.heap.size ≤ b3 := Nat.le_trans hX.size hb3
  have hl3 : Mine Non w b3 := .inr hq3
  replace hX := hX.tr hE1
  refine wl_val (rn_assign (by conv => lhs; whnf)) ?_
  refine wl_nil ?_
  refine W_seq ?_
  refine W_region ?_
  refine wl_alloc z_22 ?_; intro b5 w2 hb5 hE2 hB5
  have hn3_5 : b3 < b5 := Nat.lt_of_lt_of_le hB3.lt hb5
  have hq5 : w.heap.size ≤ b5 := Nat.le_trans hX.size hb5
  have hl5 : Mine Non w b5 := .inr hq5
  replace hX := hX.tr hE2
  replace hB3 := hB3.ext hE2 id
  refine wl_nil ?_
  refine W_seq ?_
  refine W_seq ?_
  refine W_region ?_
  refine wl_val (rn_move (by conv => lhs; whnf)) ?_
  refine wl_call e_10 rfl (pairs_ok w2 t hok hm (fun i => i = b5) (fun i e => by rw [e]; exact hB5.lt) ((ht.sub (M' := fun i => i = b5) (fun i e hlt => by omega)).ext hX (fun _ h => h.elim))) ?_; intro v9 w3 hE3 hR3
  replace hX := hX.tr hE3
  replace hB3 := hB3.ext hE3 id; replace hB5 := hB5.ext hE3 id
  have hIt := (hR3).1; obtain ⟨fk, ck, hfk, _⟩ := id hIt; subst hfk
  have hW := Ext.refl (fun i => i = b5) w3; have hz3 := hB3.lt; have hz5 := hB5.lt
  refine wl_nil ?_
  refine W_block ?_   -- block 0
  have hszr := hX.size
  have hsz_hW := hW.size
  have ho3 : w.heap.size ≤ b3 := by rcases hl3 with h | h; exact h.elim; exact h
  have ho5 : w.heap.size ≤ b5 := by rcases hl5 with h | h; exact h.elim; exact h
  refine W_rangeFunc (M := fun i => i = b5) (w0 := w3) (I := fun pre N A => ∃ v5 : Value, ∃ oo : Option Nat, Box N A b3 [.int .i64 sub] ∧ Box N A b5 [v5] ∧ Ext Non w A ∧ Ext (fun i => i = b5) w3 A ∧ MkN w [] N A ∧ (OwX w3.heap.size N A v5 oo 1 (((pre.filter fun q => decide (q.2 = sub)).map Prod.fst).map eS1)) ∧ (True)) (X := fun c N A => False) (encs := fun q : Str × Int => [Sv q.1, .int .i64 q.2]) (xs := t.told []) rfl (hIt) (hW) (fun _ => rfl) (fun pre => Stab.ex fun v5 => Stab.ex fun oo => (Stab.box _ _).and ((Stab.box _ _).and ((Stab.old hX.size).and ((Stab.oldM hW.size).and ((Stab.mk _ _).and ((Stab.owx _ _ _ _ _).and ((Stab.pure _)))))))) (fun c => Stab.false) ⟨.slice none 0 0, none, ⟨hB3, id⟩, ⟨hB5, id⟩, hX, hW, (Mk.nil : Mk w [] w3).toN, ⟨OwO.nil, by simp⟩, trivial⟩ ?_ ?_ ?_
  · rintro l N pre x A hl hN hA hst ⟨v5, oo, hK3, hK5, hXo, hW, hDk, hO, hIr⟩ ⟨post, hpre⟩
    have hB3 := hK3.1
    have hB5 := hK5.1; have hl5 : Mine (Yc (fun i => i = b5) w3 N) A b5 := .inl ⟨hK5.2, .inl rfl⟩
    have hX := Ext.refl (Yc (fun i => i = b5) w3 N) A
    obtain ⟨a5, c5, hv5⟩ := id hO.1.len; subst hv5
    refine W_seq ?_
    refine W_region ?_
    refine wl_val (rn_assign (by conv => lhs; whnf)) ?_
    refine wl_nil ?_
    refine W_region ?_
    refine wl_val (rn_assign (by conv => lhs; whnf)) ?_
    refine wl_nil ?_
    refine ⟨rfl, hX, fun A2 hE2r hz2r hst2 => ?_⟩
    have hNl := (hN l hl).2
    replace hB3 := hB3.ext hE2r (fun e => hK3.2 (by rw [e]; exact hl))
    replace hB5 := hB5.ext hE2r (fun e => hK5.2 (by rw [e]; exact hl))
    replace hXo := hXo.mine hE2r (.inr (Nat.le_trans hszr (hN l hl).1)); replace hDk := hDk.lp hE2r hl
    replace hW := hW.mine hE2r (.inr (Nat.le_trans hsz_hW (hN l hl).1))
    replace hO := hO.ext hE2r (fun i hi e => (hO.2 i hi).1 (by rw [e]; exact hl))
    have hl5 : Mine (Yc (fun i => i = b5) w3 N) A2 b5 := .inl ⟨hK5.2, .inl rfl⟩
    have hX := Ext.refl (Yc (fun i => i = b5) w3 N) A2
    refine W_block ?_   -- block 1
    refine W_seq ?_
    refine W_region ?_
    have hfl : ((pre.filter fun q => decide (q.2 = sub)).map Prod.fst).length ≤ pre.length := by rw [List.length_map]; exact List.length_filter_le _ _
    rw [List.length_map] at hfl
    have hpl : (t.told []).length = pre.length + (post.length + 1) := by rw [hpre]; simp
    refine wl_val (rn_move (by conv => lhs; whnf)) ?_
    refine wl_val (rn_load1 p_3 rfl hB3 rfl) ?_
    refine wl_val (rn_eql rfl rfl) ?_
    refine wl_nil ?_
    refine W_cond rfl (fun hc0 => ?_) (fun hc0 => ?_)
    · refine W_region ?_
      refine wl_val (rn_load1 p_22 rfl hB5 rfl) ?_
      refine wl_val (rn_move (by conv => lhs; whnf)) ?_
      refine wl_lit1 (r := eS1 x.1) sl_22 rfl rfl rfl rfl (by decide) ?_; intro v17 w4 b17 hb17 hE4 hO17
      replace hX := hX.tr hE4
      replace hB3 := hB3.ext hE4 id; replace hB5 := hB5.ext hE4 id
      replace hXo := hXo.tr hE4
      replace hDk := hDk.non hE4
      replace hW := hW.tr hE4
      replace hO := hO.ext hE4 (fun _ _ h => h)
      have hsx := hX.size; have hsw := hW.size
      refine wl_app sl_22 rfl rfl rfl hO.1 (hO17.sl (M := Non) id) (fun r hr => by simp only [List.mem_singleton] at hr; subst hr; exact one1 rfl) (by simp only [List.length_map, List.length_cons, List.length_nil]; omega) (by simp only [List.length_map, List.length_cons, List.length_nil, big]; omega) ?_; intro v18 w5 o18 hE5 hO18 hf18
      obtain ⟨a18, c18, hv18⟩ := id hO18.len; subst hv18
      replace hX := hX.mineO hE5 (fun i hi => .inl ⟨(hO.2 i hi).1, .inr (hO.2 i hi).2⟩); replace hXo := hXo.mineO hE5 (fun i hi => .inr (Nat.le_trans hszr (hO.2 i hi).2)); replace hW := hW.mineO hE5 (fun i hi => .inr (hO.2 i hi).2); replace hDk : MkN w [] N w5 := ⟨Mk.nil, fun r h => by cases h⟩
      replace hB3 := hB3.ext hE5 (fun e => by have := (hO.2 _ e).2; omega); replace hB5 := hB5.ext hE5 (fun e => by have := (hO.2 _ e).2; omega)
      have hOn : OwX w3.heap.size N w5 _ o18 1 ((((pre ++ [x]).filter fun q => decide (q.2 = sub)).map Prod.fst).map eS1) := ⟨by rw [List.filter_append, List.filter_cons_of_pos (by exact hc0), List.filter_nil, List.map_append, List.map_append]; exact hO18, fun i hi => by rcases hf18 i hi with h | h; exact hO.2 i h; exact ⟨fun hNi => by have := (hN i hNi).2; omega, by omega⟩⟩
      have hBo := hB5
      refine wl_store1 (b := b5) p_22 rfl (by conv => lhs; whnf) rfl rfl hB5 (Nat.le_of_ble_eq_true rfl) ?_; intro w6 hE6 hB5 hz6
      replace hX := hX.mine hE6 hl5
      replace hB3 := hB3.ext hE6 (fun h => by omega)
      replace hXo := hXo.mine hE6 (.inr ho5)
      replace hDk := hDk.box hE6 hBo
      replace hW := hW.mine hE6 (.inl rfl)
      replace hOn := hOn.ext hE6 (fun i hi e => by have := (hOn.2 i hi).2; omega)
      refine wl_nil ?_
      exact ⟨hX, .slice a18 _ c18, o18, ⟨hB3, hK3.2⟩, ⟨hB5, hK5.2⟩, hXo, hW, hDk, hOn, trivial⟩
    · refine W_skip ?_
      exact ⟨hX, _, oo, ⟨hB3, hK3.2⟩, ⟨hB5, hK5.2⟩, hXo, hW, hDk, (by rw [List.filter_append, List.filter_cons_of_neg (by rw [hc0]; simp), List.filter_nil, List.append_nil]; exact hO), trivial⟩
  · rintro N rk w' ⟨v5, oo, hK3, hK5, hXo, hW, hDk, hO, hIr⟩ hN hA hr hrd
    have hB3 := hK3.1
    have hB5 := hK5.1
    have hX := hXo; have hD := hDk.add hrd (Nat.le_trans hszr (hN rk hr).1) hr
    obtain ⟨a5, c5, hv5⟩ := id hO.1.len; subst hv5
    refine W_seq ?_
    refine W_region ?_
    refine wl_val (rn_load1 p_22 rfl hB5 rfl) ?_
    refine wl_val (rn_assign (by conv => lhs; whnf)) ?_
    refine wl_nil ?_
    refine W_ret ?_
    refine hD.leave fun B hB => ?_
    have hB3 := hB3.ext hB (hD.ne hB3)
    have hB5 := hB5.ext hB (hD.ne hB5)
    have hX := hD.out hX hB
    exact ⟨_, resR1 (res1_tmp rfl), hX, (hO.ext hB (fun i hi h => (hO.2 i hi).1 (by simp only [List.mem_singleton] at h; rw [mark_inj h]; exact hr))).1.sl (fun i hi => id)⟩
  · intro c N rk w' h; exact h.elim
end Go.Proofs.YtaddeakfojpdoaaGreatDoorC

/- Helps for walks: cuts behind a region, three that are ready at once, bound methods, bits; each rule holds of whatever program. -/
set_option linter.unusedVariables false
set_option linter.unusedSimpArgs false
namespace Go.Proofs.YtaddeakfojpdoaaGreatDoorC
open Go.RowKit
variable {ro : Option Nat} {P : Program} {n : Nat} {Q : Post} {σ : Env} {D : List Deferred} {w : World} {dst : Option Nat} {ty : TypeId} {pos : String} {af : Array Edge} {g : Option (Nat × Bool)}
variable {ops rest : List Oper} {K : Ops} {S : World → Prop} {ex : Nat → Bool}

section
variable {x y : Operand} {t u : TypeId} {a b : Int}
end
theorem W_drawXF (F : Nat → Prop) (ex : Nat → Bool) {id : Nat} {l : List Oper} (hm : P.follows .mixedOrders = true)
    (h : ∀ w1, Ext Non w w1 → wx P l ex (fun A => Ext F w1 A) (fun σ' w' => Q .normal σ' D w') l.length (Array.replicate l.length false) σ w1) : W ro P n (.region id l.toArray true) Q σ D w :=
  W_drawX0 _ hm (h _ (Ext.refl _ _).drew)
theorem FnM.mono {M : Nat → Prop} {f : FuncId} {args : Array Value} {R R' : Value → World → Prop} (h : FnM P M f args w R) (hr : ∀ v w', Ext M w w' → R v w' → R' v w') : FnM P M f args w R' :=
  Calls.mono h fun e w' hx => by obtain ⟨v, h1, h2, h3⟩ := hx; exact ⟨v, h1, h2, hr _ _ h2 h3⟩
theorem FnM.sub {M M' : Nat → Prop} {f : FuncId} {args : Array Value} {R : Value → World → Prop} (h : FnM P M f args w R) (hm : ∀ i, M i → M' i) : FnM P M' f args w R :=
  Calls.mono h fun e w' hx => by obtain ⟨v, h1, h2, h3⟩ := hx; exact ⟨v, h1, h2.mono hm, h3⟩
end Go.Proofs.YtaddeakfojpdoaaGreatDoorC
