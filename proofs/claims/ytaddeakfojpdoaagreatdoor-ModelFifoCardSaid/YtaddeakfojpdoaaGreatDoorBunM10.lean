/- Which filter matches which topic, and covers which filter: the program's functions, and the document's. -/
import Derived.Test.YtaddeakfojpdoaaGreatDoorBunM9
import Derived.Test.YtaddeakfojpdoaaGreatDoorBunM6
import Derived.Test.YtaddeakfojpdoaaGreatDoorBunM8
import Derived.Test.YtaddeakfojpdoaaGreatDoorBunM7
import Derived.Test.YtaddeakfojpdoaaGreatDoorBunM3
set_option linter.unusedVariables false
set_option linter.unusedSimpArgs false
set_option maxRecDepth 100000
namespace Go.Proofs.YtaddeakfojpdoaaGreatDoorC
open Go.RowKit
/-- Function value fk cap tells of a text what p says. -/
def Tells (fk : FuncId) (cap : Array Value) (w : World) (p : Str → Bool) : Prop := entersB Tryz.prog fk = true ∧ ∀ (A : World) (x : Str), x.length ≤ 1000000 → Ext Non w A → Fn Tryz.prog fk (#[Sv x] ++ cap) A fun u _ => u = .bool (p x)
theorem Tells.ext {fk : FuncId} {cap : Array Value} {w w' : World} {p : Str → Bool} (h : Tells fk cap w p) (hE : Ext Non w w') : Tells fk cap w' p := ⟨h.1, fun A x hx hA => h.2 A x hx (hE.trans hA)⟩
theorem wl_tell {P : Program} {σ : Env} {w : World} {ty : TypeId} {pos : String} {af : Array Edge} {ops rest : List Oper} {K : Ops} {f : FuncId} {x y : Operand} {cap : Array Value} {ts : Array TypeId} {d : Nat} {s : Str} {b : Bool} (hx : ev σ x = .func (.func f) #[] cap) (hf : entersB P f = true) (hy : ev σ y = Sv s)
    (h : Fn P f (#[Sv s] ++ cap) w fun u _ => u = .bool b) (k : ∀ w', Ext Non w w' → wl P ops rest K (put σ (some d) (.bool b)) w') : wl P ops (⟨some d, .call ⟨.value x, #[y], ts⟩, ty, pos, af, none⟩ :: rest) K σ w :=
  wl_callv hx hf (show [y].map (ev σ) = [Sv s] by simp [hy]) h fun e w' he => by obtain ⟨v, e1, e2, e3⟩ := he; subst e3; exact ⟨_, e1, k w' e2⟩
theorem like_yes {some : Str → Bool} {L T : List Str} {n : Nat} (h : L[n]? = Option.some [35]) (hn : n ≤ T.length) (hall : ∀ j, j < n → okAt some L T j ∧ L[j]? ≠ Option.some [35]) : likeB some L T = true :=
  (likeB_iff some L T).2 (.inl ⟨n, h, hn, fun j hj => (hall j hj).1⟩)
theorem like_no {some : Str → Bool} {L T : List Str} {n : Nat} {l : Str} (hl : L[n]? = Option.some l) (h35 : ¬ l = [35]) (hall : ∀ j, j < n → okAt some L T j ∧ L[j]? ≠ Option.some [35]) (hno : ¬ okAt some L T n) : likeB some L T = false :=
  likeB_no (i := n) (fun j hj => by
    rcases Nat.lt_or_ge j n with h | h
    · exact (hall j h).2
    · obtain rfl : j = n := by omega
      rw [hl]; exact fun e => h35 (Option.some.inj e)) (List.getElem?_eq_some_iff.1 hl).1 hno
theorem not_okAt {some : Str → Bool} {L T : List Str} {n : Nat} {l t : Str} (hl : L[n]? = Option.some l) (ht : T[n]? = Option.some t) (h1 : ¬ l = t) (h2 : l = [43] → some t = false) : ¬ okAt some L T n := by
  rintro ⟨l2, t2, e1, e2, h3⟩
  rw [hl] at e1; rw [ht] at e2; cases e1; cases e2
  rcases h3 with h3 | ⟨h3, h4⟩
  · exact h1 h3
  · rw [h2 h3] at h4; cases h4
theorem not_okAt2 {some : Str → Bool} {L T : List Str} {n : Nat} (h : T.length ≤ n) : ¬ okAt some L T n := by
  rintro ⟨l2, t2, e1, e2, h3⟩
  rw [List.getElem?_eq_none h] at e2; cases e2
theorem like_end {some : Str → Bool} {L T : List Str} (hall : ∀ j, j < L.length → okAt some L T j ∧ L[j]? ≠ Option.some [35]) : likeB some L T = decide ((L.length : Int) = (T.length : Int)) := by
  rw [likeB_end (fun j => by
    rcases Nat.lt_or_ge j L.length with h | h
    · exact (hall j h).2
    · rw [List.getElem?_eq_none h]; simp) (fun j hj => (hall j hj).1)]
  exact decide_eq_decide.2 (by omega)
theorem headIs_pre (c : UInt8) (s : Str) : headIs c s = decide (s.take 1 = [c]) := by cases s <;> simp [headIs]
-- internal/stringslite.HasPrefix
theorem hasPrefix1_ok (w : World) (s : Str) (c : UInt8) (hn : s.length ≤ 1000000) : Fn Tryz.prog 142 #[Sv s, Sv [c]] w fun u w' => u = .bool (headIs c s) := by
  have hX := Ext.refl Non w
  refine fn_of_W (args := [_, _]) Tryz.func142 rfl (by kernel_rfl) rfl ?_
  refine W_seq ?_
  refine W_region ?_
  refine wl_val (rn_assign (by conv => lhs; whnf)) ?_
  refine wl_nil ?_
  refine W_seq ?_
  refine W_region ?_
  refine wl_val (rn_move (by conv => lhs; whnf)) ?_
  refine wl_val (rn_slen us_9 rfl) ?_
  refine wl_val (rn_move (by conv => lhs; whnf)) ?_
  refine wl_val (rn_slen us_9 rfl) ?_
  refine wl_val (rn_geq rfl rfl) ?_
  refine wl_val (rn_move (by conv => lhs; whnf)) ?_
  refine wl_split (d := 10) rfl (fun hg10 => ?_) (fun hg10 => ?_)
  · have hq := of_decide_eq_true hg10; simp only [List.length_singleton] at hq
    refine wl_yes rfl (congrArg Value.bool hg10) ?_
    refine wl_val (rn_move (by conv => lhs; whnf)) ?_
    refine wl_yes rfl (congrArg Value.bool hg10) ?_
    refine wl_val (rn_move (by conv => lhs; whnf)) ?_
    refine wl_yes rfl (congrArg Value.bool hg10) ?_
    refine wl_val (rn_slen us_9 rfl) ?_
    refine wl_yes rfl (congrArg Value.bool hg10) ?_
    refine wl_val (rn_sslice us_9 (l := 0) (h := 1) rfl rfl ⟨_, rfl⟩ (by omega) (by first | omega | (simp only [List.length_cons, List.length_nil, List.length_append]; omega))) ?_
    refine wl_yes rfl (congrArg Value.bool hg10) ?_
    refine wl_val (rn_move (by conv => lhs; whnf)) ?_
    refine wl_yes rfl (congrArg Value.bool hg10) ?_
    refine wl_val (rn_seql rfl rfl) ?_
    refine wl_val (rn_pickT (congrArg Value.bool hg10) (by conv => lhs; whnf)) ?_
    refine wl_val (rn_assign (by conv => lhs; whnf)) ?_
    refine wl_nil ?_
    refine W_ret ?_
    exact ⟨_, resR1 (res1_tmp rfl), hX, by rw [headIs_pre]; show Value.bool (decide ((s.drop 0).take (1 - 0) = [c])) = _; rw [List.drop_zero]⟩
  · have hq := of_decide_eq_false hg10; simp only [List.length_singleton] at hq
    refine wl_no rfl (congrArg Value.bool hg10) ?_
    refine wl_no rfl (congrArg Value.bool hg10) ?_
    refine wl_no rfl (congrArg Value.bool hg10) ?_
    refine wl_no rfl (congrArg Value.bool hg10) ?_
    refine wl_no rfl (congrArg Value.bool hg10) ?_
    refine wl_no rfl (congrArg Value.bool hg10) ?_
    refine wl_val (rn_pickF (congrArg Value.bool hg10) (by conv => lhs; whnf)) ?_
    refine wl_val (rn_assign (by conv => lhs; whnf)) ?_
    refine wl_nil ?_
    refine W_ret ?_
    exact ⟨_, resR1 (res1_tmp rfl), hX, by rw [headIs_pre]; have e : s = [] := List.length_eq_zero_iff.1 (by omega); subst e; rfl⟩
-- strings.HasPrefix
theorem hasPrefix_ok (w : World) (s : Str) (c : UInt8) (hn : s.length ≤ 1000000) : Fn Tryz.prog 102 #[Sv s, Sv [c]] w fun u w' => u = .bool (headIs c s) := by
  have hX := Ext.refl Non w
  refine fn_of_W (args := [_, _]) Tryz.func102 rfl (by kernel_rfl) rfl ?_
  refine W_seq ?_
  refine W_region ?_
  refine wl_val (rn_assign (by conv => lhs; whnf)) ?_
  refine wl_nil ?_
  refine W_seq ?_
  refine W_region ?_
  refine wl_val (rn_move (by conv => lhs; whnf)) ?_
  refine wl_val (rn_move (by conv => lhs; whnf)) ?_
  refine wl_call e_142 rfl (hasPrefix1_ok w s c hn) ?_; intro v7 w1 hE1 hR1
  replace hX := hX.tr hE1
  subst hR1
  refine wl_val (rn_assign (by conv => lhs; whnf)) ?_
  refine wl_nil ?_
  refine W_ret ?_
  exact ⟨_, resR1 (res1_tmp rfl), hX, rfl⟩
-- bellman/match.apart
theorem apart_ok (w : World) (f s : Str) (hnf : f.length ≤ 1000000) (hn : s.length ≤ 1000000) : Fn Tryz.prog 65 #[Sv f, Sv s] w fun u w' => u = .bool (wildB f && headIs 36 s) := by
  have hX := Ext.refl Non w
  refine fn_of_W (args := [_, _]) Tryz.func65 rfl (by kernel_rfl) rfl ?_
  refine W_seq ?_
  refine W_region ?_
  refine wl_val (rn_assign (by conv => lhs; whnf)) ?_
  refine wl_nil ?_
  refine W_seq ?_
  refine W_region ?_
  refine wl_val (rn_move (by conv => lhs; whnf)) ?_
  refine wl_call e_101 rfl (twild_ok w f hnf) ?_; intro v6 w1 hE1 hR1
  replace hX := hX.tr hE1
  subst hR1
  refine wl_val (rn_move (by conv => lhs; whnf)) ?_
  refine wl_split (d := 7) rfl (fun hg7 => ?_) (fun hg7 => ?_)
  · refine wl_yes rfl (congrArg Value.bool hg7) ?_
    refine wl_val (rn_move (by conv => lhs; whnf)) ?_
    refine wl_yes rfl (congrArg Value.bool hg7) ?_
    refine wl_call e_102 rfl (hasPrefix_ok w1 s 36 hn) ?_; intro v9 w2 hE2 hR2
    replace hX := hX.tr hE2
    subst hR2
    refine wl_val (rn_pickT (congrArg Value.bool hg7) (by conv => lhs; whnf)) ?_
    refine wl_val (rn_assign (by conv => lhs; whnf)) ?_
    refine wl_nil ?_
    refine W_ret ?_
    exact ⟨_, resR1 (res1_tmp rfl), hX, by have e : wildB f = true := hg7; rw [e]; rfl⟩
  · refine wl_no rfl (congrArg Value.bool hg7) ?_
    refine wl_no rfl (congrArg Value.bool hg7) ?_
    refine wl_val (rn_pickF (congrArg Value.bool hg7) (by conv => lhs; whnf)) ?_
    refine wl_val (rn_assign (by conv => lhs; whnf)) ?_
    refine wl_nil ?_
    refine W_ret ?_
    exact ⟨_, resR1 (res1_tmp rfl), hX, by have e : wildB f = false := hg7; rw [e]; rfl⟩
-- bellman/match.like
set_option maxHeartbeats 2000000 in
theorem like_ok (w : World) (f : Str) (T : List Str) (p : Str → Bool) {v : Value} {fk : FuncId} {cap : Array Value} (hnf : f.length ≤ 1000000) (hTl : ∀ t ∈ T, t.length ≤ 1000000) (hs : Sl Non w v 1 (T.map eS1)) (hp : Tells fk cap w p) : Fn Tryz.prog 66 #[Sv f, v, .func (.func fk) #[] cap] w fun u w' => u = .bool (likeB p (spl 47 f) T) := by
  obtain ⟨a, c, rfl, hbg⟩ := hs.len
  simp only [List.length_map] at hs hbg ⊢
  have hsl := spl_len_le 47 f
  have hX := Ext.refl Non w
  refine fn_of_W (args := [_, _, _]) Tryz.func66 rfl (by kernel_rfl) rfl ?_
  refine W_seq ?_
  refine W_region ?_
  refine wl_box1 (by conv => lhs; whnf) rfl ?_; intro b4 w1 hb4 hE1 hB4
  have hq4 : w.heap.size ≤ b4 := Nat.le_trans hX.size hb4
  have hl4 : Mine Non w b4 := .inr hq4
  replace hX := hX.tr hE1
  refine wl_box1 (by conv => lhs; whnf) rfl ?_; intro b5 w2 hb5 hE2 hB5
  have hn4_5 : b4 < b5 := Nat.lt_of_lt_of_le hB4.lt hb5
  have hq5 : w.heap.size ≤ b5 := Nat.le_trans hX.size hb5
  have hl5 : Mine Non w b5 := .inr hq5
  replace hX := hX.tr hE2
  replace hB4 := hB4.ext hE2 id
  refine wl_alloc z_4 ?_; intro b6 w3 hb6 hE3 hB6
  have hn4_6 : b4 < b6 := Nat.lt_of_lt_of_le hB4.lt hb6
  have hn5_6 : b5 < b6 := Nat.lt_of_lt_of_le hB5.lt hb6
  have hq6 : w.heap.size ≤ b6 := Nat.le_trans hX.size hb6
  have hl6 : Mine Non w b6 := .inr hq6
  replace hX := hX.tr hE3
  replace hB4 := hB4.ext hE3 id; replace hB5 := hB5.ext hE3 id
  refine wl_nil ?_
  refine W_seq ?_
  refine W_region ?_
  refine wl_alloc z_3 ?_; intro b7 w4 hb7 hE4 hB7
  have hn4_7 : b4 < b7 := Nat.lt_of_lt_of_le hB4.lt hb7
  have hn5_7 : b5 < b7 := Nat.lt_of_lt_of_le hB5.lt hb7
  have hn6_7 : b6 < b7 := Nat.lt_of_lt_of_le hB6.lt hb7
  have hq7 : w.heap.size ≤ b7 := Nat.le_trans hX.size hb7
  have hl7 : Mine Non w b7 := .inr hq7
  replace hX := hX.tr hE4
  replace hB4 := hB4.ext hE4 id; replace hB5 := hB5.ext hE4 id; replace hB6 := hB6.ext hE4 id
  refine wl_store1 (b := b7) p_3 rfl (by conv => lhs; whnf) rfl rfl hB7 (Nat.le_of_ble_eq_true rfl) ?_; intro w5 hE5 hB7 hz5
  replace hX := hX.mine hE5 hl7
  replace hB4 := hB4.ext hE5 (fun h => by omega); replace hB5 := hB5.ext hE5 (fun h => by omega); replace hB6 := hB6.ext hE5 (fun h => by omega)
  refine wl_nil ?_
  refine W_seq ?_
  refine W_seq ?_
  refine W_region ?_
  refine wl_val (rn_move (by conv => lhs; whnf)) ?_
  refine wl_call e_47 rfl (each_ok w5 f (fun i => i = b6 ∨ i = b7) (fun i e => by rcases e with e | e; rw [e]; exact hB6.lt; rw [e]; exact hB7.lt) hnf) ?_; intro v11 w6 hE6 hR6
  replace hX := hX.tr hE6
  replace hB4 := hB4.ext hE6 id; replace hB5 := hB5.ext hE6 id; replace hB6 := hB6.ext hE6 id; replace hB7 := hB7.ext hE6 id
  have hIt := hR6; obtain ⟨fk2, ck, hfk, _⟩ := id hIt; subst hfk
  obtain ⟨wa, hwa⟩ : ∃ x, x = w6 := ⟨_, rfl⟩
  have hW : Ext (fun i => i = b6 ∨ i = b7) wa w6 := by rw [hwa]; exact Ext.refl _ _
  have hIt2 := hIt; rw [← hwa] at hIt2; have hz6 : b6 < wa.heap.size := by rw [hwa]; exact hB6.lt
  have hz7 : b7 < wa.heap.size := by rw [hwa]; exact hB7.lt
  refine wl_nil ?_
  refine W_block ?_   -- block 0
  have hszr := hX.size
  have hsz_hW := hW.size
  have ho4 : w.heap.size ≤ b4 := by rcases hl4 with h | h; exact h.elim; exact h
  have ho5 : w.heap.size ≤ b5 := by rcases hl5 with h | h; exact h.elim; exact h
  have ho6 : w.heap.size ≤ b6 := by rcases hl6 with h | h; exact h.elim; exact h
  have ho7 : w.heap.size ≤ b7 := by rcases hl7 with h | h; exact h.elim; exact h
  refine W_rangeFunc (M := fun i => i = b6 ∨ i = b7) (w0 := wa) (I := fun pre N A => Box N A b4 [.slice a T.length c] ∧ Box N A b5 [.func (.func fk) #[] cap] ∧ Box N A b6 [.bool false] ∧ Box N A b7 [.int .i64 (pre.length : Nat)] ∧ Ext Non w A ∧ Ext (fun i => i = b6 ∨ i = b7) wa A ∧ MkN w [] N A ∧ ((∀ j, j < pre.length → okAt p (spl 47 f) T j ∧ (spl 47 f)[j]? ≠ some [35]) ∧ pre.length ≤ T.length)) (X := fun c N A => c = .ret ∧ Box N A b6 [.bool (likeB p (spl 47 f) T)] ∧ Ext Non w A ∧ Ext (fun i => i = b6 ∨ i = b7) wa A ∧ MkN w [] N A ∧ (True)) (encs := fun p : Nat × Str => [.int .i64 (p.1 : Nat), Sv p.2]) (xs := numb (spl 47 f)) rfl (hIt2) (hW) (fun _ => rfl) (fun pre => (Stab.box _ _).and ((Stab.box _ _).and ((Stab.box _ _).and ((Stab.box _ _).and ((Stab.old hX.size).and ((Stab.oldM hW.size).and ((Stab.mk _ _).and ((Stab.pure _))))))))) (fun c => (Stab.pure _).and ((Stab.box _ _).and ((Stab.old hX.size).and ((Stab.oldM hW.size).and ((Stab.mk _ _).and ((Stab.pure _))))))) ⟨⟨hB4, id⟩, ⟨hB5, id⟩, ⟨hB6, id⟩, ⟨hB7, id⟩, hX, hW, (Mk.nil : Mk w [] _).toN, ⟨fun j h => absurd h (Nat.not_lt_zero _), Nat.zero_le _⟩⟩ ?_ ?_ ?_
  · rintro l N pre x A hl hN hA hst ⟨hK4, hK5, hK6, hK7, hXo, hW, hDk, hIr⟩ ⟨post, hpre⟩
    have hB4 := hK4.1
    have hB5 := hK5.1
    have hB6 := hK6.1; have hl6 : Mine (Yc (fun i => i = b6 ∨ i = b7) wa N) A b6 := .inl ⟨hK6.2, .inl (.inl rfl)⟩
    have hB7 := hK7.1; have hl7 : Mine (Yc (fun i => i = b6 ∨ i = b7) wa N) A b7 := .inl ⟨hK7.2, .inl (.inr rfl)⟩
    have hX := Ext.refl (Yc (fun i => i = b6 ∨ i = b7) wa N) A
    refine W_seq ?_
    refine W_region ?_
    refine wl_val (rn_assign (by conv => lhs; whnf)) ?_
    refine wl_nil ?_
    refine W_region ?_
    refine wl_val (rn_assign (by conv => lhs; whnf)) ?_
    refine wl_nil ?_
    refine ⟨rfl, hX, fun A2 hE2r hz2r hst2 => ?_⟩
    have hNl := (hN l hl).2
    replace hB4 := hB4.ext hE2r (fun e => hK4.2 (by rw [e]; exact hl))
    replace hB5 := hB5.ext hE2r (fun e => hK5.2 (by rw [e]; exact hl))
    replace hB6 := hB6.ext hE2r (fun e => hK6.2 (by rw [e]; exact hl))
    replace hB7 := hB7.ext hE2r (fun e => hK7.2 (by rw [e]; exact hl))
    replace hXo := hXo.mine hE2r (.inr (Nat.le_trans hszr (hN l hl).1)); replace hDk := hDk.lp hE2r hl
    replace hW := hW.mine hE2r (.inr (Nat.le_trans hsz_hW (hN l hl).1))
    have hl6 : Mine (Yc (fun i => i = b6 ∨ i = b7) wa N) A2 b6 := .inl ⟨hK6.2, .inl (.inl rfl)⟩
    have hl7 : Mine (Yc (fun i => i = b6 ∨ i = b7) wa N) A2 b7 := .inl ⟨hK7.2, .inl (.inr rfl)⟩
    have hX := Ext.refl (Yc (fun i => i = b6 ∨ i = b7) wa N) A2
    obtain ⟨hxi, hxl, hxp⟩ := numb_at (i := x.1) (x := x.2) (post := post) (pre := pre) (by rw [hpre])
    have hxlt := (List.getElem?_eq_some_iff.1 hxl).1
    have hprl := hIr.2
    refine W_block ?_   -- block 1
    refine W_seq ?_
    refine W_seq ?_
    refine W_region ?_
    refine wl_val (rn_move (by conv => lhs; whnf)) ?_
    refine wl_val (rn_seql rfl rfl) ?_
    refine wl_nil ?_
    refine W_cond rfl (fun hc0 => ?_) (fun hc0 => ?_)
    · have hR : likeB p (spl 47 f) T = true := like_yes (by rw [← hxi, hxl, of_decide_eq_true hc0]) (by omega) hIr.1
      refine W_seq ?_
      refine W_region ?_
      have hBo := hB6
      refine wl_store1 (b := b6) p_4 rfl (by conv => lhs; whnf) rfl rfl hB6 (Nat.le_of_ble_eq_true rfl) ?_; intro w7 hE7 hB6 hz7
      replace hX := hX.mine hE7 hl6
      replace hB4 := hB4.ext hE7 (fun h => by omega); replace hB5 := hB5.ext hE7 (fun h => by omega); replace hB7 := hB7.ext hE7 (fun h => by omega)
      replace hXo := hXo.mine hE7 (.inr ho6)
      replace hDk := hDk.box hE7 hBo
      replace hW := hW.mine hE7 (.inl (by first | exact .inl rfl | exact .inr rfl))
      refine wl_nil ?_
      refine W_ret ?_
      replace hB6 := hB6.cast (cs' := [Value.bool (likeB p (spl 47 f) T)]) (by rw [hR] <;> rfl)
      exact ⟨hX, rfl, ⟨hB6, hK6.2⟩, hXo, hW, hDk, trivial⟩
    · have q35 : ¬ x.2 = [35] := of_decide_eq_false hc0
      refine W_skip ?_
      refine W_seq ?_
      refine W_seq ?_
      refine W_drawE mixed ?_; intro w8 hE8
      replace hX := hX.tr hE8
      replace hB4 := hB4.ext hE8 id; replace hB5 := hB5.ext hE8 id; replace hB6 := hB6.ext hE8 id; replace hB7 := hB7.ext hE8 id
      replace hXo := hXo.tr hE8
      replace hDk := hDk.non hE8
      replace hW := hW.tr hE8
      have hS := Ext.refl Non w8
      refine wd_take 0 _ _ rfl (by kernel_rfl) hS (yd_do fun A hA => rn_move (by conv => lhs; whnf)) ?_
      refine wd_take 1 _ _ rfl (by kernel_rfl) hS (yd_do fun A hA => rn_load1 p_22 rfl (hB4.ext hA id) rfl) ?_
      refine wd_take 2 _ _ rfl (by kernel_rfl) hS (yd_do fun A hA => rn_len sl_22 rfl) ?_
      refine wd_take 3 _ _ rfl (by kernel_rfl) hS (yd_do fun A hA => rn_geq rfl rfl) ?_
      refine wd_take 4 _ _ rfl (by kernel_rfl) hS (yd_do fun A hA => rn_move (by conv => lhs; whnf)) ?_
      refine wd_split (d := 20) rfl (fun hg20 => ?_) (fun hg20 => ?_)
      · have hR : likeB p (spl 47 f) T = false := like_no hxl q35 (by rw [hxi]; exact hIr.1) (not_okAt2 (by have := of_decide_eq_true hg20; omega))
        refine wd_take 5 _ _ rfl (by kernel_rfl) hS (yd_no rfl (congrArg Value.bool hg20)) ?_
        refine wd_take 6 _ _ rfl (by kernel_rfl) hS (yd_no rfl (congrArg Value.bool hg20)) ?_
        refine wd_take 7 _ _ rfl (by kernel_rfl) hS (yd_no rfl (congrArg Value.bool hg20)) ?_
        refine wd_take 8 _ _ rfl (by kernel_rfl) hS (yd_no rfl (congrArg Value.bool hg20)) ?_
        refine wd_take 9 _ _ rfl (by kernel_rfl) hS (yd_no rfl (congrArg Value.bool hg20)) ?_
        refine wd_take 10 _ _ rfl (by kernel_rfl) hS (yd_no rfl (congrArg Value.bool hg20)) ?_
        refine wd_take 11 _ _ rfl (by kernel_rfl) hS (yd_no rfl (congrArg Value.bool hg20)) ?_
        refine wd_take 12 _ _ rfl (by kernel_rfl) hS (yd_nou rfl rfl) ?_
        refine wd_take 13 _ _ rfl (by kernel_rfl) hS (yd_nou rfl rfl) ?_
        refine wd_take 14 _ _ rfl (by kernel_rfl) hS (yd_nou rfl rfl) ?_
        refine wd_take 15 _ _ rfl (by kernel_rfl) hS (yd_nou rfl rfl) ?_
        refine wd_take 16 _ _ rfl (by kernel_rfl) hS (yd_nou rfl rfl) ?_
        refine wd_take 17 _ _ rfl (by kernel_rfl) hS (yd_nou rfl rfl) ?_
        refine wd_take 18 _ _ rfl (by kernel_rfl) hS (yd_nou rfl rfl) ?_
        refine wd_take 19 _ _ rfl (by kernel_rfl) hS (yd_nou rfl rfl) ?_
        refine wd_only 20 _ rfl (by kernel_rfl) ?_
        refine s1_nou rfl rfl ⟨hS, ?_⟩
        refine wd_take 21 _ _ rfl (by kernel_rfl) hS (yd_nou rfl rfl) ?_
        refine wd_take 22 _ _ rfl (by kernel_rfl) hS (yd_nou rfl rfl) ?_
        refine wd_take 23 _ _ rfl (by kernel_rfl) hS (yd_no rfl (congrArg Value.bool hg20)) ?_
        refine wd_take 24 _ _ rfl (by kernel_rfl) hS (yd_do fun A hA => rn_pickT (congrArg Value.bool hg20) (by conv => lhs; whnf)) ?_
        refine wd_done (by kernel_rfl) ?_ _
        replace hX := hX.tr hS
        replace hB4 := hB4.ext hS id; replace hB5 := hB5.ext hS id; replace hB6 := hB6.ext hS id; replace hB7 := hB7.ext hS id
        replace hXo := hXo.tr hS
        replace hDk := hDk.non hS
        replace hW := hW.tr hS
        refine W_condT rfl ?_
        refine W_seq ?_
        refine W_region ?_
        have hBo := hB6
        refine wl_store1 (b := b6) p_4 rfl (by conv => lhs; whnf) rfl rfl hB6 (Nat.le_of_ble_eq_true rfl) ?_; intro w9 hE9 hB6 hz9
        replace hX := hX.mine hE9 hl6
        replace hB4 := hB4.ext hE9 (fun h => by omega); replace hB5 := hB5.ext hE9 (fun h => by omega); replace hB7 := hB7.ext hE9 (fun h => by omega)
        replace hXo := hXo.mine hE9 (.inr ho6)
        replace hDk := hDk.box hE9 hBo
        replace hW := hW.mine hE9 (.inl (by first | exact .inl rfl | exact .inr rfl))
        refine wl_nil ?_
        refine W_ret ?_
        replace hB6 := hB6.cast (cs' := [Value.bool (likeB p (spl 47 f) T)]) (by rw [hR] <;> rfl)
        exact ⟨hX, rfl, ⟨hB6, hK6.2⟩, hXo, hW, hDk, trivial⟩
      · have hxT : x.1 < T.length := by have := of_decide_eq_false hg20; omega
        obtain ⟨t, ht⟩ : ∃ t, T[x.1]? = some t := ⟨_, List.getElem?_eq_getElem hxT⟩
        obtain ⟨bt, ot, eat⟩ := hs.base (by intro e; have := congrArg List.length e; simp only [List.length_map, List.length_nil] at this; omega)
        refine wd_take 5 _ _ rfl (by kernel_rfl) hS (yd_yes rfl (congrArg Value.bool hg20) fun A hA => rn_move (by conv => lhs; whnf)) ?_
        refine wd_take 6 _ _ rfl (by kernel_rfl) hS (yd_yes rfl (congrArg Value.bool hg20) fun A hA => rn_load1 p_22 rfl (hB4.ext hA id) rfl) ?_
        refine wd_take 7 _ _ rfl (by kernel_rfl) hS (yd_yes rfl (congrArg Value.bool hg20) fun A hA => rn_move (by conv => lhs; whnf)) ?_
        refine wd_take 8 _ _ rfl (by kernel_rfl) hS (yd_yes rfl (congrArg Value.bool hg20) fun A hA => rn_indexAddr sl_22 (a := ⟨bt, ot, none⟩) (n := T.length) (c := c) (by rw [← eat]; rfl) rfl (by omega)) ?_
        refine wd_take 9 _ _ rfl (by kernel_rfl) hS (yd_yes rfl (congrArg Value.bool hg20) fun A hA => rn_load p_9 rfl ((((eat ▸ hs : Sl Non w (.slice (some ⟨bt, ot, none⟩) T.length c) 1 (T.map eS1)).ext hXo (fun _ h => h)).ext hA (fun _ h => h.elim)).at0 (eS_at (i := ((x.1 : Nat) : Int).toNat) ht) rfl)) ?_
        refine wd_take 10 _ _ rfl (by kernel_rfl) hS (yd_yes rfl (congrArg Value.bool hg20) fun A hA => rn_sneq rfl rfl) ?_
        refine wd_take 11 _ _ rfl (by kernel_rfl) hS (yd_yes rfl (congrArg Value.bool hg20) fun A hA => rn_move (by conv => lhs; whnf)) ?_
        refine wd_split (d := 27) rfl (fun hg27 => ?_) (fun hg27 => ?_)
        · have q1 : ¬ x.2 = t := by simpa using of_decide_eq_true hg27
          refine wd_take 12 _ _ rfl (by kernel_rfl) hS (yd_yes rfl (congrArg Value.bool hg27) fun A hA => rn_move (by conv => lhs; whnf)) ?_
          refine wd_take 13 _ _ rfl (by kernel_rfl) hS (yd_yes rfl (congrArg Value.bool hg27) fun A hA => rn_seql rfl rfl) ?_
          refine wd_take 14 _ _ rfl (by kernel_rfl) hS (yd_yes rfl (congrArg Value.bool hg27) fun A hA => rn_move (by conv => lhs; whnf)) ?_
          refine wd_split (d := 30) rfl (fun hg30 => ?_) (fun hg30 => ?_)
          · have q2 : x.2 = [43] := of_decide_eq_true hg30
            refine wd_take 15 _ _ rfl (by kernel_rfl) hS (yd_yes rfl (congrArg Value.bool hg30) fun A hA => rn_load1 p_37 rfl (hB5.ext hA id) rfl) ?_
            refine wd_take 16 _ _ rfl (by kernel_rfl) hS (yd_yes rfl (congrArg Value.bool hg30) fun A hA => rn_load1 p_22 rfl (hB4.ext hA id) rfl) ?_
            refine wd_take 17 _ _ rfl (by kernel_rfl) hS (yd_yes rfl (congrArg Value.bool hg30) fun A hA => rn_move (by conv => lhs; whnf)) ?_
            refine wd_take 18 _ _ rfl (by kernel_rfl) hS (yd_yes rfl (congrArg Value.bool hg30) fun A hA => rn_indexAddr sl_22 (a := ⟨bt, ot, none⟩) (n := T.length) (c := c) (by rw [← eat]; rfl) rfl (by omega)) ?_
            refine wd_take 19 _ _ rfl (by kernel_rfl) hS (yd_yes rfl (congrArg Value.bool hg30) fun A hA => rn_load p_9 rfl ((((eat ▸ hs : Sl Non w (.slice (some ⟨bt, ot, none⟩) T.length c) 1 (T.map eS1)).ext hXo (fun _ h => h)).ext hA (fun _ h => h.elim)).at0 (eS_at (i := ((x.1 : Nat) : Int).toNat) ht) rfl)) ?_
            refine wd_only 20 _ rfl (by kernel_rfl) ?_
            refine s1_yes rfl (congrArg Value.bool hg30) ?_
            refine wl_tell (s := t) rfl hp.1 rfl (hp.2 w8 t (hTl t (List.mem_of_getElem? ht)) (hXo.tr hS)) ?_; intro w10 hE10
            replace hS := hS.tr hE10
            refine wl_nil ⟨hS, ?_⟩
            refine wd_take 21 _ _ rfl (by kernel_rfl) hS (yd_yes rfl (congrArg Value.bool hg27) fun A hA => rn_pickT (congrArg Value.bool hg30) (by conv => lhs; whnf)) ?_
            refine wd_take 22 _ _ rfl (by kernel_rfl) hS (yd_yes rfl (congrArg Value.bool hg27) fun A hA => rn_not rfl) ?_
            refine wd_take 23 _ _ rfl (by kernel_rfl) hS (yd_yes rfl (congrArg Value.bool hg20) fun A hA => rn_pickT (congrArg Value.bool hg27) (by conv => lhs; whnf)) ?_
            refine wd_take 24 _ _ rfl (by kernel_rfl) hS (yd_do fun A hA => rn_pickF (congrArg Value.bool hg20) (by conv => lhs; whnf)) ?_
            refine wd_done (by kernel_rfl) ?_ _
            replace hX := hX.tr hS
            replace hB4 := hB4.ext hS id; replace hB5 := hB5.ext hS id; replace hB6 := hB6.ext hS id; replace hB7 := hB7.ext hS id
            replace hXo := hXo.tr hS
            replace hDk := hDk.non hS
            replace hW := hW.tr hS
            refine W_cond rfl (fun hc1 => ?_) (fun hc1 => ?_)
            · have hR : likeB p (spl 47 f) T = false := by first | assumption | exact like_no hxl q35 (by rw [hxi]; exact hIr.1) (not_okAt hxl ht q1 (fun _ => by simpa using hc1))
              refine W_seq ?_
              refine W_region ?_
              have hBo := hB6
              refine wl_store1 (b := b6) p_4 rfl (by conv => lhs; whnf) rfl rfl hB6 (Nat.le_of_ble_eq_true rfl) ?_; intro w11 hE11 hB6 hz11
              replace hX := hX.mine hE11 hl6
              replace hB4 := hB4.ext hE11 (fun h => by omega); replace hB5 := hB5.ext hE11 (fun h => by omega); replace hB7 := hB7.ext hE11 (fun h => by omega)
              replace hXo := hXo.mine hE11 (.inr ho6)
              replace hDk := hDk.box hE11 hBo
              replace hW := hW.mine hE11 (.inl (by first | exact .inl rfl | exact .inr rfl))
              refine wl_nil ?_
              refine W_ret ?_
              replace hB6 := hB6.cast (cs' := [Value.bool (likeB p (spl 47 f) T)]) (by rw [hR] <;> rfl)
              exact ⟨hX, rfl, ⟨hB6, hK6.2⟩, hXo, hW, hDk, trivial⟩
            · have hok : okAt p (spl 47 f) T x.1 := by first | assumption | exact ⟨x.2, t, hxl, ht, .inr ⟨q2, by simpa using hc1⟩⟩ | exact absurd hc1 (by simp)
              refine W_skip ?_
              refine W_region ?_
              refine wl_val (rn_load1 p_3 rfl hB7 rfl) ?_
              refine wl_val (rn_add rfl rfl (by omega)) ?_
              have hBo := hB7
              refine wl_store1 (b := b7) p_3 rfl (by conv => lhs; whnf) rfl rfl hB7 (Nat.le_of_ble_eq_true rfl) ?_; intro w12 hE12 hB7 hz12
              replace hX := hX.mine hE12 hl7
              replace hB4 := hB4.ext hE12 (fun h => by omega); replace hB5 := hB5.ext hE12 (fun h => by omega); replace hB6 := hB6.ext hE12 (fun h => by omega)
              replace hXo := hXo.mine hE12 (.inr ho7)
              replace hDk := hDk.box hE12 hBo
              replace hW := hW.mine hE12 (.inl (by first | exact .inl rfl | exact .inr rfl))
              refine wl_nil ?_
              replace hB7 := hB7.cast (show [Value.int .i64 ((pre.length : Int) + 1)] = [.int .i64 ((pre ++ [x]).length : Nat)] by simp)
              exact ⟨hX, ⟨hB4, hK4.2⟩, ⟨hB5, hK5.2⟩, ⟨hB6, hK6.2⟩, ⟨hB7, hK7.2⟩, hXo, hW, hDk, ⟨fun j hj => by rw [List.length_append, List.length_singleton] at hj; rcases Nat.lt_or_ge j pre.length with h | h; exact hIr.1 j h; (have e : j = x.1 := by omega); subst e; exact ⟨hok, by rw [hxl]; exact fun e => q35 (Option.some.inj e)⟩, by rw [List.length_append, List.length_singleton]; omega⟩⟩
          · have hR : likeB p (spl 47 f) T = false := like_no hxl q35 (by rw [hxi]; exact hIr.1) (not_okAt hxl ht q1 (fun e => absurd e (of_decide_eq_false hg30)))
            refine wd_take 15 _ _ rfl (by kernel_rfl) hS (yd_no rfl (congrArg Value.bool hg30)) ?_
            refine wd_take 16 _ _ rfl (by kernel_rfl) hS (yd_no rfl (congrArg Value.bool hg30)) ?_
            refine wd_take 17 _ _ rfl (by kernel_rfl) hS (yd_no rfl (congrArg Value.bool hg30)) ?_
            refine wd_take 18 _ _ rfl (by kernel_rfl) hS (yd_no rfl (congrArg Value.bool hg30)) ?_
            refine wd_take 19 _ _ rfl (by kernel_rfl) hS (yd_no rfl (congrArg Value.bool hg30)) ?_
            refine wd_only 20 _ rfl (by kernel_rfl) ?_
            refine s1_no rfl (congrArg Value.bool hg30) ⟨hS, ?_⟩
            refine wd_take 21 _ _ rfl (by kernel_rfl) hS (yd_yes rfl (congrArg Value.bool hg27) fun A hA => rn_pickF (congrArg Value.bool hg30) (by conv => lhs; whnf)) ?_
            refine wd_take 22 _ _ rfl (by kernel_rfl) hS (yd_yes rfl (congrArg Value.bool hg27) fun A hA => rn_not rfl) ?_
            refine wd_take 23 _ _ rfl (by kernel_rfl) hS (yd_yes rfl (congrArg Value.bool hg20) fun A hA => rn_pickT (congrArg Value.bool hg27) (by conv => lhs; whnf)) ?_
            refine wd_take 24 _ _ rfl (by kernel_rfl) hS (yd_do fun A hA => rn_pickF (congrArg Value.bool hg20) (by conv => lhs; whnf)) ?_
            refine wd_done (by kernel_rfl) ?_ _
            replace hX := hX.tr hS
            replace hB4 := hB4.ext hS id; replace hB5 := hB5.ext hS id; replace hB6 := hB6.ext hS id; replace hB7 := hB7.ext hS id
            replace hXo := hXo.tr hS
            replace hDk := hDk.non hS
            replace hW := hW.tr hS
            refine W_cond rfl (fun hc1 => ?_) (fun hc1 => ?_)
            · have hR : likeB p (spl 47 f) T = false := by first | assumption | exact like_no hxl q35 (by rw [hxi]; exact hIr.1) (not_okAt hxl ht q1 (fun _ => by simpa using hc1))
              refine W_seq ?_
              refine W_region ?_
              have hBo := hB6
              refine wl_store1 (b := b6) p_4 rfl (by conv => lhs; whnf) rfl rfl hB6 (Nat.le_of_ble_eq_true rfl) ?_; intro w13 hE13 hB6 hz13
              replace hX := hX.mine hE13 hl6
              replace hB4 := hB4.ext hE13 (fun h => by omega); replace hB5 := hB5.ext hE13 (fun h => by omega); replace hB7 := hB7.ext hE13 (fun h => by omega)
              replace hXo := hXo.mine hE13 (.inr ho6)
              replace hDk := hDk.box hE13 hBo
              replace hW := hW.mine hE13 (.inl (by first | exact .inl rfl | exact .inr rfl))
              refine wl_nil ?_
              refine W_ret ?_
              replace hB6 := hB6.cast (cs' := [Value.bool (likeB p (spl 47 f) T)]) (by rw [hR] <;> rfl)
              exact ⟨hX, rfl, ⟨hB6, hK6.2⟩, hXo, hW, hDk, trivial⟩
            · have hok : okAt p (spl 47 f) T x.1 := by first | assumption | exact ⟨x.2, t, hxl, ht, .inr ⟨q2, by simpa using hc1⟩⟩ | exact absurd hc1 (by simp)
              refine W_skip ?_
              refine W_region ?_
              refine wl_val (rn_load1 p_3 rfl hB7 rfl) ?_
              refine wl_val (rn_add rfl rfl (by omega)) ?_
              have hBo := hB7
              refine wl_store1 (b := b7) p_3 rfl (by conv => lhs; whnf) rfl rfl hB7 (Nat.le_of_ble_eq_true rfl) ?_; intro w14 hE14 hB7 hz14
              replace hX := hX.mine hE14 hl7
              replace hB4 := hB4.ext hE14 (fun h => by omega); replace hB5 := hB5.ext hE14 (fun h => by omega); replace hB6 := hB6.ext hE14 (fun h => by omega)
              replace hXo := hXo.mine hE14 (.inr ho7)
              replace hDk := hDk.box hE14 hBo
              replace hW := hW.mine hE14 (.inl (by first | exact .inl rfl | exact .inr rfl))
              refine wl_nil ?_
              replace hB7 := hB7.cast (show [Value.int .i64 ((pre.length : Int) + 1)] = [.int .i64 ((pre ++ [x]).length : Nat)] by simp)
              exact ⟨hX, ⟨hB4, hK4.2⟩, ⟨hB5, hK5.2⟩, ⟨hB6, hK6.2⟩, ⟨hB7, hK7.2⟩, hXo, hW, hDk, ⟨fun j hj => by rw [List.length_append, List.length_singleton] at hj; rcases Nat.lt_or_ge j pre.length with h | h; exact hIr.1 j h; (have e : j = x.1 := by omega); subst e; exact ⟨hok, by rw [hxl]; exact fun e => q35 (Option.some.inj e)⟩, by rw [List.length_append, List.length_singleton]; omega⟩⟩
        · have hok : okAt p (spl 47 f) T x.1 := ⟨x.2, t, hxl, ht, .inl (by simpa using of_decide_eq_false hg27)⟩
          refine wd_take 12 _ _ rfl (by kernel_rfl) hS (yd_no rfl (congrArg Value.bool hg27)) ?_
          refine wd_take 13 _ _ rfl (by kernel_rfl) hS (yd_no rfl (congrArg Value.bool hg27)) ?_
          refine wd_take 14 _ _ rfl (by kernel_rfl) hS (yd_no rfl (congrArg Value.bool hg27)) ?_
          refine wd_take 15 _ _ rfl (by kernel_rfl) hS (yd_nou rfl rfl) ?_
          refine wd_take 16 _ _ rfl (by kernel_rfl) hS (yd_nou rfl rfl) ?_
          refine wd_take 17 _ _ rfl (by kernel_rfl) hS (yd_nou rfl rfl) ?_
          refine wd_take 18 _ _ rfl (by kernel_rfl) hS (yd_nou rfl rfl) ?_
          refine wd_take 19 _ _ rfl (by kernel_rfl) hS (yd_nou rfl rfl) ?_
          refine wd_only 20 _ rfl (by kernel_rfl) ?_
          refine s1_nou rfl rfl ⟨hS, ?_⟩
          refine wd_take 21 _ _ rfl (by kernel_rfl) hS (yd_no rfl (congrArg Value.bool hg27)) ?_
          refine wd_take 22 _ _ rfl (by kernel_rfl) hS (yd_no rfl (congrArg Value.bool hg27)) ?_
          refine wd_take 23 _ _ rfl (by kernel_rfl) hS (yd_yes rfl (congrArg Value.bool hg20) fun A hA => rn_pickF (congrArg Value.bool hg27) (by conv => lhs; whnf)) ?_
          refine wd_take 24 _ _ rfl (by kernel_rfl) hS (yd_do fun A hA => rn_pickF (congrArg Value.bool hg20) (by conv => lhs; whnf)) ?_
          refine wd_done (by kernel_rfl) ?_ _
          replace hX := hX.tr hS
          replace hB4 := hB4.ext hS id; replace hB5 := hB5.ext hS id; replace hB6 := hB6.ext hS id; replace hB7 := hB7.ext hS id
          replace hXo := hXo.tr hS
          replace hDk := hDk.non hS
          replace hW := hW.tr hS
          refine W_condF rfl ?_
          refine W_skip ?_
          refine W_region ?_
          refine wl_val (rn_load1 p_3 rfl hB7 rfl) ?_
          refine wl_val (rn_add rfl rfl (by omega)) ?_
          have hBo := hB7
          refine wl_store1 (b := b7) p_3 rfl (by conv => lhs; whnf) rfl rfl hB7 (Nat.le_of_ble_eq_true rfl) ?_; intro w15 hE15 hB7 hz15
          replace hX := hX.mine hE15 hl7
          replace hB4 := hB4.ext hE15 (fun h => by omega); replace hB5 := hB5.ext hE15 (fun h => by omega); replace hB6 := hB6.ext hE15 (fun h => by omega)
          replace hXo := hXo.mine hE15 (.inr ho7)
          replace hDk := hDk.box hE15 hBo
          replace hW := hW.mine hE15 (.inl (by first | exact .inl rfl | exact .inr rfl))
          refine wl_nil ?_
          replace hB7 := hB7.cast (show [Value.int .i64 ((pre.length : Int) + 1)] = [.int .i64 ((pre ++ [x]).length : Nat)] by simp)
          exact ⟨hX, ⟨hB4, hK4.2⟩, ⟨hB5, hK5.2⟩, ⟨hB6, hK6.2⟩, ⟨hB7, hK7.2⟩, hXo, hW, hDk, ⟨fun j hj => by rw [List.length_append, List.length_singleton] at hj; rcases Nat.lt_or_ge j pre.length with h | h; exact hIr.1 j h; (have e : j = x.1 := by omega); subst e; exact ⟨hok, by rw [hxl]; exact fun e => q35 (Option.some.inj e)⟩, by rw [List.length_append, List.length_singleton]; omega⟩⟩
  · rintro N rk w' ⟨hK4, hK5, hK6, hK7, hXo, hW, hDk, hIr⟩ hN hA hr hrd
    have hB4 := hK4.1
    have hB5 := hK5.1
    have hB6 := hK6.1
    have hB7 := hK7.1
    have hX := hXo; have hD := hDk.add hrd (Nat.le_trans hszr (hN rk hr).1) hr
    refine W_seq ?_
    refine W_region ?_
    refine wl_val (rn_load1 p_3 rfl hB7 rfl) ?_
    refine wl_val (rn_load1 p_22 rfl hB4 rfl) ?_
    refine wl_val (rn_len sl_22 rfl) ?_
    refine wl_val (rn_eql rfl rfl) ?_
    have hBo := hB6
    refine wl_store1 (b := b6) p_4 rfl (by conv => lhs; whnf) rfl rfl hB6 (Nat.le_of_ble_eq_true rfl) ?_; intro w16 hE16 hB6 hz16
    replace hX := hX.mine hE16 hl6
    replace hB4 := hB4.ext hE16 (fun h => by omega); replace hB5 := hB5.ext hE16 (fun h => by omega); replace hB7 := hB7.ext hE16 (fun h => by omega)
    replace hD := hD.box hE16 hBo
    refine wl_nil ?_
    refine W_ret ?_
    refine hD.leave fun B hB => ?_
    have hB4 := hB4.ext hB (hD.ne hB4)
    have hB5 := hB5.ext hB (hD.ne hB5)
    have hB6 := hB6.ext hB (hD.ne hB6)
    have hB7 := hB7.ext hB (hD.ne hB7)
    have hX := hD.out hX hB
    exact ⟨_, resR1 (res1_cell p_4 rfl hB6), hX, by rw [like_end (fun j hj => hIr.1 j (by rw [numb_len]; exact hj)), numb_len]⟩
  · rintro c N rk w' ⟨rfl, hK6, hXo, hW, hDk, hIr⟩ hN hA hr hrd
    have hB6 := hK6.1
    have hX := hXo; have hD := hDk.add hrd (Nat.le_trans hszr (hN rk hr).1) hr
    refine W_ret ?_
    refine hD.leave fun B hB => ?_
    have hB6 := hB6.ext hB (hD.ne hB6)
    have hX := hD.out hX hB
    exact ⟨_, resR1 (res1_cell p_4 rfl hB6), hX, rfl⟩
-- bellman/match.Match$1
theorem match1_ok (w : World) (x : Str) : Fn Tryz.prog 120 #[Sv x] w fun u w' => u = .bool true := by
  have hX := Ext.refl Non w
  refine fn_of_W (args := [_]) Tryz.func120 rfl (by kernel_rfl) rfl ?_
  refine W_seq ?_
  refine W_region ?_
  refine wl_val (rn_assign (by conv => lhs; whnf)) ?_
  refine wl_nil ?_
  refine W_seq ?_
  refine W_region ?_
  refine wl_val (rn_assign (by conv => lhs; whnf)) ?_
  refine wl_nil ?_
  refine W_ret ?_
  exact ⟨_, resR1 (res1_tmp rfl), hX, rfl⟩
theorem tells_any (w : World) : Tells 120 #[] w anyS := ⟨e_120, fun A x _ _ => match1_ok A x⟩
-- bellman/match.Match
set_option maxHeartbeats 800000 in
theorem tmatch_ok (w : World) (f t : Str) (hnf : f.length ≤ 1000000) (hnt : t.length ≤ 1000000) : Fn Tryz.prog 82 #[Sv f, Sv t] w fun u w' => u = .bool (matchB f t) := by
  have hX := Ext.refl Non w
  refine fn_of_W (args := [_, _]) Tryz.func82 rfl (by kernel_rfl) rfl ?_
  refine W_seq ?_
  refine W_region ?_
  refine wl_val (rn_assign (by conv => lhs; whnf)) ?_
  refine wl_nil ?_
  refine W_seq ?_
  refine W_seq ?_
  refine W_region ?_
  refine wl_val (rn_move (by conv => lhs; whnf)) ?_
  refine wl_call e_64 rfl (tfilter_ok w f hnf) ?_; intro v6 w1 hE1 hR1
  replace hX := hX.tr hE1
  subst hR1
  refine wl_val (rn_not rfl) ?_
  refine wl_val (rn_move (by conv => lhs; whnf)) ?_
  refine wl_split (d := 8) rfl (fun hg8 => ?_) (fun hg8 => ?_)
  · have hR : matchB f t = false := match_no1 (by simpa using hg8)
    refine wl_no rfl (congrArg Value.bool hg8) ?_
    refine wl_no rfl (congrArg Value.bool hg8) ?_
    refine wl_no rfl (congrArg Value.bool hg8) ?_
    refine wl_val (rn_pickT (congrArg Value.bool hg8) (by conv => lhs; whnf)) ?_
    refine wl_val (rn_move (by conv => lhs; whnf)) ?_
    refine wl_no rfl rfl ?_
    refine wl_no rfl rfl ?_
    refine wl_no rfl rfl ?_
    refine wl_val (rn_pickT rfl (by conv => lhs; whnf)) ?_
    refine wl_nil ?_
    refine W_condT rfl ?_
    refine W_seq ?_
    refine W_region ?_
    refine wl_val (rn_assign (by conv => lhs; whnf)) ?_
    refine wl_nil ?_
    refine W_ret ?_
    exact ⟨_, resR1 (res1_tmp rfl), hX, by rw [hR]; rfl⟩
  · have hF : filterB f = true := by simpa using hg8
    refine wl_yes rfl (congrArg Value.bool hg8) ?_
    refine wl_val (rn_move (by conv => lhs; whnf)) ?_
    refine wl_yes rfl (congrArg Value.bool hg8) ?_
    refine wl_call e_92 rfl (ttopic_ok w1 t hnt) ?_; intro v10 w2 hE2 hR2
    replace hX := hX.tr hE2
    subst hR2
    refine wl_yes rfl (congrArg Value.bool hg8) ?_
    refine wl_val (rn_not rfl) ?_
    refine wl_val (rn_pickF (congrArg Value.bool hg8) (by conv => lhs; whnf)) ?_
    refine wl_val (rn_move (by conv => lhs; whnf)) ?_
    refine wl_split (d := 13) rfl (fun hg13 => ?_) (fun hg13 => ?_)
    · have hR : matchB f t = false := match_no2 (by simpa using hg13)
      refine wl_no rfl (congrArg Value.bool hg13) ?_
      refine wl_no rfl (congrArg Value.bool hg13) ?_
      refine wl_no rfl (congrArg Value.bool hg13) ?_
      refine wl_val (rn_pickT (congrArg Value.bool hg13) (by conv => lhs; whnf)) ?_
      refine wl_nil ?_
      refine W_condT rfl ?_
      refine W_seq ?_
      refine W_region ?_
      refine wl_val (rn_assign (by conv => lhs; whnf)) ?_
      refine wl_nil ?_
      refine W_ret ?_
      exact ⟨_, resR1 (res1_tmp rfl), hX, by rw [hR]; rfl⟩
    · have hP : topicB t = true := by simpa using hg13
      refine wl_yes rfl (congrArg Value.bool hg13) ?_
      refine wl_val (rn_move (by conv => lhs; whnf)) ?_
      refine wl_yes rfl (congrArg Value.bool hg13) ?_
      refine wl_val (rn_move (by conv => lhs; whnf)) ?_
      refine wl_yes rfl (congrArg Value.bool hg13) ?_
      refine wl_call e_65 rfl (apart_ok w2 f t hnf hnt) ?_; intro v16 w3 hE3 hR3
      replace hX := hX.tr hE3
      subst hR3
      refine wl_val (rn_pickF (congrArg Value.bool hg13) (by conv => lhs; whnf)) ?_
      refine wl_nil ?_
      refine W_cond rfl (fun hc0 => ?_) (fun hc0 => ?_)
      · have hR : matchB f t = false := by first | assumption | exact match_no3 hc0
        refine W_seq ?_
        refine W_region ?_
        refine wl_val (rn_assign (by conv => lhs; whnf)) ?_
        refine wl_nil ?_
        refine W_ret ?_
        exact ⟨_, resR1 (res1_tmp rfl), hX, by rw [hR]; rfl⟩
      · have hR := match_eq hF hP hc0
        refine W_skip ?_
        refine W_seq ?_
        refine W_region ?_
        refine wl_val (rn_move (by conv => lhs; whnf)) ?_
        refine wl_val (rn_move (by conv => lhs; whnf)) ?_
        refine wl_call e_26 rfl (levels_ok w3 t hnt) ?_; intro v20 w4 hE4 hR4
        replace hX := hX.tr hE4
        have hL := hR4; obtain ⟨a20, c20, hv20_, _⟩ := id hL.len; rw [List.length_map] at hv20_; subst hv20_
        obtain ⟨wL, hwL⟩ : ∃ x, x = w4 := ⟨_, rfl⟩
        rw [← hwL] at hL
        have hV : Ext Non wL w4 := by rw [hwL]; exact Ext.refl _ _
        refine wl_call e_66 rfl (like_ok w4 f (spl 47 t) anyS hnf (fun x hx => by have := spl_le hx; omega) (hL.ext hV (fun _ h => h)) (tells_any w4)) ?_; intro v21 w5 hE5 hR5
        replace hX := hX.tr hE5
        replace hV := hV.tr hE5
        subst hR5
        refine wl_val (rn_assign (by conv => lhs; whnf)) ?_
        refine wl_nil ?_
        refine W_ret ?_
        exact ⟨_, resR1 (res1_tmp rfl), hX, by rw [hR]; rfl⟩
end Go.Proofs.YtaddeakfojpdoaaGreatDoorC

/- Tries: adding, asking. -/
set_option linter.unusedVariables false
set_option linter.unusedSimpArgs false
set_option maxRecDepth 100000
namespace Go.Proofs.YtaddeakfojpdoaaGreatDoorC
open Go.RowKit
/-- The node at some levels. -/
def Tr.go : List Str → Tr → Tr
  | [], t => t
  | l :: ls, t => Tr.go ls (t.kid l)
theorem Tr.go_snoc (ls : List Str) (l : Str) (t : Tr) : Tr.go (ls ++ [l]) t = (Tr.go ls t).kid l := by
  induction ls generalizing t with
  | nil => rfl
  | cons a ls ih => exact ih _
theorem Tr.Ok.go {n : Nat} : ∀ (ls : List Str) {m : Nat} {t : Tr}, t.Ok n m → ∃ m', (Tr.go ls t).Ok n m'
  | [], m, t, h => ⟨m, h⟩
  | l :: ls, m, t, h => Tr.Ok.go ls (h.kid l)
-- (bellman/set.Set[int]).Join
set_option maxHeartbeats 800000 in
theorem joinM_ok (w : World) (ks os : List Int) {v vo : Value} (M : Nat → Prop) (hM : ∀ i, M i → i < w.heap.size) (hs : SetR M w v ks) (ho : SetR Non w vo os) (hk : Sorted ltI ks) (hn : ks.length ≤ 1000) (hno : os.length ≤ 1000) : Fn Tryz.prog 136 #[v, vo] w fun u w' => SetR M w' u (os.foldl (putK ltI) ks) := by
  obtain ⟨v1, v2, vs0, rfl, hm0⟩ := hs
  obtain ⟨q1, n1, c1, rfl⟩ := hm0.keys.shape; obtain ⟨q2, n2, c2, rfl⟩ := hm0.vals.shape
  obtain ⟨o1, o2, vso, rfl, hmo⟩ := ho
  obtain ⟨p1, m1, d1, rfl⟩ := hmo.keys.shape; obtain ⟨p2, m2, d2, rfl⟩ := hmo.vals.shape
  have hX := Ext.refl Non w
  refine fn_of_W (args := [_, _]) Tryz.func136 rfl (by kernel_rfl) rfl ?_
  refine W_seq ?_
  refine W_region ?_
  refine wl_boxS rfl ?_; intro b2 w1 hb2 hE1 hB2
  have hq2 : w.heap.size ≤ b2 := Nat.le_trans hX.size hb2
  have hl2 : Mine Non w b2 := .inr hq2
  replace hX := hX.tr hE1
  refine wl_boxS rfl ?_; intro b3 w2 hb3 hE2 hB3
  have hn2_3 : b2 < b3 := Nat.lt_of_lt_of_le hB2.lt hb3
  have hq3 : w.heap.size ≤ b3 := Nat.le_trans hX.size hb3
  have hl3 : Mine Non w b3 := .inr hq3
  replace hX := hX.tr hE2
  replace hB2 := hB2.ext hE2 id
  refine wl_alloc z_98 ?_; intro b4 w3 hb4 hE3 hB4
  have hn2_4 : b2 < b4 := Nat.lt_of_lt_of_le hB2.lt hb4
  have hn3_4 : b3 < b4 := Nat.lt_of_lt_of_le hB3.lt hb4
  have hq4 : w.heap.size ≤ b4 := Nat.le_trans hX.size hb4
  have hl4 : Mine Non w b4 := .inr hq4
  replace hX := hX.tr hE3
  replace hB2 := hB2.ext hE3 id; replace hB3 := hB3.ext hE3 id
  refine wl_nil ?_
  refine W_seq ?_
  refine W_seq ?_
  refine W_region ?_
  refine wl_val (rn_loadB s_98 rfl rfl hB3) ?_
  refine wl_call e_43 rfl (all_ok w3 os (fun i => i = b2) (fun i e => by rw [e]; exact hB2.lt) ⟨_, _, vso, rfl, (hmo.sub (M' := fun i => i = b2) (fun i e hlt => by omega)).ext hX.of_non (fun _ h => h)⟩) ?_; intro v7 w4 hE4 hR4
  replace hX := hX.tr hE4
  replace hB2 := hB2.ext hE4 id; replace hB3 := hB3.ext hE4 id; replace hB4 := hB4.ext hE4 id
  have hIt := hR4; obtain ⟨fk, ck, hfk, _⟩ := id hIt; subst hfk
  have hW := Ext.refl (fun i => i = b2) w4; have hz2 := hB2.lt; have hz4 := hB4.lt
  have hmS := (hm0.sub (M' := fun i => Non i ∨ ((i = b2 ∨ i = b4) ∨ M i)) (fun i e hlt => by rcases e with e | (e | e) | e; exact e.elim; omega; omega; exact e)).ext hX (fun _ h => h.elim)
  refine wl_nil ?_
  refine W_block ?_   -- block 0
  have hszr := hX.size
  have hsz_hW := hW.size
  have ho2 : w.heap.size ≤ b2 := by rcases hl2 with h | h; exact h.elim; exact h
  have ho3 : w.heap.size ≤ b3 := by rcases hl3 with h | h; exact h.elim; exact h
  have ho4 : w.heap.size ≤ b4 := by rcases hl4 with h | h; exact h.elim; exact h
  refine W_rangeFunc (M := fun i => i = b2) (w0 := w4) (I := fun pre N A => ∃ u1 : Value, ∃ u2 : Value, ∃ vs : List (List Value), Box N A b2 [u1, u2] ∧ Box N A b3 [.slice p1 m1 d1, .slice p2 m2 d2] ∧ Box N A b4 [.slice none 0 0, .slice none 0 0] ∧ Ext Non w A ∧ Ext (fun i => i = b2) w4 A ∧ MkN w [] N A ∧ (MapR (fun i => N i ∨ ((i = b2 ∨ i = b4) ∨ M i)) A eI1 0 u1 u2 (pre.foldl (putK ltI) ks) vs) ∧ (True)) (X := fun c N A => False) (encs := fun x : Int => [.int .i64 x]) (xs := os) rfl (hIt) (hW) (fun _ => rfl) (fun pre => Stab.ex fun u1 => Stab.ex fun u2 => Stab.ex fun vs => (Stab.box _ _).and ((Stab.box _ _).and ((Stab.box _ _).and ((Stab.old hX.size).and ((Stab.oldM hW.size).and ((Stab.mk _ _).and ((Stab.mapB _ _ _ _ _ _ _).and ((Stab.pure _))))))))) (fun c => Stab.false) ⟨.slice q1 n1 c1, .slice q2 n2 c2, vs0, ⟨hB2, id⟩, ⟨hB3, id⟩, ⟨hB4, id⟩, hX, hW, (Mk.nil : Mk w [] w4).toN, hmS, trivial⟩ ?_ ?_ ?_
  · rintro l N pre x A hl hN hA hst ⟨u1, u2, vs, hK2, hK3, hK4, hXo, hW, hDk, hm, hIr⟩ ⟨post, hpre⟩
    have hB2 := hK2.1; have hl2 : Mine (Yc (fun i => i = b2) w4 N) A b2 := .inl ⟨hK2.2, .inl rfl⟩
    have hB3 := hK3.1
    have hB4 := hK4.1
    have hX := Ext.refl (Yc (fun i => i = b2) w4 N) A
    refine W_region ?_
    refine wl_val (rn_assign (by conv => lhs; whnf)) ?_
    refine wl_nil ?_
    refine ⟨rfl, hX, fun A2 hE2r hz2r hst2 => ?_⟩
    have hNl := (hN l hl).2
    replace hB2 := hB2.ext hE2r (fun e => hK2.2 (by rw [e]; exact hl))
    replace hB3 := hB3.ext hE2r (fun e => hK3.2 (by rw [e]; exact hl))
    replace hB4 := hB4.ext hE2r (fun e => hK4.2 (by rw [e]; exact hl))
    replace hXo := hXo.mine hE2r (.inr (Nat.le_trans hszr (hN l hl).1)); replace hDk := hDk.lp hE2r hl
    replace hW := hW.mine hE2r (.inr (Nat.le_trans hsz_hW (hN l hl).1))
    replace hm := hm.ext hE2r (fun i e => .inl (by rw [e]; exact hl))
    have hl2 : Mine (Yc (fun i => i = b2) w4 N) A2 b2 := .inl ⟨hK2.2, .inl rfl⟩
    have hX := Ext.refl (Yc (fun i => i = b2) w4 N) A2
    refine W_block ?_   -- block 1
    refine W_region ?_
    refine wl_val (rn_loadB s_98 rfl rfl hB2) ?_
    refine wl_val (rn_move (by conv => lhs; whnf)) ?_
    have hsx := hX.size; have hsw := hW.size
    have hfl := foldK_len pre ks
    have hpl : os.length = pre.length + (post.length + 1) := by rw [hpre]; simp
    refine wl_call e_71 rfl (with_ok A2 (pre.foldl (putK ltI) ks) ⟨_, _, vs, rfl, hm.sub (M' := Non) (fun _ h _ => h.elim)⟩ x (foldK_sorted _ _ hk) (by omega)) ?_; intro v11 w5 hE5 hR5
    replace hX := hX.tr hE5
    replace hB2 := hB2.ext hE5 id; replace hB3 := hB3.ext hE5 id; replace hB4 := hB4.ext hE5 id
    replace hXo := hXo.tr hE5
    replace hDk := hDk.non hE5
    replace hW := hW.tr hE5
    replace hm := hm.ext hE5 (fun _ h => h.elim)
    obtain ⟨u1n, u2n, vsn, rfl, hM11⟩ := hR5
    obtain ⟨a1, l1, c1, rfl⟩ := id hM11.keys.shape; obtain ⟨a2, l2, c2, rfl⟩ := id hM11.vals.shape
    replace hM11 := hM11.sub (M' := fun i => N i ∨ ((i = b2 ∨ i = b4) ∨ M i)) (fun i h _ => by unfold Old; rcases h with h | (h | h) | h; have := (hN i h).2; omega; omega; omega; have := hM i h; omega)
    have hBo := hB2
    refine wl_storeB s_98 rfl rfl rfl (two1 rfl rfl) hB2 rfl ?_; intro w6 hE6 hB2 hz6
    replace hX := hX.mine hE6 hl2
    replace hB3 := hB3.ext hE6 (fun h => by omega); replace hB4 := hB4.ext hE6 (fun h => by omega)
    replace hXo := hXo.mine hE6 (.inr ho2)
    replace hDk := hDk.box hE6 hBo
    replace hW := hW.mine hE6 (.inl rfl)
    replace hM11 := hM11.ext hE6 (fun i e => .inr (.inl (.inl e)))
    refine wl_nil ?_
    exact ⟨hX, .slice a1 l1 c1, .slice a2 l2 c2, vsn, ⟨hB2, hK2.2⟩, ⟨hB3, hK3.2⟩, ⟨hB4, hK4.2⟩, hXo, hW, hDk, (by rw [List.foldl_append]; exact hM11), trivial⟩
  · rintro N rk w' ⟨u1, u2, vs, hK2, hK3, hK4, hXo, hW, hDk, hm, hIr⟩ hN hA hr hrd
    have hB2 := hK2.1
    have hB3 := hK3.1
    have hB4 := hK4.1
    have hX := hXo; have hD := hDk.add hrd (Nat.le_trans hszr (hN rk hr).1) hr
    obtain ⟨a1, l1, c1, hu1⟩ := id hm.keys.shape; obtain ⟨a2, l2, c2, hu2⟩ := id hm.vals.shape
    refine W_seq ?_
    refine W_region ?_
    refine wl_val (rn_loadB s_98 rfl rfl hB2) ?_
    have hBo := hB4
    refine wl_storeB s_98 rfl rfl rfl (two1 (by rw [hu1]; rfl) (by rw [hu2]; rfl)) hB4 rfl ?_; intro w7 hE7 hB4 hz7
    replace hX := hX.mine hE7 hl4
    replace hB2 := hB2.ext hE7 (fun h => by omega); replace hB3 := hB3.ext hE7 (fun h => by omega)
    replace hD := hD.box hE7 hBo
    replace hm := hm.ext hE7 (fun i e => .inr (.inl (.inr e)))
    refine wl_nil ?_
    refine W_ret ?_
    refine hD.leave fun B hB => ?_
    have hB2 := hB2.ext hB (hD.ne hB2)
    have hB3 := hB3.ext hB (hD.ne hB3)
    have hB4 := hB4.ext hB (hD.ne hB4)
    have hX := hD.out hX hB
    exact ⟨_, resR1 (res1_box s_98 rfl hB4 rfl), hX, ⟨_, _, vs, rfl, (hm.ext hB (fun i h => .inl (by simp only [List.mem_singleton] at h; rw [mark_inj h]; exact hr))).sub (M' := M) (fun i h _ => .inr (.inr h))⟩⟩
  · intro c N rk w' h; exact h.elim
-- bellman/trie.at
theorem tat_ok (w : World) (t : Tr) {v vl : Value} (ls : List Str) (ht : TrM Non w t v) (hl : Sl Non w vl 1 (ls.map eS1)) {n m : Nat} (hok : t.Ok n m) (hn : n ≤ 1000000) : Fn Tryz.prog 121 #[v, vl] w fun u w' => TrM Non w' (Tr.go ls t) u := by
  obtain ⟨a, c, rfl, hbg⟩ := hl.len
  simp only [List.length_map] at hl hbg ⊢
  have hbig2 : big = 9223372036854775807 := rfl
  have hX := Ext.refl Non w
  refine fn_of_W (args := [_, _]) Tryz.func121 rfl (by kernel_rfl) rfl ?_
  refine W_seq ?_
  refine W_region ?_
  refine wl_val (rn_assign (by conv => lhs; whnf)) ?_
  refine wl_nil ?_
  refine W_seq ?_
  refine W_seq ?_
  refine W_region ?_
  refine wl_val (rn_move (by conv => lhs; whnf)) ?_
  refine wl_val (rn_len sl_22 rfl) ?_
  refine wl_val (rn_move (by conv => lhs; whnf)) ?_
  refine wl_nil ?_
  refine W_block ?_   -- block 0
  refine W_loopS (S := Nat × Value) [0, 7, 8, 9] (fun ⟨i, p⟩ => [p, .slice a ls.length c, .int .i64 (ls.length : Nat), .int .i64 (i : Nat)]) (fun ⟨i, p⟩ A => (Ext Non w A) ∧ (i ≤ ls.length ∧ TrM Non A (Tr.go (ls.take i) t) p)) (fun ⟨i, p⟩ => ls.length - i) (0, v) ⟨rfl, rfl, rfl, rfl, trivial⟩ ⟨hX, ⟨Nat.zero_le _, ht⟩⟩ ?_
  rintro τ0 ⟨i, p⟩ A0 ⟨hX, hI0⟩
  obtain ⟨hil, hp⟩ := hI0
  obtain ⟨m2, hok2⟩ := Tr.Ok.go (ls.take i) hok
  refine W_seq ?_
  refine W_region ?_
  refine wl_val (rn_lss rfl rfl) ?_
  refine wl_nil ?_
  refine W_seq ?_
  refine W_cond rfl (fun hc0 => ?_) (fun hc0 => ?_)
  · have hlt := of_decide_eq_true hc0; simp only [Int.ofNat_lt] at hlt
    obtain ⟨x, hi⟩ : ∃ x, (ls)[i]? = some x := ⟨_, List.getElem?_eq_getElem hlt⟩
    obtain ⟨bb, oo, ea⟩ := hl.base (by intro e; have := congrArg List.length e; simp only [List.length_map, List.length_nil] at this; omega); subst ea
    refine W_skip ?_
    refine W_seq ?_
    refine W_block ?_   -- block 1
    refine W_seq ?_
    refine W_region ?_
    refine wl_val (rn_indexAddr sl_22 rfl rfl (by omega)) ?_
    refine wl_val (rn_load p_9 rfl ((hl.ext hX (fun _ h => h)).at0 (eS_at hi) rfl)) ?_
    refine wl_val (rn_assign (by conv => lhs; whnf)) ?_
    refine wl_nil ?_
    refine W_region ?_
    refine wl_val (rn_move (by conv => lhs; whnf)) ?_
    refine wl_val (rn_move (by conv => lhs; whnf)) ?_
    refine wl_call e_46 rfl (nkid_ok A0 _ Non (fun _ h => h.elim) hp hok2 hn x) ?_; intro v15 w1 hE1 hR1
    replace hX := hX.tr hE1
    replace hp := hp.ext hE1 (fun _ h => h)
    have hK15 := hR1
    refine wl_val (rn_assign (by conv => lhs; whnf)) ?_
    refine wl_nil ?_
    refine W_region ?_
    refine wl_val (rn_add rfl rfl (by omega)) ?_
    refine wl_val (rn_move (by conv => lhs; whnf)) ?_
    refine wl_nil ?_
    exact ⟨rfl, (i + 1, _), ⟨rfl, rfl, rfl, rfl, trivial⟩, ⟨hX, ⟨hlt, by rw [List.take_add_one, hi]; simp only [Option.toList_some]; rw [Tr.go_snoc]; exact hK15⟩⟩, by show ls.length - (i + 1) < ls.length - i; omega⟩
  · have hge := of_decide_eq_false hc0; simp only [Int.ofNat_lt, Nat.not_lt] at hge
    rw [List.take_of_length_le hge] at hp
    refine W_exit ?_   -- exit 0
    refine W_seq ?_
    refine W_region ?_
    refine wl_val (rn_move (by conv => lhs; whnf)) ?_
    refine wl_val (rn_assign (by conv => lhs; whnf)) ?_
    refine wl_nil ?_
    refine W_ret ?_
    exact ⟨_, resR1 (res1_tmp rfl), hX, hp⟩
end Go.Proofs.YtaddeakfojpdoaaGreatDoorC

/- Tries: changing, adding. -/
set_option linter.unusedVariables false
set_option linter.unusedSimpArgs false
set_option maxRecDepth 100000
namespace Go.Proofs.YtaddeakfojpdoaaGreatDoorC
open Go.RowKit
-- (bellman/trie.Trie).Add$1
theorem add1_ok (w : World) (t : Tr) (sub : Int) (b : Nat) {v : Value} (M : Nat → Prop) (hM : ∀ i, M i → i < w.heap.size) (ht : TrM M w t v) {n m : Nat} (hok : t.Ok n m) (hn : n ≤ 900000) (hC : IsBox w b [.int .i64 sub]) : Fn Tryz.prog 116 #[v, .pointer (some ⟨b, 0, none⟩)] w fun u w' => TrM M w' (t.put [] sub) u := by
  have hX := Ext.refl Non w
  refine fn_of_W (args := [_, _]) Tryz.func116 rfl (by kernel_rfl) rfl ?_
  refine W_seq ?_
  refine W_region ?_
  refine wl_val (rn_assign (by conv => lhs; whnf)) ?_
  refine wl_nil ?_
  refine W_seq ?_
  refine W_region ?_
  refine wl_val (rn_move (by conv => lhs; whnf)) ?_
  refine wl_val (rn_load1 p_3 rfl (hC.ext hX id) rfl) ?_
  refine wl_call e_44 rfl (nwith_ok w t M (fun i h => Nat.lt_of_lt_of_le (hM i h) hX.size) (ht.ext hX (fun _ h => h.elim)) hok (by omega) sub) ?_; intro v6 w1 hE1 hR1
  replace hX := hX.tr hE1
  have hW6 := hR1
  refine wl_val (rn_assign (by conv => lhs; whnf)) ?_
  refine wl_nil ?_
  refine W_ret ?_
  exact ⟨_, resR1 (res1_tmp rfl), hX, hW6⟩
-- bellman/trie.change
theorem change_nil (w : World) (t : Tr) {v vl : Value} (sub : Int) (b : Nat) (M : Nat → Prop) (hM : ∀ i, M i → i < w.heap.size) (ht : TrM M w t v) (hC : IsBox w b [.int .i64 sub]) (hl : Sl Non w vl 1 []) {n m : Nat} (hok : t.Ok n m) (hn : n ≤ 900000) : Fn Tryz.prog 84 #[v, vl, .func (.func 116) #[] #[.pointer (some ⟨b, 0, none⟩)]] w fun u w' => TrM M w' (t.put [] sub) u := by
  obtain ⟨a, c, rfl, _⟩ := hl.len
  have hX := Ext.refl Non w
  refine fn_of_W (args := [_, _, _]) Tryz.func84 rfl (by kernel_rfl) rfl ?_
  refine W_seq ?_
  refine W_region ?_
  refine wl_val (rn_assign (by conv => lhs; whnf)) ?_
  refine wl_nil ?_
  refine W_seq ?_
  refine W_seq ?_
  refine W_region ?_
  refine wl_val (rn_move (by conv => lhs; whnf)) ?_
  refine wl_val (rn_len sl_22 rfl) ?_
  refine wl_val (rn_eql rfl rfl) ?_
  refine wl_nil ?_
  refine W_cond rfl (fun hc0 => ?_) (fun hc0 => ?_)
  · refine W_seq ?_
    refine W_region ?_
    refine wl_val (rn_move (by conv => lhs; whnf)) ?_
    refine wl_val (rn_move (by conv => lhs; whnf)) ?_
    refine wl_callv (args := [v]) (cap := #[.pointer (some ⟨b, 0, none⟩)]) rfl e_116 rfl (add1_ok w t sub b M (fun i h => Nat.lt_of_lt_of_le (hM i h) hX.size) (ht.ext hX (fun _ h => h.elim)) hok hn (hC.ext hX id)) ?_; rintro _ w1 ⟨v12, rfl, hE1, hW12⟩; refine ⟨_, rfl, ?_⟩
    replace hX := hX.tr hE1
    refine wl_val (rn_assign (by conv => lhs; whnf)) ?_
    refine wl_nil ?_
    refine W_ret ?_
    exact ⟨_, resR1 (res1_tmp rfl), hX, hW12⟩
  · exact absurd hc0 (by simp)
-- bellman/trie.change
theorem change_cons (w : World) (t : Tr) {v vl : Value} (sub : Int) (b : Nat) (M : Nat → Prop) (hM : ∀ i, M i → i < w.heap.size) (ht : TrM M w t v) (hC : IsBox w b [.int .i64 sub]) (l : Str) (ls : List Str) (hl : Sl Non w vl 1 ((l :: ls).map eS1)) {n m : Nat} (hok : t.Ok n m) (hn : n ≤ 900000) (hw : wgt (l :: ls) ≤ m) (ih : ∀ (w : World) (t : Tr) {v vl : Value} (hM : ∀ i, M i → i < w.heap.size) (ht : TrM M w t v) (hC : IsBox w b [.int .i64 sub]) (hl : Sl Non w vl 1 (ls.map eS1)) {m : Nat} (hok : t.Ok n m) (hw : wgt ls ≤ m), Fn Tryz.prog 84 #[v, vl, .func (.func 116) #[] #[.pointer (some ⟨b, 0, none⟩)]] w fun u w' => TrM M w' (t.put ls sub) u) : Fn Tryz.prog 84 #[v, vl, .func (.func 116) #[] #[.pointer (some ⟨b, 0, none⟩)]] w fun u w' => TrM M w' (t.put (l :: ls) sub) u := by
  obtain ⟨⟨a, c, rfl, hc1, hc2, hc3⟩, _⟩ := id hl
  simp only [List.length_map, List.length_cons] at hl hc1 ⊢
  obtain ⟨bb, o, ea⟩ := hl.base (by simp); subst ea
  have htl : Sl Non w (.slice (if c = 1 then some ⟨bb, o, none⟩ else (some (⟨bb, o, none⟩ : Addr)).map (·.add (1 * 1))) (ls.length + 1 - 1) (c - 1)) 1 (ls.map eS1) := by
    have := hl.cut (l := 1) (h := ls.length + 1) (m := c) (by omega) (by omega) (by omega) (by omega)
    have e : (((l :: ls).map eS1).drop 1).take (ls.length + 1 - 1) = ls.map eS1 := by simp [List.take_of_length_le]
    rw [e] at this; exact this
  have hwl : wgt ls ≤ m - (l.length + 1) := by simp only [wgt] at hw; omega
  have hX := Ext.refl Non w
  refine fn_of_W (args := [_, _, _]) Tryz.func84 rfl (by kernel_rfl) rfl ?_
  refine W_seq ?_
  refine W_region ?_
  refine wl_val (rn_assign (by conv => lhs; whnf)) ?_
  refine wl_nil ?_
  refine W_seq ?_
  refine W_seq ?_
  refine W_region ?_
  refine wl_val (rn_move (by conv => lhs; whnf)) ?_
  refine wl_val (rn_len sl_22 rfl) ?_
  refine wl_val (rn_eql rfl rfl) ?_
  refine wl_nil ?_
  refine W_cond rfl (fun hc0 => ?_) (fun hc0 => ?_)
  · exact absurd (of_decide_eq_true hc0) (by omega)
  · refine W_skip ?_
    refine W_seq ?_
    refine W_drawE mixed ?_; intro w1 hE1
    replace hX := hX.tr hE1
    have hS := Ext.refl Non w1
    refine wd_take 0 _ _ rfl (by kernel_rfl) hS (yd_do fun A hA => rn_move (by conv => lhs; whnf)) ?_
    refine wd_take 1 _ _ rfl (by kernel_rfl) hS (yd_do fun A hA => rn_move (by conv => lhs; whnf)) ?_
    refine wd_take 2 _ _ rfl (by kernel_rfl) hS (yd_do fun A hA => rn_indexAddr sl_22 rfl rfl (by omega)) ?_
    refine wd_take 3 _ _ rfl (by kernel_rfl) hS (yd_do fun A hA => rn_load p_9 rfl (((hl.ext hX (fun _ h => h)).ext hA (fun _ h => h.elim)).at0 (eS_at (i := 0) (x := l) rfl) rfl)) ?_
    refine wd_take 4 _ _ rfl (by kernel_rfl) hS (yd_do fun A hA => rn_move (by conv => lhs; whnf)) ?_
    refine wd_take 5 _ _ rfl (by kernel_rfl) hS (yd_do fun A hA => rn_move (by conv => lhs; whnf)) ?_
    refine wd_take 6 _ _ rfl (by kernel_rfl) hS (yd_do fun A hA => rn_indexAddr sl_22 rfl rfl (by omega)) ?_
    refine wd_take 7 _ _ rfl (by kernel_rfl) hS (yd_do fun A hA => rn_load p_9 rfl (((hl.ext hX (fun _ h => h)).ext hA (fun _ h => h.elim)).at0 (eS_at (i := 0) (x := l) rfl) rfl)) ?_
    refine wd_take 9 _ _ rfl (by kernel_rfl) hS (yd_do fun A hA => rn_move (by conv => lhs; whnf)) ?_
    refine wd_take 10 _ _ rfl (by kernel_rfl) hS (yd_do fun A hA => rn_slice sl_22 (l := 1) (h := (ls.length + 1)) (m := c) rfl ⟨_, rfl⟩ rfl rfl (by simp) (by omega) (by omega) (by omega)) ?_
    refine wd_take 11 _ _ rfl (by kernel_rfl) hS (yd_do fun A hA => rn_move (by conv => lhs; whnf)) ?_
    refine wd_only 8 _ rfl (by kernel_rfl) ?_
    refine s1_do ?_
    refine wl_call e_46 rfl (nkid_ok w1 t M (fun i h => Nat.lt_of_lt_of_le (hM i h) (hX.tr hS).size) (ht.ext (hX.tr hS) (fun _ h => h.elim)) hok (by omega) l) ?_; intro v21 w2 hE2 hR2
    replace hS := hS.tr hE2
    have hK21 := hR2
    refine wl_nil ⟨hS, ?_⟩
    refine wd_only 12 _ rfl (by kernel_rfl) ?_
    refine s1_do ?_
    refine wl_call e_84 rfl (ih w2 (t.kid l) (fun i h => Nat.lt_of_lt_of_le (hM i h) (hX.tr hS).size) hK21 (hC.ext (hX.tr hS) id) (htl.ext (hX.tr hS) (fun _ h => h)) (hok.kid l) hwl) ?_; intro v25 w3 hE3 hR3
    replace hS := hS.tr hE3
    replace hK21 := hK21.ext hE3 (fun _ h => h.elim)
    have hP25 := hR3
    refine wl_nil ⟨hS, ?_⟩
    refine wd_only 13 _ rfl (by kernel_rfl) ?_
    refine s1_do ?_
    refine wl_call e_45 rfl (nwithkid_ok w3 t M (fun i h => Nat.lt_of_lt_of_le (hM i h) (hX.tr hS).size) (ht.ext (hX.tr hS) (fun _ h => h.elim)) hok (by omega) l ((t.kid l).put ls sub) hP25 (Tr.Ok.put sub ls (hok.kid l) hwl) (by omega) (put_ne sub ls _)) ?_; intro v26 w4 hE4 hR4
    replace hS := hS.tr hE4
    replace hK21 := hK21.ext hE4 (fun _ h => h.elim)
    replace hP25 := hP25.ext hE4 (fun _ h => h.elim)
    have hF26 := hR4
    refine wl_nil ⟨hS, ?_⟩
    refine wd_take 14 _ _ rfl (by kernel_rfl) hS (yd_do fun A hA => rn_assign (by conv => lhs; whnf)) ?_
    refine wd_done (by kernel_rfl) ?_ _
    replace hX := hX.tr hS
    refine W_ret ?_
    exact ⟨_, resR1 (res1_tmp rfl), hX, hF26⟩
theorem change_ok (sub : Int) (b : Nat) {n : Nat} (hn : n ≤ 900000) (M : Nat → Prop) : ∀ (ls : List Str) (w : World) (t : Tr) {v vl : Value} (hM : ∀ i, M i → i < w.heap.size) (ht : TrM M w t v) (hC : IsBox w b [.int .i64 sub]) (hl : Sl Non w vl 1 (ls.map eS1)) {m : Nat} (hok : t.Ok n m) (hw : wgt ls ≤ m), Fn Tryz.prog 84 #[v, vl, .func (.func 116) #[] #[.pointer (some ⟨b, 0, none⟩)]] w fun u w' => TrM M w' (t.put ls sub) u
  | [], w, t, v, vl, hM, ht, hC, hl, m, hok, hw => change_nil w t sub b M hM ht hC hl hok hn
  | l :: ls, w, t, v, vl, hM, ht, hC, hl, m, hok, hw => change_cons w t sub b M hM ht hC l ls hl hok hn hw fun w t v vl hM ht hC hl m hok hw => change_ok sub b hn M ls w t hM ht hC hl hok hw
-- (bellman/trie.Trie).Has
theorem thas_ok (w : World) (t : Tr) {v : Value} (len : Int) (f : Str) (sub : Int) (hnf : f.length ≤ 1000000) (ht : TrM Non w t v) {n m : Nat} (hok : t.Ok n m) (hn : n ≤ 1000000) : Fn Tryz.prog 83 #[.agg #[v, .int .i64 len], Sv f, .int .i64 sub] w fun u w' => u = .bool (filterB f && isAt ltI (Tr.go (spl 47 f) t).subs sub) := by
  obtain ⟨pa, rfl⟩ := ht.ptr
  obtain ⟨m2, hok2⟩ := Tr.Ok.go (spl 47 f) hok
  have hX := Ext.refl Non w
  refine fn_of_W (args := [_, _, _]) Tryz.func83 rfl (by kernel_rfl) rfl ?_
  refine W_seq ?_
  refine W_region ?_
  refine wl_boxS rfl ?_; intro b3 w1 hb3 hE1 hB3
  have hq3 : w.heap.size ≤ b3 := Nat.le_trans hX.size hb3
  have hl3 : Mine Non w b3 := .inr hq3
  replace hX := hX.tr hE1
  refine wl_val (rn_assign (by conv => lhs; whnf)) ?_
  refine wl_nil ?_
  refine W_seq ?_
  refine W_drawX (fun j => false) mixed ?_; intro w2 hE2
  replace hX := hX.tr hE2
  replace hB3 := hB3.ext hE2 id
  have hS := Ext.refl Non w2
  refine wx_take 0 [1, 2, 3, 4, 5, 6, 7, 8, 9, 10, 11, 12] _ _ rfl (by kernel_rfl) hS (yd_do fun A hA => rn_move (by conv => lhs; whnf)) ?_
  refine wx_only 1 _ rfl (by kernel_rfl) ?_
  refine s1_do ?_
  refine wl_call e_64 rfl (tfilter_ok w2 f hnf) ?_; intro v8 w3 hE3 hR3
  replace hS := hS.tr hE3
  subst hR3
  refine wl_nil ⟨fun _ => hS, ?_⟩
  refine wx_take 2 [3, 4, 5, 6, 7, 8, 9, 10, 11, 12] _ _ rfl (by kernel_rfl) hS (yd_do fun A hA => rn_move (by conv => lhs; whnf)) ?_
  refine wx_split (d := 9) rfl (fun hg9 => ?_) (fun hg9 => ?_)
  · refine wx_take 3 [4, 7, 8, 10, 11, 12] _ _ rfl (by kernel_rfl) hS (yd_yes rfl (congrArg Value.bool hg9) fun A hA => rn_fieldAddr f_44_0 (by decide) rfl) ?_
    refine wx_take 4 [7, 8, 10, 11, 12] _ _ rfl (by kernel_rfl) hS (yd_yes rfl (congrArg Value.bool hg9) fun A hA => rn_load1 p_26 rfl (hB3.ext hA id) rfl) ?_
    refine wx_take 5 [6, 7, 8, 10, 11, 12] _ _ rfl (by kernel_rfl) hS (yd_yes rfl (congrArg Value.bool hg9) fun A hA => rn_move (by conv => lhs; whnf)) ?_
    refine wx_take 9 [10, 11, 12] _ _ rfl (by kernel_rfl) hS (yd_yes rfl (congrArg Value.bool hg9) fun A hA => rn_move (by conv => lhs; whnf)) ?_
    refine wx_only 6 _ rfl (by kernel_rfl) ?_
    refine s1_yes rfl (congrArg Value.bool hg9) ?_
    refine wl_call e_26 rfl (levels_ok w3 f hnf) ?_; intro v13 w4 hE4 hR4
    replace hS := hS.tr hE4
    have hL13 := hR4
    refine wl_nil ⟨fun _ => hS, ?_⟩
    refine wx_only 7 _ rfl (by kernel_rfl) ?_
    refine s1_yes rfl (congrArg Value.bool hg9) ?_
    refine wl_call e_121 rfl (tat_ok w4 t (spl 47 f) (ht.ext (hX.tr hS) (fun _ h => h)) hL13 hok hn) ?_; intro v14 w5 hE5 hR5
    replace hS := hS.tr hE5
    replace hL13 := hL13.ext hE5 (fun _ h => h)
    have hT14 := hR5
    refine wl_nil ⟨fun _ => hS, ?_⟩
    refine wx_only 8 _ rfl (by kernel_rfl) ?_
    refine s1_yes rfl (congrArg Value.bool hg9) ?_
    refine wl_call e_42 rfl (nsubs_ok w5 _ Non hT14) ?_; intro v15 w6 hE6 hR6
    replace hS := hS.tr hE6
    replace hL13 := hL13.ext hE6 (fun _ h => h)
    replace hT14 := hT14.ext hE6 (fun _ h => h)
    have hS15 := hR6
    refine wl_nil ⟨fun _ => hS, ?_⟩
    refine wx_only 10 _ rfl (by kernel_rfl) ?_
    refine s1_yes rfl (congrArg Value.bool hg9) ?_
    refine wl_call e_122 rfl (has_ok w6 _ hS15 sub hok2.s (by have := hok2.sl; omega)) ?_; intro v17 w7 hE7 hR7
    replace hS := hS.tr hE7
    replace hL13 := hL13.ext hE7 (fun _ h => h)
    replace hT14 := hT14.ext hE7 (fun _ h => h)
    replace hS15 := hS15.ext hE7 (fun _ h => h)
    subst hR7
    refine wl_nil ⟨fun _ => hS, ?_⟩
    refine wx_take 11 [12] _ _ rfl (by kernel_rfl) hS (yd_do fun A hA => rn_pickT (congrArg Value.bool hg9) (by conv => lhs; whnf)) ?_
    refine wx_take 12 [] _ _ rfl (by kernel_rfl) hS (yd_do fun A hA => rn_assign (by conv => lhs; whnf)) ?_
    refine wx_done (by kernel_rfl) ?_ _
    replace hX := hX.tr hS
    replace hB3 := hB3.ext hS id
    refine W_ret ?_
    exact ⟨_, resR1 (res1_tmp rfl), hX, by rw [hg9]; rfl⟩
  · refine wx_take 3 [4, 7, 8, 10, 11, 12] _ _ rfl (by kernel_rfl) hS (yd_no rfl (congrArg Value.bool hg9)) ?_
    refine wx_take 4 [7, 8, 10, 11, 12] _ _ rfl (by kernel_rfl) hS (yd_no rfl (congrArg Value.bool hg9)) ?_
    refine wx_take 5 [6, 7, 8, 10, 11, 12] _ _ rfl (by kernel_rfl) hS (yd_no rfl (congrArg Value.bool hg9)) ?_
    refine wx_take 9 [10, 11, 12] _ _ rfl (by kernel_rfl) hS (yd_no rfl (congrArg Value.bool hg9)) ?_
    refine wx_only 6 _ rfl (by kernel_rfl) ?_
    refine s1_no rfl (congrArg Value.bool hg9) ⟨fun _ => hS, ?_⟩
    refine wx_only 7 _ rfl (by kernel_rfl) ?_
    refine s1_no rfl (congrArg Value.bool hg9) ⟨fun _ => hS, ?_⟩
    refine wx_only 8 _ rfl (by kernel_rfl) ?_
    refine s1_no rfl (congrArg Value.bool hg9) ⟨fun _ => hS, ?_⟩
    refine wx_only 10 _ rfl (by kernel_rfl) ?_
    refine s1_no rfl (congrArg Value.bool hg9) ⟨fun _ => hS, ?_⟩
    refine wx_take 11 [12] _ _ rfl (by kernel_rfl) hS (yd_do fun A hA => rn_pickF (congrArg Value.bool hg9) (by conv => lhs; whnf)) ?_
    refine wx_take 12 [] _ _ rfl (by kernel_rfl) hS (yd_do fun A hA => rn_assign (by conv => lhs; whnf)) ?_
    refine wx_done (by kernel_rfl) ?_ _
    replace hX := hX.tr hS
    replace hB3 := hB3.ext hS id
    refine W_ret ?_
    exact ⟨_, resR1 (res1_tmp rfl), hX, by rw [hg9]; rfl⟩
-- (bellman/trie.Trie).Add
set_option maxHeartbeats 1600000 in
theorem tadd_ok (w : World) (t : Tr) {v : Value} (len : Int) (f : Str) (sub : Int) (hnf : f.length ≤ 1000000) (M : Nat → Prop) (hM : ∀ i, M i → i < w.heap.size) (ht : TrM M w t v) {n m : Nat} (hok : t.Ok n m) (hn : n ≤ 900000) (hfm : f.length + 1 ≤ m) (hfil : filterB f = true) (hnew : isAt ltI (Tr.go (spl 47 f) t).subs sub = false) (hlen : 0 ≤ len ∧ len ≤ 1000000) : Fn Tryz.prog 78 #[.agg #[v, .int .i64 len], Sv f, .int .i64 sub] w fun u w' => ∃ p : Value, u = .tuple #[.agg #[p, .int .i64 (len + 1)], .int .i64 0] ∧ TrM M w' (t.put (spl 47 f) sub) p := by
  obtain ⟨pa, rfl⟩ := ht.ptr
  have hX := Ext.refl Non w
  refine fn_of_W (args := [_, _, _]) Tryz.func78 rfl (by kernel_rfl) rfl ?_
  refine W_seq ?_
  refine W_region ?_
  refine wl_boxS rfl ?_; intro b3 w1 hb3 hE1 hB3
  have hq3 : w.heap.size ≤ b3 := Nat.le_trans hX.size hb3
  have hl3 : Mine Non w b3 := .inr hq3
  replace hX := hX.tr hE1
  refine wl_box1 (by conv => lhs; whnf) rfl ?_; intro b5 w2 hb5 hE2 hB5
  have hn3_5 : b3 < b5 := Nat.lt_of_lt_of_le hB3.lt hb5
  have hq5 : w.heap.size ≤ b5 := Nat.le_trans hX.size hb5
  have hl5 : Mine Non w b5 := .inr hq5
  replace hX := hX.tr hE2
  replace hB3 := hB3.ext hE2 id
  refine wl_alloc z_44 ?_; intro b6 w3 hb6 hE3 hB6
  have hn3_6 : b3 < b6 := Nat.lt_of_lt_of_le hB3.lt hb6
  have hn5_6 : b5 < b6 := Nat.lt_of_lt_of_le hB5.lt hb6
  have hq6 : w.heap.size ≤ b6 := Nat.le_trans hX.size hb6
  have hl6 : Mine Non w b6 := .inr hq6
  replace hX := hX.tr hE3
  replace hB3 := hB3.ext hE3 id; replace hB5 := hB5.ext hE3 id
  refine wl_val (rn_assign (by conv => lhs; whnf)) ?_
  refine wl_nil ?_
  refine W_seq ?_
  refine W_block ?_   -- block 0
  refine W_seq ?_
  refine W_region ?_
  refine wl_val (rn_move (by conv => lhs; whnf)) ?_
  refine wl_call e_64 rfl (tfilter_ok w3 f hnf) ?_; intro v10 w4 hE4 hR4
  replace hX := hX.tr hE4
  replace hB3 := hB3.ext hE4 id; replace hB5 := hB5.ext hE4 id; replace hB6 := hB6.ext hE4 id
  subst hR4
  refine wl_val (rn_not rfl) ?_
  refine wl_val (rn_assign (by conv => lhs; whnf)) ?_
  refine wl_nil ?_
  refine W_cond rfl (fun hc0 => ?_) (fun hc0 => ?_)
  · exact absurd hc0 (by rw [hfil]; simp)
  · refine W_seq ?_
    refine W_region ?_
    refine wl_val (rn_loadB s_44 rfl rfl hB3) ?_
    refine wl_val (rn_move (by conv => lhs; whnf)) ?_
    refine wl_val (rn_load1 p_3 rfl hB5 rfl) ?_
    refine wl_call e_83 rfl (thas_ok w4 t len f sub hnf ((ht.ext hX (fun _ h => h.elim)).sub (fun _ h _ => h.elim)) hok (by omega)) ?_; intro v17 w5 hE5 hR5
    replace hX := hX.tr hE5
    replace hB3 := hB3.ext hE5 id; replace hB5 := hB5.ext hE5 id; replace hB6 := hB6.ext hE5 id
    subst hR5
    refine wl_val (rn_assign (by conv => lhs; whnf)) ?_
    refine wl_nil ?_
    refine W_cond rfl (fun hc1 => ?_) (fun hc1 => ?_)
    · exact absurd hc1 (by rw [hfil, hnew]; simp)
    · refine W_skip ?_
      refine W_seq ?_
      refine W_drawX (fun j => j == 10 || j == 11) mixed ?_; intro w6 hE6
      replace hX := hX.tr hE6
      replace hB3 := hB3.ext hE6 id; replace hB5 := hB5.ext hE6 id; replace hB6 := hB6.ext hE6 id
      have hS := Ext.refl Non w6
      refine wx_take 0 [1, 5, 9, 10, 11] _ _ rfl (by kernel_rfl) hS (yd_do fun A hA => rn_fieldAddr f_44_0 (by decide) rfl) ?_
      refine wx_take 1 [5, 9, 10, 11] _ _ rfl (by kernel_rfl) hS (yd_do fun A hA => rn_load1 p_26 rfl (hB3.ext hA id) rfl) ?_
      refine wx_take 2 [3, 5, 9, 10, 11] _ _ rfl (by kernel_rfl) hS (yd_do fun A hA => rn_move (by conv => lhs; whnf)) ?_
      refine wx_take 4 [5, 9, 10, 11] _ _ rfl (by kernel_rfl) hS (yd_do fun A hA => rn_makeFunc rfl) ?_
      refine wx_take 6 [7, 8, 9, 10, 11] _ _ rfl (by kernel_rfl) hS (yd_do fun A hA => rn_fieldAddr f_44_1 (by decide) rfl) ?_
      refine wx_take 7 [8, 9, 10, 11] _ _ rfl (by kernel_rfl) hS (yd_do fun A hA => rn_load1 p_3 rfl (hB3.ext hA id) rfl) ?_
      refine wx_take 8 [9, 10, 11] _ _ rfl (by kernel_rfl) hS (yd_do fun A hA => rn_add rfl rfl (by omega)) ?_
      refine wx_only 3 _ rfl (by kernel_rfl) ?_
      refine s1_do ?_
      refine wl_call e_26 rfl (levels_ok w6 f hnf) ?_; intro v22 w7 hE7 hR7
      replace hS := hS.tr hE7
      have hL22 := hR7
      refine wl_nil ⟨fun _ => hS, ?_⟩
      refine wx_only 5 _ rfl (by kernel_rfl) ?_
      refine s1_do ?_
      refine wl_call e_84 rfl (change_ok sub b5 hn (fun i => M i ∨ i = b6) (spl 47 f) w7 t (fun i h => by rcases h with h | h; exact Nat.lt_of_lt_of_le (hM i h) (hX.tr hS).size; rw [h]; exact Nat.lt_of_lt_of_le hB6.lt hS.size) ((ht.sub (M' := fun i => M i ∨ i = b6) (fun i h hi => h.resolve_right (by omega))).ext (hX.tr hS) (fun _ h => h.elim)) (hB5.ext hS id) hL22 hok (by rw [wgt_spl]; exact hfm)) ?_; intro v24 w8 hE8 hR8
      replace hS := hS.tr hE8
      replace hL22 := hL22.ext hE8 (fun _ h => h)
      have hT24 := hR8; obtain ⟨pb, rfl⟩ := hT24.ptr
      refine wl_nil ⟨fun _ => hS, ?_⟩
      refine wx_take 9 [10, 11] _ _ rfl (by kernel_rfl) hS (yd_do fun A hA => rn_build' b_44 rfl rfl (cs := _) rfl) ?_
      replace hX := hX.tr hS
      replace hB3 := hB3.ext hS id; replace hB5 := hB5.ext hS id; replace hB6 := hB6.ext hS id
      refine wx_only 10 _ rfl (by kernel_rfl) ?_
      refine s1_do ?_
      have hBo := hB6
      refine wl_storeB s_44 rfl rfl rfl (two1 rfl rfl) hB6 rfl ?_; intro w9 hE9 hB6 hz9
      replace hX := hX.mine hE9 hl6
      replace hB3 := hB3.ext hE9 (fun h => by omega); replace hB5 := hB5.ext hE9 (fun h => by omega)
      replace hL22 := True.intro
      replace hT24 := hT24.ext hE9 (fun i e => .inr e)
      refine wl_nil ⟨fun h => absurd h (by decide), ?_⟩
      refine wx_only 11 _ rfl (by kernel_rfl) ?_
      refine s1_do ?_
      refine wl_val (rn_assign (by conv => lhs; whnf)) ?_
      refine wl_nil ⟨fun h => absurd h (by decide), ?_⟩
      refine wx_done (by kernel_rfl) ?_ _
      refine W_ret ?_
      exact ⟨_, resR2 (res1_box s_44 rfl hB6 rfl) (res1_tmp rfl), hX, ⟨_, rfl, hT24.sub (fun i h _ => .inl h)⟩⟩
end Go.Proofs.YtaddeakfojpdoaaGreatDoorC

/- Joining sets; the laws SetOrder and SetJoins. -/
set_option linter.unusedVariables false
set_option linter.unusedSimpArgs false
set_option maxRecDepth 100000
namespace Go.Proofs.YtaddeakfojpdoaaGreatDoorC
open Go.RowKit
theorem sorted_nodup {l : List Int} (h : Sorted ltI l) : l.Nodup := h.imp fun {a b} h e => by subst e; simp [ltI] at h
theorem len_sub : ∀ (l m : List Int), l.Nodup → (∀ y, y ∈ l → y ∈ m) → l.length ≤ m.length
  | [], _, _, _ => Nat.zero_le _
  | x :: l, m, hn, h => by
    have h1 := List.nodup_cons.1 hn
    have hx := h x (by simp)
    have := len_sub l (m.erase x) h1.2 fun y hy => (List.mem_erase_of_ne (fun e => h1.1 (by rw [← e]; exact hy))).2 (h y (by simp [hy]))
    have h2 := List.length_erase_of_mem hx
    have h3 := List.length_pos_of_mem hx
    simp only [List.length_cons]; omega
end Go.Proofs.YtaddeakfojpdoaaGreatDoorC

/- Helps for walks: cuts behind a region, three that are ready at once, bound methods, bits; each rule holds of whatever program. -/
set_option linter.unusedVariables false
set_option linter.unusedSimpArgs false
namespace Go.Proofs.YtaddeakfojpdoaaGreatDoorC
open Go.RowKit
variable {ro : Option Nat} {P : Program} {n : Nat} {Q : Post} {σ : Env} {D : List Deferred} {w : World} {dst : Option Nat} {ty : TypeId} {pos : String} {af : Array Edge} {g : Option (Nat × Bool)}
variable {ops rest : List Oper} {K : Ops} {S : World → Prop} {ex : Nat → Bool}

/-- What follows is walked once, whatever way led there. -/
theorem W_cut {T : Type} {x y : Code} (ls : List Nat) (f : T → List Value) (I : T → World → Prop) (h1 : W ro P n x (Then (fun σ' D' w' => D' = D ∧ ∃ s, Holds ls (f s) σ' ∧ I s w') Q) σ D w)
    (h2 : ∀ τ s A, I s A → W ro P n y Q (updN τ ls (f s)) D A) : W ro P n (.seq x y) Q σ D w := by
  refine W_seq (h1.mono fun e σ' D' A h => ?_)
  cases e with
  | normal =>
    obtain ⟨rfl, s, h3, h4⟩ := h
    have := h2 σ' s A h4
    rw [updN_self ls (f s) σ' h3] at this
    exact this
  | _ => exact h
section
variable {x y : Operand} {t u : TypeId} {a b : Int}
end
theorem FnM.mono {M : Nat → Prop} {f : FuncId} {args : Array Value} {R R' : Value → World → Prop} (h : FnM P M f args w R) (hr : ∀ v w', Ext M w w' → R v w' → R' v w') : FnM P M f args w R' :=
  Calls.mono h fun e w' hx => by obtain ⟨v, h1, h2, h3⟩ := hx; exact ⟨v, h1, h2, hr _ _ h2 h3⟩
theorem FnM.sub {M M' : Nat → Prop} {f : FuncId} {args : Array Value} {R : Value → World → Prop} (h : FnM P M f args w R) (hm : ∀ i, M i → M' i) : FnM P M' f args w R :=
  Calls.mono h fun e w' hx => by obtain ⟨v, h1, h2, h3⟩ := hx; exact ⟨v, h1, h2.mono hm, h3⟩
end Go.Proofs.YtaddeakfojpdoaaGreatDoorC
