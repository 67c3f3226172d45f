/- Which filter matches which topic, and covers which filter: the program's functions, and the document's. -/
import Derived.Test.YthcclgoidchkdaaDoorTop4
set_option linter.unusedVariables false
set_option linter.unusedSimpArgs false
set_option maxRecDepth 100000
namespace Go.Proofs.YthcclgoidchkdaaDoorC
open Go.RowKit
/-- Function value fk cap tells of a text what p says. -/
def Tells (fk : FuncId) (cap : Array Value) (w : World) (p : Str → Bool) : Prop := entersB Tryd.prog fk = true ∧ ∀ (A : World) (x : Str), x.length ≤ 1000000 → Ext Non w A → Fn Tryd.prog fk (#[Sv x] ++ cap) A fun u _ => u = .bool (p x)
theorem Tells.ext {fk : FuncId} {cap : Array Value} {w w' : World} {p : Str → Bool} (h : Tells fk cap w p) (hE : Ext Non w w') : Tells fk cap w' p := ⟨h.1, fun A x hx hA => h.2 A x hx (hE.trans hA)⟩
theorem wl_tell {P : Program} {σ : Env} {w : World} {ty : TypeId} {pos : String} {af : Array Edge} {ops rest : List Oper} {K : Ops} {f : FuncId} {x y : Operand} {cap : Array Value} {ts : Array TypeId} {d : Nat} {s : Str} {b : Bool} (hx : ev σ x = .func (.func f) #[] cap) (hf : entersB P f = true) (hy : ev σ y = Sv s)
    (h : Fn P f (#[Sv s] ++ cap) w fun u _ => u = .bool b) (k : ∀ w', Ext Non w w' → wl P ops rest K (put σ (some d) (.bool b)) w') : wl P ops (⟨some d, .call ⟨.value x, #[y], ts⟩, ty, pos, af, none⟩ :: rest) K σ w :=
  wl_callv hx hf (show [y].map (ev σ) = [Sv s] by simp [hy]) h fun e w' he => by obtain ⟨v, e1, e2, e3⟩ := he; subst e3; exact ⟨_, e1, k w' e2⟩
theorem like_yes {some : Str → Bool} {L T : List Str} {n : Nat} (h : L[n]? = Option.some [35]) (hn : n ≤ T.length) (hall : ∀ j, j < n → okAt some L T j ∧ L[j]? ≠ Option.some [35]) : likeB some L T = true :=
  (likeB_iff some L T).2 (.inl ⟨n, h, hn, fun j hj => (hall j hj).1⟩)
theorem like_no {some : Str → Bool} {L T : List Str} {n : Nat} {l : Str} (hl : L[n]? = Option.some l) (h35 : ¬ l = [35]) (hall : ∀ j, j < n → okAt some L T j ∧ L[j]? ≠ Option.some [35]) (hno : ¬ okAt some L T n) : likeB some L T = false :=
  likeB_no (i := n) (fun j hj => by
    rcases Nat.lt_or_ge j n with h | h
    · exact (hall j h).2
    · obtain rfl : j = n := by omega
      rw [hl]; exact fun e => h35 (Option.some.inj e)) (List.getElem?_eq_some_iff.1 hl).1 hno
theorem not_okAt {some : Str → Bool} {L T : List Str} {n : Nat} {l t : Str} (hl : L[n]? = Option.some l) (ht : T[n]? = Option.some t) (h1 : ¬ l = t) (h2 : l = [43] → some t = false) : ¬ okAt some L T n := by
  rintro ⟨l2, t2, e1, e2, h3⟩
  rw [hl] at e1; rw [ht] at e2; cases e1; cases e2
  rcases h3 with h3 | ⟨h3, h4⟩
  · exact h1 h3
  · rw [h2 h3] at h4; cases h4
theorem not_okAt2 {some : Str → Bool} {L T : List Str} {n : Nat} (h : T.length ≤ n) : ¬ okAt some L T n := by
  rintro ⟨l2, t2, e1, e2, h3⟩
  rw [List.getElem?_eq_none h] at e2; cases e2
theorem like_end {some : Str → Bool} {L T : List Str} (hall : ∀ j, j < L.length → okAt some L T j ∧ L[j]? ≠ Option.some [35]) : likeB some L T = decide ((L.length : Int) = (T.length : Int)) := by
  rw [likeB_end (fun j => by
    rcases Nat.lt_or_ge j L.length with h | h
    · exact (hall j h).2
    · rw [List.getElem?_eq_none h]; simp) (fun j hj => (hall j hj).1)]
  exact decide_eq_decide.2 (by omega)
abbrev notRest : Str → Bool := fun l => decide (l ≠ [35])
theorem covers_no1 {f t : Str} (h : filterB f = false) : coversB f t = false := by unfold coversB; rw [h]; rfl
theorem covers_no2 {f t : Str} (h : filterB t = false) : coversB f t = false := by unfold coversB; rw [h]; simp
theorem covers_no3 {f t : Str} (h : (wildB f && headIs 36 t) = true) : coversB f t = false := by unfold coversB; rw [h]; simp
theorem covers_eq {f t : Str} (h1 : filterB f = true) (h2 : filterB t = true) (h3 : (wildB f && headIs 36 t) = false) : coversB f t = likeB notRest (spl 47 f) (spl 47 t) := by unfold coversB; rw [h1, h2, h3]; rfl
theorem filter_ne {s : Str} (h : filterB s = true) : ∃ c, s[0]? = some c := by
  unfold filterB sizedB at h
  simp only [Bool.and_eq_true, decide_eq_true_eq] at h
  cases s with
  | nil => exact absurd rfl h.1.1.1
  | cons c s => exact ⟨c, rfl⟩
theorem headIs_pre (c : UInt8) (s : Str) : headIs c s = decide (s.take 1 = [c]) := by cases s <;> simp [headIs]
def anyMatch (l : List Str) (t : Str) : Bool := l.any fun f => matchB f t
-- internal/stringslite.HasPrefix
theorem hasPrefix1_ok (w : World) (s : Str) (c : UInt8) (hn : s.length ≤ 1000000) : Fn Tryd.prog 226 #[Sv s, Sv [c]] w fun u w' => u = .bool (headIs c s) := by
  have hX := Ext.refl Non w
  refine fn_of_W (args := [_, _]) Tryd.func226 rfl (by kernel_rfl) rfl ?_
  refine W_seq ?_
  refine W_region ?_
  refine wl_val (rn_assign (by conv => lhs; whnf)) ?_
  refine wl_nil ?_
  refine W_seq ?_
  refine W_region ?_
  refine wl_val (rn_move (by conv => lhs; whnf)) ?_
  refine wl_val (rn_slen us_9 rfl) ?_
  refine wl_val (rn_move (by conv => lhs; whnf)) ?_
  refine wl_val (rn_slen us_9 rfl) ?_
  refine wl_val (rn_geq rfl rfl) ?_
  refine wl_val (rn_move (by conv => lhs; whnf)) ?_
  refine wl_split (d := 10) rfl (fun hg10 => ?_) (fun hg10 => ?_)
  · have hq := of_decide_eq_true hg10; simp only [List.length_singleton] at hq
    refine wl_yes rfl (congrArg Value.bool hg10) ?_
    refine wl_val (rn_move (by conv => lhs; whnf)) ?_
    refine wl_yes rfl (congrArg Value.bool hg10) ?_
    refine wl_val (rn_move (by conv => lhs; whnf)) ?_
    refine wl_yes rfl (congrArg Value.bool hg10) ?_
    refine wl_val (rn_slen us_9 rfl) ?_
    refine wl_yes rfl (congrArg Value.bool hg10) ?_
    refine wl_val (rn_sslice us_9 (l := 0) (h := 1) rfl rfl ⟨_, rfl⟩ (by omega) (by omega)) ?_
    refine wl_yes rfl (congrArg Value.bool hg10) ?_
    refine wl_val (rn_move (by conv => lhs; whnf)) ?_
    refine wl_yes rfl (congrArg Value.bool hg10) ?_
    refine wl_val (rn_seql rfl rfl) ?_
    refine wl_val (rn_pickT (congrArg Value.bool hg10) (by conv => lhs; whnf)) ?_
    refine wl_val (rn_assign (by conv => lhs; whnf)) ?_
    refine wl_nil ?_
    refine W_ret ?_
    exact ⟨_, resR1 (res1_tmp rfl), hX, by rw [headIs_pre]; show Value.bool (decide ((s.drop 0).take (1 - 0) = [c])) = _; rw [List.drop_zero]⟩
  · have hq := of_decide_eq_false hg10; simp only [List.length_singleton] at hq
    refine wl_no rfl (congrArg Value.bool hg10) ?_
    refine wl_no rfl (congrArg Value.bool hg10) ?_
    refine wl_no rfl (congrArg Value.bool hg10) ?_
    refine wl_no rfl (congrArg Value.bool hg10) ?_
    refine wl_no rfl (congrArg Value.bool hg10) ?_
    refine wl_no rfl (congrArg Value.bool hg10) ?_
    refine wl_val (rn_pickF (congrArg Value.bool hg10) (by conv => lhs; whnf)) ?_
    refine wl_val (rn_assign (by conv => lhs; whnf)) ?_
    refine wl_nil ?_
    refine W_ret ?_
    exact ⟨_, resR1 (res1_tmp rfl), hX, by rw [headIs_pre]; have e : s = [] := List.length_eq_zero_iff.1 (by omega); subst e; rfl⟩
-- strings.HasPrefix
theorem hasPrefix_ok (w : World) (s : Str) (c : UInt8) (hn : s.length ≤ 1000000) : Fn Tryd.prog 204 #[Sv s, Sv [c]] w fun u w' => u = .bool (headIs c s) := by
  have hX := Ext.refl Non w
  refine fn_of_W (args := [_, _]) Tryd.func204 rfl (by kernel_rfl) rfl ?_
  refine W_seq ?_
  refine W_region ?_
  refine wl_val (rn_assign (by conv => lhs; whnf)) ?_
  refine wl_nil ?_
  refine W_seq ?_
  refine W_region ?_
  refine wl_val (rn_move (by conv => lhs; whnf)) ?_
  refine wl_val (rn_move (by conv => lhs; whnf)) ?_
  refine wl_call e_226 rfl (hasPrefix1_ok w s c hn) ?_; intro v7 w1 hE1 hR1
  replace hX := hX.tr hE1
  subst hR1
  refine wl_val (rn_assign (by conv => lhs; whnf)) ?_
  refine wl_nil ?_
  refine W_ret ?_
  exact ⟨_, resR1 (res1_tmp rfl), hX, rfl⟩
-- bellman/match.apart
theorem apart_ok (w : World) (f s : Str) (hnf : f.length ≤ 1000000) (hn : s.length ≤ 1000000) : Fn Tryd.prog 166 #[Sv f, Sv s] w fun u w' => u = .bool (wildB f && headIs 36 s) := by
  have hX := Ext.refl Non w
  refine fn_of_W (args := [_, _]) Tryd.func166 rfl (by kernel_rfl) rfl ?_
  refine W_seq ?_
  refine W_region ?_
  refine wl_val (rn_assign (by conv => lhs; whnf)) ?_
  refine wl_nil ?_
  refine W_seq ?_
  refine W_region ?_
  refine wl_val (rn_move (by conv => lhs; whnf)) ?_
  refine wl_call e_203 rfl (twild_ok w f hnf) ?_; intro v6 w1 hE1 hR1
  replace hX := hX.tr hE1
  subst hR1
  refine wl_val (rn_move (by conv => lhs; whnf)) ?_
  refine wl_split (d := 7) rfl (fun hg7 => ?_) (fun hg7 => ?_)
  · refine wl_yes rfl (congrArg Value.bool hg7) ?_
    refine wl_val (rn_move (by conv => lhs; whnf)) ?_
    refine wl_yes rfl (congrArg Value.bool hg7) ?_
    refine wl_call e_204 rfl (hasPrefix_ok w1 s 36 hn) ?_; intro v9 w2 hE2 hR2
    replace hX := hX.tr hE2
    subst hR2
    refine wl_val (rn_pickT (congrArg Value.bool hg7) (by conv => lhs; whnf)) ?_
    refine wl_val (rn_assign (by conv => lhs; whnf)) ?_
    refine wl_nil ?_
    refine W_ret ?_
    exact ⟨_, resR1 (res1_tmp rfl), hX, by have e : wildB f = true := hg7; rw [e]; rfl⟩
  · refine wl_no rfl (congrArg Value.bool hg7) ?_
    refine wl_no rfl (congrArg Value.bool hg7) ?_
    refine wl_val (rn_pickF (congrArg Value.bool hg7) (by conv => lhs; whnf)) ?_
    refine wl_val (rn_assign (by conv => lhs; whnf)) ?_
    refine wl_nil ?_
    refine W_ret ?_
    exact ⟨_, resR1 (res1_tmp rfl), hX, by have e : wildB f = false := hg7; rw [e]; rfl⟩
-- bellman/match.like
set_option maxHeartbeats 2000000 in
theorem like_ok (w : World) (f : Str) (T : List Str) (p : Str → Bool) {v : Value} {fk : FuncId} {cap : Array Value} (hnf : f.length ≤ 1000000) (hTl : ∀ t ∈ T, t.length ≤ 1000000) (hs : Sl Non w v 1 (T.map eS1)) (hp : Tells fk cap w p) : Fn Tryd.prog 167 #[Sv f, v, .func (.func fk) #[] cap] w fun u w' => u = .bool (likeB p (spl 47 f) T) := by
  obtain ⟨a, c, rfl, hbg⟩ := hs.len
  simp only [List.length_map] at hs hbg ⊢
  have hsl := spl_len_le 47 f
  have hX := Ext.refl Non w
  refine fn_of_W (args := [_, _, _]) Tryd.func167 rfl (by kernel_rfl) rfl ?_
  refine W_seq ?_
  refine W_region ?_
  refine wl_box1 (by conv => lhs; whnf) rfl ?_; intro b4 w1 hb4 hE1 hB4
  have hq4 : w.heap.size ≤ b4 := Nat.le_trans hX.size hb4
  have hl4 : Mine Non w b4 := .inr hq4
  replace hX := hX.tr hE1
  refine wl_box1 (by conv => lhs; whnf) rfl ?_; intro b5 w2 hb5 hE2 hB5
  have hn4_5 : b4 < b5 := Nat.lt_of_lt_of_le hB4.lt hb5
  have hq5 : w.heap.size ≤ b5 := Nat.le_trans hX.size hb5
  have hl5 : Mine Non w b5 := .inr hq5
  replace hX := hX.tr hE2
  replace hB4 := hB4.ext hE2 id
  refine wl_alloc z_4 ?_; intro b6 w3 hb6 hE3 hB6
  have hn4_6 : b4 < b6 := Nat.lt_of_lt_of_le hB4.lt hb6
  have hn5_6 : b5 < b6 := Nat.lt_of_lt_of_le hB5.lt hb6
  have hq6 : w.heap.size ≤ b6 := Nat.le_trans hX.size hb6
  have hl6 : Mine Non w b6 := .inr hq6
  replace hX := hX.tr hE3
  replace hB4 := hB4.ext hE3 id; replace hB5 := hB5.ext hE3 id
  refine wl_nil ?_
  refine W_seq ?_
  refine W_region ?_
  refine wl_alloc z_3 ?_; intro b7 w4 hb7 hE4 hB7
  have hn4_7 : b4 < b7 := Nat.lt_of_lt_of_le hB4.lt hb7
  have hn5_7 : b5 < b7 := Nat.lt_of_lt_of_le hB5.lt hb7
  have hn6_7 : b6 < b7 := Nat.lt_of_lt_of_le hB6.lt hb7
  have hq7 : w.heap.size ≤ b7 := Nat.le_trans hX.size hb7
  have hl7 : Mine Non w b7 := .inr hq7
  replace hX := hX.tr hE4
  replace hB4 := hB4.ext hE4 id; replace hB5 := hB5.ext hE4 id; replace hB6 := hB6.ext hE4 id
  refine wl_store1 (b := b7) p_3 rfl (by conv => lhs; whnf) rfl rfl hB7 (Nat.le_of_ble_eq_true rfl) ?_; intro w5 hE5 hB7 hz5
  replace hX := hX.mine hE5 hl7
  replace hB4 := hB4.ext hE5 (fun h => by omega); replace hB5 := hB5.ext hE5 (fun h => by omega); replace hB6 := hB6.ext hE5 (fun h => by omega)
  refine wl_nil ?_
  refine W_seq ?_
  refine W_seq ?_
  refine W_region ?_
  refine wl_val (rn_move (by conv => lhs; whnf)) ?_
  refine wl_call e_201 rfl (each_ok w5 f (fun i => i = b6 ∨ i = b7) (fun i e => by rcases e with e | e; rw [e]; exact hB6.lt; rw [e]; exact hB7.lt) hnf) ?_; intro v11 w6 hE6 hR6
  replace hX := hX.tr hE6
  replace hB4 := hB4.ext hE6 id; replace hB5 := hB5.ext hE6 id; replace hB6 := hB6.ext hE6 id; replace hB7 := hB7.ext hE6 id
  have hIt := hR6; obtain ⟨fk2, ck, hfk, _⟩ := id hIt; subst hfk
  obtain ⟨wa, hwa⟩ : ∃ x, x = w6 := ⟨_, rfl⟩
  have hW : Ext (fun i => i = b6 ∨ i = b7) wa w6 := by rw [hwa]; exact Ext.refl _ _
  have hIt2 := hIt; rw [← hwa] at hIt2; have hz6 : b6 < wa.heap.size := by rw [hwa]; exact hB6.lt
  have hz7 : b7 < wa.heap.size := by rw [hwa]; exact hB7.lt
  refine wl_nil ?_
  refine W_block ?_   -- block 0
  have hszr := hX.size
  have hsz_hW := hW.size
  have ho4 : w.heap.size ≤ b4 := by rcases hl4 with h | h; exact h.elim; exact h
  have ho5 : w.heap.size ≤ b5 := by rcases hl5 with h | h; exact h.elim; exact h
  have ho6 : w.heap.size ≤ b6 := by rcases hl6 with h | h; exact h.elim; exact h
  have ho7 : w.heap.size ≤ b7 := by rcases hl7 with h | h; exact h.elim; exact h
  refine W_rangeFunc (M := fun i => i = b6 ∨ i = b7) (w0 := wa) (I := fun pre N A => Box N A b4 [.slice a T.length c] ∧ Box N A b5 [.func (.func fk) #[] cap] ∧ Box N A b6 [.bool false] ∧ Box N A b7 [.int .i64 (pre.length : Nat)] ∧ Ext Non w A ∧ Ext (fun i => i = b6 ∨ i = b7) wa A ∧ MkN w [] N A ∧ ((∀ j, j < pre.length → okAt p (spl 47 f) T j ∧ (spl 47 f)[j]? ≠ some [35]) ∧ pre.length ≤ T.length)) (X := fun c N A => c = .ret ∧ Box N A b6 [.bool (likeB p (spl 47 f) T)] ∧ Ext Non w A ∧ Ext (fun i => i = b6 ∨ i = b7) wa A ∧ MkN w [] N A ∧ (True)) (encs := fun p : Nat × Str => [.int .i64 (p.1 : Nat), Sv p.2]) (xs := numb (spl 47 f)) rfl (hIt2) (hW) (fun _ => rfl) (fun pre => (Stab.box _ _).and ((Stab.box _ _).and ((Stab.box _ _).and ((Stab.box _ _).and ((Stab.old hX.size).and ((Stab.oldM hW.size).and ((Stab.mk _ _).and ((Stab.pure _))))))))) (fun c => (Stab.pure _).and ((Stab.box _ _).and ((Stab.old hX.size).and ((Stab.oldM hW.size).and ((Stab.mk _ _).and ((Stab.pure _))))))) ⟨⟨hB4, id⟩, ⟨hB5, id⟩, ⟨hB6, id⟩, ⟨hB7, id⟩, hX, hW, (Mk.nil : Mk w [] _).toN, ⟨fun j h => absurd h (Nat.not_lt_zero _), Nat.zero_le _⟩⟩ ?_ ?_ ?_
  · rintro l N pre x A hl hN hA hst ⟨hK4, hK5, hK6, hK7, hXo, hW, hDk, hIr⟩ ⟨post, hpre⟩
    have hB4 := hK4.1
    have hB5 := hK5.1
    have hB6 := hK6.1; have hl6 : Mine (Yc (fun i => i = b6 ∨ i = b7) wa N) A b6 := .inl ⟨hK6.2, .inl (.inl rfl)⟩
    have hB7 := hK7.1; have hl7 : Mine (Yc (fun i => i = b6 ∨ i = b7) wa N) A b7 := .inl ⟨hK7.2, .inl (.inr rfl)⟩
    have hX := Ext.refl (Yc (fun i => i = b6 ∨ i = b7) wa N) A
    refine W_seq ?_
    refine W_region ?_
    refine wl_val (rn_assign (by conv => lhs; whnf)) ?_
    refine wl_nil ?_
    refine W_region ?_
    refine wl_val (rn_assign (by conv => lhs; whnf)) ?_
    refine wl_nil ?_
    refine ⟨rfl, hX, fun A2 hE2r hz2r hst2 => ?_⟩
    have hNl := (hN l hl).2
    replace hB4 := hB4.ext hE2r (fun e => hK4.2 (by rw [e]; exact hl))
    replace hB5 := hB5.ext hE2r (fun e => hK5.2 (by rw [e]; exact hl))
    replace hB6 := hB6.ext hE2r (fun e => hK6.2 (by rw [e]; exact hl))
    replace hB7 := hB7.ext hE2r (fun e => hK7.2 (by rw [e]; exact hl))
    replace hXo := hXo.mine hE2r (.inr (Nat.le_trans hszr (hN l hl).1)); replace hDk := hDk.lp hE2r hl
    replace hW := hW.mine hE2r (.inr (Nat.le_trans hsz_hW (hN l hl).1))
    have hl6 : Mine (Yc (fun i => i = b6 ∨ i = b7) wa N) A2 b6 := .inl ⟨hK6.2, .inl (.inl rfl)⟩
    have hl7 : Mine (Yc (fun i => i = b6 ∨ i = b7) wa N) A2 b7 := .inl ⟨hK7.2, .inl (.inr rfl)⟩
    have hX := Ext.refl (Yc (fun i => i = b6 ∨ i = b7) wa N) A2
    obtain ⟨hxi, hxl, hxp⟩ := numb_at (i := x.1) (x := x.2) (post := post) (pre := pre) (by rw [hpre])
    have hxlt := (List.getElem?_eq_some_iff.1 hxl).1
    have hprl := hIr.2
    refine W_block ?_   -- block 1
    refine W_seq ?_
    refine W_seq ?_
    refine W_region ?_
    refine wl_val (rn_move (by conv => lhs; whnf)) ?_
    refine wl_val (rn_seql rfl rfl) ?_
    refine wl_nil ?_
    refine W_cond rfl (fun hc0 => ?_) (fun hc0 => ?_)
    · have hR : likeB p (spl 47 f) T = true := like_yes (by rw [← hxi, hxl, of_decide_eq_true hc0]) (by omega) hIr.1
      refine W_seq ?_
      refine W_region ?_
      have hBo := hB6
      refine wl_store1 (b := b6) p_4 rfl (by conv => lhs; whnf) rfl rfl hB6 (Nat.le_of_ble_eq_true rfl) ?_; intro w7 hE7 hB6 hz7
      replace hX := hX.mine hE7 hl6
      replace hB4 := hB4.ext hE7 (fun h => by omega); replace hB5 := hB5.ext hE7 (fun h => by omega); replace hB7 := hB7.ext hE7 (fun h => by omega)
      replace hXo := hXo.mine hE7 (.inr ho6)
      replace hDk := hDk.box hE7 hBo
      replace hW := hW.mine hE7 (.inl (by first | exact .inl rfl | exact .inr rfl))
      refine wl_nil ?_
      refine W_ret ?_
      replace hB6 := hB6.cast (cs' := [Value.bool (likeB p (spl 47 f) T)]) (by rw [hR] <;> rfl)
      exact ⟨hX, rfl, ⟨hB6, hK6.2⟩, hXo, hW, hDk, trivial⟩
    · have q35 : ¬ x.2 = [35] := of_decide_eq_false hc0
      refine W_skip ?_
      refine W_seq ?_
      refine W_seq ?_
      refine W_drawE mixed ?_; intro w8 hE8
      replace hX := hX.tr hE8
      replace hB4 := hB4.ext hE8 id; replace hB5 := hB5.ext hE8 id; replace hB6 := hB6.ext hE8 id; replace hB7 := hB7.ext hE8 id
      replace hXo := hXo.tr hE8
      replace hDk := hDk.non hE8
      replace hW := hW.tr hE8
      have hS := Ext.refl Non w8
      refine wd_take 0 _ _ rfl (by kernel_rfl) hS (yd_do fun A hA => rn_move (by conv => lhs; whnf)) ?_
      refine wd_take 1 _ _ rfl (by kernel_rfl) hS (yd_do fun A hA => rn_load1 p_68 rfl (hB4.ext hA id) rfl) ?_
      refine wd_take 2 _ _ rfl (by kernel_rfl) hS (yd_do fun A hA => rn_len sl_68 rfl) ?_
      refine wd_take 3 _ _ rfl (by kernel_rfl) hS (yd_do fun A hA => rn_geq rfl rfl) ?_
      refine wd_take 4 _ _ rfl (by kernel_rfl) hS (yd_do fun A hA => rn_move (by conv => lhs; whnf)) ?_
      refine wd_split (d := 20) rfl (fun hg20 => ?_) (fun hg20 => ?_)
      · have hR : likeB p (spl 47 f) T = false := like_no hxl q35 (by rw [hxi]; exact hIr.1) (not_okAt2 (by have := of_decide_eq_true hg20; omega))
        refine wd_take 5 _ _ rfl (by kernel_rfl) hS (yd_no rfl (congrArg Value.bool hg20)) ?_
        refine wd_take 6 _ _ rfl (by kernel_rfl) hS (yd_no rfl (congrArg Value.bool hg20)) ?_
        refine wd_take 7 _ _ rfl (by kernel_rfl) hS (yd_no rfl (congrArg Value.bool hg20)) ?_
        refine wd_take 8 _ _ rfl (by kernel_rfl) hS (yd_no rfl (congrArg Value.bool hg20)) ?_
        refine wd_take 9 _ _ rfl (by kernel_rfl) hS (yd_no rfl (congrArg Value.bool hg20)) ?_
        refine wd_take 10 _ _ rfl (by kernel_rfl) hS (yd_no rfl (congrArg Value.bool hg20)) ?_
        refine wd_take 11 _ _ rfl (by kernel_rfl) hS (yd_no rfl (congrArg Value.bool hg20)) ?_
        refine wd_take 12 _ _ rfl (by kernel_rfl) hS (yd_nou rfl rfl) ?_
        refine wd_take 13 _ _ rfl (by kernel_rfl) hS (yd_nou rfl rfl) ?_
        refine wd_take 14 _ _ rfl (by kernel_rfl) hS (yd_nou rfl rfl) ?_
        refine wd_take 15 _ _ rfl (by kernel_rfl) hS (yd_nou rfl rfl) ?_
        refine wd_take 16 _ _ rfl (by kernel_rfl) hS (yd_nou rfl rfl) ?_
        refine wd_take 17 _ _ rfl (by kernel_rfl) hS (yd_nou rfl rfl) ?_
        refine wd_take 18 _ _ rfl (by kernel_rfl) hS (yd_nou rfl rfl) ?_
        refine wd_take 19 _ _ rfl (by kernel_rfl) hS (yd_nou rfl rfl) ?_
        refine wd_only 20 _ rfl (by kernel_rfl) ?_
        refine s1_nou rfl rfl ⟨hS, ?_⟩
        refine wd_take 21 _ _ rfl (by kernel_rfl) hS (yd_nou rfl rfl) ?_
        refine wd_take 22 _ _ rfl (by kernel_rfl) hS (yd_nou rfl rfl) ?_
        refine wd_take 23 _ _ rfl (by kernel_rfl) hS (yd_no rfl (congrArg Value.bool hg20)) ?_
        refine wd_take 24 _ _ rfl (by kernel_rfl) hS (yd_do fun A hA => rn_pickT (congrArg Value.bool hg20) (by conv => lhs; whnf)) ?_
        refine wd_done (by kernel_rfl) ?_ _
        replace hX := hX.tr hS
        replace hB4 := hB4.ext hS id; replace hB5 := hB5.ext hS id; replace hB6 := hB6.ext hS id; replace hB7 := hB7.ext hS id
        replace hXo := hXo.tr hS
        replace hDk := hDk.non hS
        replace hW := hW.tr hS
        refine W_condT rfl ?_
        refine W_seq ?_
        refine W_region ?_
        have hBo := hB6
        refine wl_store1 (b := b6) p_4 rfl (by conv => lhs; whnf) rfl rfl hB6 (Nat.le_of_ble_eq_true rfl) ?_; intro w9 hE9 hB6 hz9
        replace hX := hX.mine hE9 hl6
        replace hB4 := hB4.ext hE9 (fun h => by omega); replace hB5 := hB5.ext hE9 (fun h => by omega); replace hB7 := hB7.ext hE9 (fun h => by omega)
        replace hXo := hXo.mine hE9 (.inr ho6)
        replace hDk := hDk.box hE9 hBo
        replace hW := hW.mine hE9 (.inl (by first | exact .inl rfl | exact .inr rfl))
        refine wl_nil ?_
        refine W_ret ?_
        replace hB6 := hB6.cast (cs' := [Value.bool (likeB p (spl 47 f) T)]) (by rw [hR] <;> rfl)
        exact ⟨hX, rfl, ⟨hB6, hK6.2⟩, hXo, hW, hDk, trivial⟩
      · have hxT : x.1 < T.length := by have := of_decide_eq_false hg20; omega
        obtain ⟨t, ht⟩ : ∃ t, T[x.1]? = some t := ⟨_, List.getElem?_eq_getElem hxT⟩
        obtain ⟨bt, ot, eat⟩ := hs.base (by intro e; have := congrArg List.length e; simp only [List.length_map, List.length_nil] at this; omega)
        refine wd_take 5 _ _ rfl (by kernel_rfl) hS (yd_yes rfl (congrArg Value.bool hg20) fun A hA => rn_move (by conv => lhs; whnf)) ?_
        refine wd_take 6 _ _ rfl (by kernel_rfl) hS (yd_yes rfl (congrArg Value.bool hg20) fun A hA => rn_load1 p_68 rfl (hB4.ext hA id) rfl) ?_
        refine wd_take 7 _ _ rfl (by kernel_rfl) hS (yd_yes rfl (congrArg Value.bool hg20) fun A hA => rn_move (by conv => lhs; whnf)) ?_
        refine wd_take 8 _ _ rfl (by kernel_rfl) hS (yd_yes rfl (congrArg Value.bool hg20) fun A hA => rn_indexAddr sl_68 (a := ⟨bt, ot, none⟩) (n := T.length) (c := c) (by rw [← eat]; rfl) rfl (by omega)) ?_
        refine wd_take 9 _ _ rfl (by kernel_rfl) hS (yd_yes rfl (congrArg Value.bool hg20) fun A hA => rn_load p_9 rfl ((((eat ▸ hs : Sl Non w (.slice (some ⟨bt, ot, none⟩) T.length c) 1 (T.map eS1)).ext hXo (fun _ h => h)).ext hA (fun _ h => h.elim)).at0 (eS_at (i := ((x.1 : Nat) : Int).toNat) ht) rfl)) ?_
        refine wd_take 10 _ _ rfl (by kernel_rfl) hS (yd_yes rfl (congrArg Value.bool hg20) fun A hA => rn_sneq rfl rfl) ?_
        refine wd_take 11 _ _ rfl (by kernel_rfl) hS (yd_yes rfl (congrArg Value.bool hg20) fun A hA => rn_move (by conv => lhs; whnf)) ?_
        refine wd_split (d := 27) rfl (fun hg27 => ?_) (fun hg27 => ?_)
        · have q1 : ¬ x.2 = t := by simpa using of_decide_eq_true hg27
          refine wd_take 12 _ _ rfl (by kernel_rfl) hS (yd_yes rfl (congrArg Value.bool hg27) fun A hA => rn_move (by conv => lhs; whnf)) ?_
          refine wd_take 13 _ _ rfl (by kernel_rfl) hS (yd_yes rfl (congrArg Value.bool hg27) fun A hA => rn_seql rfl rfl) ?_
          refine wd_take 14 _ _ rfl (by kernel_rfl) hS (yd_yes rfl (congrArg Value.bool hg27) fun A hA => rn_move (by conv => lhs; whnf)) ?_
          refine wd_split (d := 30) rfl (fun hg30 => ?_) (fun hg30 => ?_)
          · have q2 : x.2 = [43] := of_decide_eq_true hg30
            refine wd_take 15 _ _ rfl (by kernel_rfl) hS (yd_yes rfl (congrArg Value.bool hg30) fun A hA => rn_load1 p_69 rfl (hB5.ext hA id) rfl) ?_
            refine wd_take 16 _ _ rfl (by kernel_rfl) hS (yd_yes rfl (congrArg Value.bool hg30) fun A hA => rn_load1 p_68 rfl (hB4.ext hA id) rfl) ?_
            refine wd_take 17 _ _ rfl (by kernel_rfl) hS (yd_yes rfl (congrArg Value.bool hg30) fun A hA => rn_move (by conv => lhs; whnf)) ?_
            refine wd_take 18 _ _ rfl (by kernel_rfl) hS (yd_yes rfl (congrArg Value.bool hg30) fun A hA => rn_indexAddr sl_68 (a := ⟨bt, ot, none⟩) (n := T.length) (c := c) (by rw [← eat]; rfl) rfl (by omega)) ?_
            refine wd_take 19 _ _ rfl (by kernel_rfl) hS (yd_yes rfl (congrArg Value.bool hg30) fun A hA => rn_load p_9 rfl ((((eat ▸ hs : Sl Non w (.slice (some ⟨bt, ot, none⟩) T.length c) 1 (T.map eS1)).ext hXo (fun _ h => h)).ext hA (fun _ h => h.elim)).at0 (eS_at (i := ((x.1 : Nat) : Int).toNat) ht) rfl)) ?_
            refine wd_only 20 _ rfl (by kernel_rfl) ?_
            refine s1_yes rfl (congrArg Value.bool hg30) ?_
            refine wl_tell (s := t) rfl hp.1 rfl (hp.2 w8 t (hTl t (List.mem_of_getElem? ht)) (hXo.tr hS)) ?_; intro w10 hE10
            replace hS := hS.tr hE10
            refine wl_nil ⟨hS, ?_⟩
            refine wd_take 21 _ _ rfl (by kernel_rfl) hS (yd_yes rfl (congrArg Value.bool hg27) fun A hA => rn_pickT (congrArg Value.bool hg30) (by conv => lhs; whnf)) ?_
            refine wd_take 22 _ _ rfl (by kernel_rfl) hS (yd_yes rfl (congrArg Value.bool hg27) fun A hA => rn_not rfl) ?_
            refine wd_take 23 _ _ rfl (by kernel_rfl) hS (yd_yes rfl (congrArg Value.bool hg20) fun A hA => rn_pickT (congrArg Value.bool hg27) (by conv => lhs; whnf)) ?_
            refine wd_take 24 _ _ rfl (by kernel_rfl) hS (yd_do fun A hA => rn_pickF (congrArg Value.bool hg20) (by conv => lhs; whnf)) ?_
            refine wd_done (by kernel_rfl) ?_ _
            replace hX := hX.tr hS
            replace hB4 := hB4.ext hS id; replace hB5 := hB5.ext hS id; replace hB6 := hB6.ext hS id; replace hB7 := hB7.ext hS id
            replace hXo := hXo.tr hS
            replace hDk := hDk.non hS
            replace hW := hW.tr hS
            refine W_cond rfl (fun hc1 => ?_) (fun hc1 => ?_)
            · have hR : likeB p (spl 47 f) T = false := by first | assumption | exact like_no hxl q35 (by rw [hxi]; exact hIr.1) (not_okAt hxl ht q1 (fun _ => by simpa using hc1))
              refine W_seq ?_
              refine W_region ?_
              have hBo := hB6
              refine wl_store1 (b := b6) p_4 rfl (by conv => lhs; whnf) rfl rfl hB6 (Nat.le_of_ble_eq_true rfl) ?_; intro w11 hE11 hB6 hz11
              replace hX := hX.mine hE11 hl6
              replace hB4 := hB4.ext hE11 (fun h => by omega); replace hB5 := hB5.ext hE11 (fun h => by omega); replace hB7 := hB7.ext hE11 (fun h => by omega)
              replace hXo := hXo.mine hE11 (.inr ho6)
              replace hDk := hDk.box hE11 hBo
              replace hW := hW.mine hE11 (.inl (by first | exact .inl rfl | exact .inr rfl))
              refine wl_nil ?_
              refine W_ret ?_
              replace hB6 := hB6.cast (cs' := [Value.bool (likeB p (spl 47 f) T)]) (by rw [hR] <;> rfl)
              exact ⟨hX, rfl, ⟨hB6, hK6.2⟩, hXo, hW, hDk, trivial⟩
            · have hok : okAt p (spl 47 f) T x.1 := by first | assumption | exact ⟨x.2, t, hxl, ht, .inr ⟨q2, by simpa using hc1⟩⟩ | exact absurd hc1 (by simp)
              refine W_skip ?_
              refine W_region ?_
              refine wl_val (rn_load1 p_3 rfl hB7 rfl) ?_
              refine wl_val (rn_add rfl rfl (by omega)) ?_
              have hBo := hB7
              refine wl_store1 (b := b7) p_3 rfl (by conv => lhs; whnf) rfl rfl hB7 (Nat.le_of_ble_eq_true rfl) ?_; intro w12 hE12 hB7 hz12
              replace hX := hX.mine hE12 hl7
              replace hB4 := hB4.ext hE12 (fun h => by omega); replace hB5 := hB5.ext hE12 (fun h => by omega); replace hB6 := hB6.ext hE12 (fun h => by omega)
              replace hXo := hXo.mine hE12 (.inr ho7)
              replace hDk := hDk.box hE12 hBo
              replace hW := hW.mine hE12 (.inl (by first | exact .inl rfl | exact .inr rfl))
              refine wl_nil ?_
              replace hB7 := hB7.cast (show [Value.int .i64 ((pre.length : Int) + 1)] = [.int .i64 ((pre ++ [x]).length : Nat)] by simp)
              exact ⟨hX, ⟨hB4, hK4.2⟩, ⟨hB5, hK5.2⟩, ⟨hB6, hK6.2⟩, ⟨hB7, hK7.2⟩, hXo, hW, hDk, ⟨fun j hj => by rw [List.length_append, List.length_singleton] at hj; rcases Nat.lt_or_ge j pre.length with h | h; exact hIr.1 j h; (have e : j = x.1 := by omega); subst e; exact ⟨hok, by rw [hxl]; exact fun e => q35 (Option.some.inj e)⟩, by rw [List.length_append, List.length_singleton]; omega⟩⟩
          · have hR : likeB p (spl 47 f) T = false := like_no hxl q35 (by rw [hxi]; exact hIr.1) (not_okAt hxl ht q1 (fun e => absurd e (of_decide_eq_false hg30)))
            refine wd_take 15 _ _ rfl (by kernel_rfl) hS (yd_no rfl (congrArg Value.bool hg30)) ?_
            refine wd_take 16 _ _ rfl (by kernel_rfl) hS (yd_no rfl (congrArg Value.bool hg30)) ?_
            refine wd_take 17 _ _ rfl (by kernel_rfl) hS (yd_no rfl (congrArg Value.bool hg30)) ?_
            refine wd_take 18 _ _ rfl (by kernel_rfl) hS (yd_no rfl (congrArg Value.bool hg30)) ?_
            refine wd_take 19 _ _ rfl (by kernel_rfl) hS (yd_no rfl (congrArg Value.bool hg30)) ?_
            refine wd_only 20 _ rfl (by kernel_rfl) ?_
            refine s1_no rfl (congrArg Value.bool hg30) ⟨hS, ?_⟩
            refine wd_take 21 _ _ rfl (by kernel_rfl) hS (yd_yes rfl (congrArg Value.bool hg27) fun A hA => rn_pickF (congrArg Value.bool hg30) (by conv => lhs; whnf)) ?_
            refine wd_take 22 _ _ rfl (by kernel_rfl) hS (yd_yes rfl (congrArg Value.bool hg27) fun A hA => rn_not rfl) ?_
            refine wd_take 23 _ _ rfl (by kernel_rfl) hS (yd_yes rfl (congrArg Value.bool hg20) fun A hA => rn_pickT (congrArg Value.bool hg27) (by conv => lhs; whnf)) ?_
            refine wd_take 24 _ _ rfl (by kernel_rfl) hS (yd_do fun A hA => rn_pickF (congrArg Value.bool hg20) (by conv => lhs; whnf)) ?_
            refine wd_done (by kernel_rfl) ?_ _
            replace hX := hX.tr hS
            replace hB4 := hB4.ext hS id; replace hB5 := hB5.ext hS id; replace hB6 := hB6.ext hS id; replace hB7 := hB7.ext hS id
            replace hXo := hXo.tr hS
            replace hDk := hDk.non hS
            replace hW := hW.tr hS
            refine W_cond rfl (fun hc1 => ?_) (fun hc1 => ?_)
            · have hR : likeB p (spl 47 f) T = false := by first | assumption | exact like_no hxl q35 (by rw [hxi]; exact hIr.1) (not_okAt hxl ht q1 (fun _ => by simpa using hc1))
              refine W_seq ?_
              refine W_region ?_
              have hBo := hB6
              refine wl_store1 (b := b6) p_4 rfl (by conv => lhs; whnf) rfl rfl hB6 (Nat.le_of_ble_eq_true rfl) ?_; intro w13 hE13 hB6 hz13
              replace hX := hX.mine hE13 hl6
              replace hB4 := hB4.ext hE13 (fun h => by omega); replace hB5 := hB5.ext hE13 (fun h => by omega); replace hB7 := hB7.ext hE13 (fun h => by omega)
              replace hXo := hXo.mine hE13 (.inr ho6)
              replace hDk := hDk.box hE13 hBo
              replace hW := hW.mine hE13 (.inl (by first | exact .inl rfl | exact .inr rfl))
              refine wl_nil ?_
              refine W_ret ?_
              replace hB6 := hB6.cast (cs' := [Value.bool (likeB p (spl 47 f) T)]) (by rw [hR] <;> rfl)
              exact ⟨hX, rfl, ⟨hB6, hK6.2⟩, hXo, hW, hDk, trivial⟩
            · have hok : okAt p (spl 47 f) T x.1 := by first | assumption | exact ⟨x.2, t, hxl, ht, .inr ⟨q2, by simpa using hc1⟩⟩ | exact absurd hc1 (by simp)
              refine W_skip ?_
              refine W_region ?_
              refine wl_val (rn_load1 p_3 rfl hB7 rfl) ?_
              refine wl_val (rn_add rfl rfl (by omega)) ?_
              have hBo := hB7
              refine wl_store1 (b := b7) p_3 rfl (by conv => lhs; whnf) rfl rfl hB7 (Nat.le_of_ble_eq_true rfl) ?_; intro w14 hE14 hB7 hz14
              replace hX := hX.mine hE14 hl7
              replace hB4 := hB4.ext hE14 (fun h => by omega); replace hB5 := hB5.ext hE14 (fun h => by omega); replace hB6 := hB6.ext hE14 (fun h => by omega)
              replace hXo := hXo.mine hE14 (.inr ho7)
              replace hDk := hDk.box hE14 hBo
              replace hW := hW.mine hE14 (.inl (by first | exact .inl rfl | exact .inr rfl))
              refine wl_nil ?_
              replace hB7 := hB7.cast (show [Value.int .i64 ((pre.length : Int) + 1)] = [.int .i64 ((pre ++ [x]).length : Nat)] by simp)
              exact ⟨hX, ⟨hB4, hK4.2⟩, ⟨hB5, hK5.2⟩, ⟨hB6, hK6.2⟩, ⟨hB7, hK7.2⟩, hXo, hW, hDk, ⟨fun j hj => by rw [List.length_append, List.length_singleton] at hj; rcases Nat.lt_or_ge j pre.length with h | h; exact hIr.1 j h; (have e : j = x.1 := by omega); subst e; exact ⟨hok, by rw [hxl]; exact fun e => q35 (Option.some.inj e)⟩, by rw [List.length_append, List.length_singleton]; omega⟩⟩
        · have hok : okAt p (spl 47 f) T x.1 := ⟨x.2, t, hxl, ht, .inl (by simpa using of_decide_eq_false hg27)⟩
          refine wd_take 12 _ _ rfl (by kernel_rfl) hS (yd_no rfl (congrArg Value.bool hg27)) ?_
          refine wd_take 13 _ _ rfl (by kernel_rfl) hS (yd_no rfl (congrArg Value.bool hg27)) ?_
          refine wd_take 14 _ _ rfl (by kernel_rfl) hS (yd_no rfl (congrArg Value.bool hg27)) ?_
          refine wd_take 15 _ _ rfl (by kernel_rfl) hS (yd_nou rfl rfl) ?_
          refine wd_take 16 _ _ rfl (by kernel_rfl) hS (yd_nou rfl rfl) ?_
          refine wd_take 17 _ _ rfl (by kernel_rfl) hS (yd_nou rfl rfl) ?_
          refine wd_take 18 _ _ rfl (by kernel_rfl) hS (yd_nou rfl rfl) ?_
          refine wd_take 19 _ _ rfl (by kernel_rfl) hS (yd_nou rfl rfl) ?_
          refine wd_only 20 _ rfl (by kernel_rfl) ?_
          refine s1_nou rfl rfl ⟨hS, ?_⟩
          refine wd_take 21 _ _ rfl (by kernel_rfl) hS (yd_no rfl (congrArg Value.bool hg27)) ?_
          refine wd_take 22 _ _ rfl (by kernel_rfl) hS (yd_no rfl (congrArg Value.bool hg27)) ?_
          refine wd_take 23 _ _ rfl (by kernel_rfl) hS (yd_yes rfl (congrArg Value.bool hg20) fun A hA => rn_pickF (congrArg Value.bool hg27) (by conv => lhs; whnf)) ?_
          refine wd_take 24 _ _ rfl (by kernel_rfl) hS (yd_do fun A hA => rn_pickF (congrArg Value.bool hg20) (by conv => lhs; whnf)) ?_
          refine wd_done (by kernel_rfl) ?_ _
          replace hX := hX.tr hS
          replace hB4 := hB4.ext hS id; replace hB5 := hB5.ext hS id; replace hB6 := hB6.ext hS id; replace hB7 := hB7.ext hS id
          replace hXo := hXo.tr hS
          replace hDk := hDk.non hS
          replace hW := hW.tr hS
          refine W_condF rfl ?_
          refine W_skip ?_
          refine W_region ?_
          refine wl_val (rn_load1 p_3 rfl hB7 rfl) ?_
          refine wl_val (rn_add rfl rfl (by omega)) ?_
          have hBo := hB7
          refine wl_store1 (b := b7) p_3 rfl (by conv => lhs; whnf) rfl rfl hB7 (Nat.le_of_ble_eq_true rfl) ?_; intro w15 hE15 hB7 hz15
          replace hX := hX.mine hE15 hl7
          replace hB4 := hB4.ext hE15 (fun h => by omega); replace hB5 := hB5.ext hE15 (fun h => by omega); replace hB6 := hB6.ext hE15 (fun h => by omega)
          replace hXo := hXo.mine hE15 (.inr ho7)
          replace hDk := hDk.box hE15 hBo
          replace hW := hW.mine hE15 (.inl (by first | exact .inl rfl | exact .inr rfl))
          refine wl_nil ?_
          replace hB7 := hB7.cast (show [Value.int .i64 ((pre.length : Int) + 1)] = [.int .i64 ((pre ++ [x]).length : Nat)] by simp)
          exact ⟨hX, ⟨hB4, hK4.2⟩, ⟨hB5, hK5.2⟩, ⟨hB6, hK6.2⟩, ⟨hB7, hK7.2⟩, hXo, hW, hDk, ⟨fun j hj => by rw [List.length_append, List.length_singleton] at hj; rcases Nat.lt_or_ge j pre.length with h | h; exact hIr.1 j h; (have e : j = x.1 := by omega); subst e; exact ⟨hok, by rw [hxl]; exact fun e => q35 (Option.some.inj e)⟩, by rw [List.length_append, List.length_singleton]; omega⟩⟩
  · rintro N rk w' ⟨hK4, hK5, hK6, hK7, hXo, hW, hDk, hIr⟩ hN hA hr hrd
    have hB4 := hK4.1
    have hB5 := hK5.1
    have hB6 := hK6.1
    have hB7 := hK7.1
    have hX := hXo; have hD := hDk.add hrd (Nat.le_trans hszr (hN rk hr).1) hr
    refine W_seq ?_
    refine W_region ?_
    refine wl_val (rn_load1 p_3 rfl hB7 rfl) ?_
    refine wl_val (rn_load1 p_68 rfl hB4 rfl) ?_
    refine wl_val (rn_len sl_68 rfl) ?_
    refine wl_val (rn_eql rfl rfl) ?_
    have hBo := hB6
    refine wl_store1 (b := b6) p_4 rfl (by conv => lhs; whnf) rfl rfl hB6 (Nat.le_of_ble_eq_true rfl) ?_; intro w16 hE16 hB6 hz16
    replace hX := hX.mine hE16 hl6
    replace hB4 := hB4.ext hE16 (fun h => by omega); replace hB5 := hB5.ext hE16 (fun h => by omega); replace hB7 := hB7.ext hE16 (fun h => by omega)
    replace hD := hD.box hE16 hBo
    refine wl_nil ?_
    refine W_ret ?_
    refine hD.leave fun B hB => ?_
    have hB4 := hB4.ext hB (hD.ne hB4)
    have hB5 := hB5.ext hB (hD.ne hB5)
    have hB6 := hB6.ext hB (hD.ne hB6)
    have hB7 := hB7.ext hB (hD.ne hB7)
    have hX := hD.out hX hB
    exact ⟨_, resR1 (res1_cell p_4 rfl hB6), hX, by rw [like_end (fun j hj => hIr.1 j (by rw [numb_len]; exact hj)), numb_len]⟩
  · rintro c N rk w' ⟨rfl, hK6, hXo, hW, hDk, hIr⟩ hN hA hr hrd
    have hB6 := hK6.1
    have hX := hXo; have hD := hDk.add hrd (Nat.le_trans hszr (hN rk hr).1) hr
    refine W_ret ?_
    refine hD.leave fun B hB => ?_
    have hB6 := hB6.ext hB (hD.ne hB6)
    have hX := hD.out hX hB
    exact ⟨_, resR1 (res1_cell p_4 rfl hB6), hX, rfl⟩
-- bellman/match.Match$1
theorem match1_ok (w : World) (x : Str) : Fn Tryd.prog 169 #[Sv x] w fun u w' => u = .bool true := by
  have hX := Ext.refl Non w
  refine fn_of_W (args := [_]) Tryd.func169 rfl (by kernel_rfl) rfl ?_
  refine W_seq ?_
  refine W_region ?_
  refine wl_val (rn_assign (by conv => lhs; whnf)) ?_
  refine wl_nil ?_
  refine W_seq ?_
  refine W_region ?_
  refine wl_val (rn_assign (by conv => lhs; whnf)) ?_
  refine wl_nil ?_
  refine W_ret ?_
  exact ⟨_, resR1 (res1_tmp rfl), hX, rfl⟩
theorem tells_any (w : World) : Tells 169 #[] w anyS := ⟨e_169, fun A x _ _ => match1_ok A x⟩

-- bellman/match.Match
set_option maxHeartbeats 800000 in
theorem tmatch_ok (w : World) (f t : Str) (hnf : f.length ≤ 1000000) (hnt : t.length ≤ 1000000) : Fn Tryd.prog 136 #[Sv f, Sv t] w fun u w' => u = .bool (matchB f t) := by
  have hX := Ext.refl Non w
  refine fn_of_W (args := [_, _]) Tryd.func136 rfl (by kernel_rfl) rfl ?_
  refine W_seq ?_
  refine W_region ?_
  refine wl_val (rn_assign (by conv => lhs; whnf)) ?_
  refine wl_nil ?_
  refine W_seq ?_
  refine W_seq ?_
  refine W_region ?_
  refine wl_val (rn_move (by conv => lhs; whnf)) ?_
  refine wl_call e_165 rfl (tfilter_ok w f hnf) ?_; intro v6 w1 hE1 hR1
  replace hX := hX.tr hE1
  subst hR1
  refine wl_val (rn_not rfl) ?_
  refine wl_val (rn_move (by conv => lhs; whnf)) ?_
  refine wl_split (d := 8) rfl (fun hg8 => ?_) (fun hg8 => ?_)
  · have hR : matchB f t = false := match_no1 (by simpa using hg8)
    refine wl_no rfl (congrArg Value.bool hg8) ?_
    refine wl_no rfl (congrArg Value.bool hg8) ?_
    refine wl_no rfl (congrArg Value.bool hg8) ?_
    refine wl_val (rn_pickT (congrArg Value.bool hg8) (by conv => lhs; whnf)) ?_
    refine wl_val (rn_move (by conv => lhs; whnf)) ?_
    refine wl_no rfl rfl ?_
    refine wl_no rfl rfl ?_
    refine wl_no rfl rfl ?_
    refine wl_val (rn_pickT rfl (by conv => lhs; whnf)) ?_
    refine wl_nil ?_
    refine W_condT rfl ?_
    refine W_seq ?_
    refine W_region ?_
    refine wl_val (rn_assign (by conv => lhs; whnf)) ?_
    refine wl_nil ?_
    refine W_ret ?_
    exact ⟨_, resR1 (res1_tmp rfl), hX, by rw [hR]; rfl⟩
  · have hF : filterB f = true := by simpa using hg8
    refine wl_yes rfl (congrArg Value.bool hg8) ?_
    refine wl_val (rn_move (by conv => lhs; whnf)) ?_
    refine wl_yes rfl (congrArg Value.bool hg8) ?_
    refine wl_call e_78 rfl (ttopic_ok w1 t hnt) ?_; intro v10 w2 hE2 hR2
    replace hX := hX.tr hE2
    subst hR2
    refine wl_yes rfl (congrArg Value.bool hg8) ?_
    refine wl_val (rn_not rfl) ?_
    refine wl_val (rn_pickF (congrArg Value.bool hg8) (by conv => lhs; whnf)) ?_
    refine wl_val (rn_move (by conv => lhs; whnf)) ?_
    refine wl_split (d := 13) rfl (fun hg13 => ?_) (fun hg13 => ?_)
    · have hR : matchB f t = false := match_no2 (by simpa using hg13)
      refine wl_no rfl (congrArg Value.bool hg13) ?_
      refine wl_no rfl (congrArg Value.bool hg13) ?_
      refine wl_no rfl (congrArg Value.bool hg13) ?_
      refine wl_val (rn_pickT (congrArg Value.bool hg13) (by conv => lhs; whnf)) ?_
      refine wl_nil ?_
      refine W_condT rfl ?_
      refine W_seq ?_
      refine W_region ?_
      refine wl_val (rn_assign (by conv => lhs; whnf)) ?_
      refine wl_nil ?_
      refine W_ret ?_
      exact ⟨_, resR1 (res1_tmp rfl), hX, by rw [hR]; rfl⟩
    · have hP : topicB t = true := by simpa using hg13
      refine wl_yes rfl (congrArg Value.bool hg13) ?_
      refine wl_val (rn_move (by conv => lhs; whnf)) ?_
      refine wl_yes rfl (congrArg Value.bool hg13) ?_
      refine wl_val (rn_move (by conv => lhs; whnf)) ?_
      refine wl_yes rfl (congrArg Value.bool hg13) ?_
      refine wl_call e_166 rfl (apart_ok w2 f t hnf hnt) ?_; intro v16 w3 hE3 hR3
      replace hX := hX.tr hE3
      subst hR3
      refine wl_val (rn_pickF (congrArg Value.bool hg13) (by conv => lhs; whnf)) ?_
      refine wl_nil ?_
      refine W_cond rfl (fun hc0 => ?_) (fun hc0 => ?_)
      · have hR : matchB f t = false := by first | assumption | exact match_no3 hc0
        refine W_seq ?_
        refine W_region ?_
        refine wl_val (rn_assign (by conv => lhs; whnf)) ?_
        refine wl_nil ?_
        refine W_ret ?_
        exact ⟨_, resR1 (res1_tmp rfl), hX, by rw [hR]; rfl⟩
      · have hR := match_eq hF hP hc0
        refine W_skip ?_
        refine W_seq ?_
        refine W_region ?_
        refine wl_val (rn_move (by conv => lhs; whnf)) ?_
        refine wl_val (rn_move (by conv => lhs; whnf)) ?_
        refine wl_call e_168 rfl (levels_ok w3 t hnt) ?_; intro v20 w4 hE4 hR4
        replace hX := hX.tr hE4
        have hL := hR4; obtain ⟨a20, c20, hv20_, _⟩ := id hL.len; rw [List.length_map] at hv20_; subst hv20_
        obtain ⟨wL, hwL⟩ : ∃ x, x = w4 := ⟨_, rfl⟩
        rw [← hwL] at hL
        have hV : Ext Non wL w4 := by rw [hwL]; exact Ext.refl _ _
        refine wl_call e_167 rfl (like_ok w4 f (spl 47 t) anyS hnf (fun x hx => by have := spl_le hx; omega) (hL.ext hV (fun _ h => h)) (tells_any w4)) ?_; intro v21 w5 hE5 hR5
        replace hX := hX.tr hE5
        replace hV := hV.tr hE5
        subst hR5
        refine wl_val (rn_assign (by conv => lhs; whnf)) ?_
        refine wl_nil ?_
        refine W_ret ?_
        exact ⟨_, resR1 (res1_tmp rfl), hX, by rw [hR]; rfl⟩
end Go.Proofs.YthcclgoidchkdaaDoorC
