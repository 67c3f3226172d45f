/- What is played on a core. -/
import Derived.Test.YtjklgohpminefaaGreatDoorBunQ17

set_option linter.unusedVariables false
set_option linter.unusedSimpArgs false
set_option maxRecDepth 1000000
namespace Go.Proofs.YtjklgohpminefaaGreatDoorC
open Go.RowKit
theorem pThr_st (me : Nat) (ops : List OpD) (s : St) : (QM me ops s).st = s ∧ (QM me ops s).al = true := by cases ops <;> exact ⟨rfl, rfl⟩
def Jb (ths : List (List OpD × Value)) (s : St) : List (Xv St) := ths.mapIdx fun k p => (QM k p.1 s).pl
theorem plans_at {ths : List (List OpD × Value)} {s : St} {i : Nat} {p : Xv St} (h : (Jb ths s)[i]? = some p) : ∃ q, ths[i]? = some q ∧ p = (QM i q.1 s).pl := by
 unfold Jb at h
 rw [List.getElem?_mapIdx] at h
 cases hq : ths[i]? with
 | none => rw [hq] at h; cases h
 | some q => rw [hq] at h; cases h; exact ⟨q, rfl, rfl⟩
theorem plans_len (ths : List (List OpD × Value)) (s : St) : (Jb ths s).length = ths.length := by simp [Jb]
def Told (cs log : List Z4) : Prop := cs.length = log.length ∧ ∀ (i : Nat) q, log[i]? = some q → ∃ p, cs[i]? = some { q with place := p }
theorem told_of {rows : List (List Value)} : ∀ {log : List Z4}, rows.length = log.length → (∀ (i : Nat) q, log[i]? = some q → ∃ p, rows[i]? = some (callC q p)) → ∃ cs, rows = cs.map Z4.enc ∧ Told cs log := by
 induction rows with
 | nil => intro log h1 h2; obtain rfl : log = [] := List.eq_nil_of_length_eq_zero (by simpa using h1.symm); exact ⟨[], rfl, rfl, fun i q h => by simp at h⟩
 | cons r rows ih =>
  intro log h1 h2
  cases log with
  | nil => simp at h1
  | cons q log =>
   obtain ⟨p, hp⟩ := h2 0 q rfl
   obtain ⟨cs, h3, h4, h5⟩ := ih (by simpa using h1) fun i q' h => h2 (i + 1) q' h
   simp at hp
   refine ⟨{ q with place := p } :: cs, by rw [hp, h3]; rfl, by simp [h4], fun i q' h => ?_⟩
   cases i with
   | zero => simp at h; subst h; exact ⟨p, rfl⟩
   | succ i => exact h5 i q' h
theorem wr_mc {k : Nat} {G G' : Tg} {w w1 : World} {Mc : Nat → Prop} (hG : ∀ i, i < w.heap.size → ¬ Mc i → G i = 0) (ht : ∀ j, j < w1.heap.size → G' j = G j) (hs : w.heap.size ≤ w1.heap.size) {i : Nat} (h : Wr k G' i) : Xo Mc w i := by
 by_cases hlt : i < w.heap.size
 ·left
  refine Classical.byContradiction fun hn => ?_
  have h0 := hG i hlt hn
  unfold Wr at h; rw [ht i (by omega), h0] at h
  rcases h with h | h
  ·exact absurd h.1 (by omega)
  ·simp only [wrT] at h; omega
 ·exact .inr (by omega)
theorem mw_mc {G G' : Tg} {w w1 : World} {Mc : Nat → Prop} (hG : ∀ i, i < w.heap.size → ¬ Mc i → G i = 0) (ht : ∀ j, j < w1.heap.size → G' j = G j) (hs : w.heap.size ≤ w1.heap.size) {i : Nat} (h : MW G' i) : Xo Mc w i := by
 by_cases hlt : i < w.heap.size
 ·left
  refine Classical.byContradiction fun hn => ?_
  have h0 := hG i hlt hn
  exact mw0 h (by rw [ht i (by omega), h0])
 ·exact .inr (by omega)
theorem sl_mc {T : Nat → Prop} (h0 : T 0) {G' : Tg} {w A : World} {Mc : Nat → Prop} {v : Value} {k : Nat} {rows : List (List Value)} (h : Sl Mc w v k rows) (hE : Ext Mc w A) (hz : ∀ j, j < w.heap.size → ¬ Mc j → G' j = 0) : Sl (fun j => ¬ T (G' j)) A v k rows :=
 ((h.sub (M' := fun j => Mc j ∨ w.heap.size ≤ j) (fun j hj hlt => hj.elim id (fun h => by omega))).ext hE (fun j hj => .inl hj)).sub fun j hj _ => by
  by_cases hlt : j < w.heap.size
  ·refine .inl (Classical.byContradiction fun hn => hj ?_)
   rw [hz j hlt hn]; exact h0
  ·exact .inr (by omega)
theorem nine_mc {G G' : Tg} {w w1 : World} {Mc : Nat → Prop} (hG : ∀ i, i < w.heap.size → ¬ Mc i → G i = 0) (ht : ∀ j, j < w1.heap.size → G' j = G j) (hs : w.heap.size ≤ w1.heap.size) {i : Nat} (h : G' i = 9) : Xo Mc w i := by
 by_cases hlt : i < w.heap.size
 ·refine .inl (Classical.byContradiction fun hn => ?_)
  have := (ht i (by omega)).trans (hG i hlt hn)
  omega
 ·exact .inr (by omega)
theorem my9 {k : Nat} : ¬ MyT k 9 := by rintro (h | h | h) <;> (try simp only [kpT, wrT] at h) <;> omega
theorem w9 {k : Nat} {G : Tg} {i : Nat} (h : G i = 9) : ¬ Wr k G i := by
 rintro (h1 | h1)
 ·have := h1.2; omega
 ·rw [h] at h1; simp only [wrT] at h1; omega
set_option maxHeartbeats 1600000 in
theorem played_w (w : World) {Mc : Nat → Prop} {cB : Nat} {tv pv : Value} {ths : List (List OpD × Value)} {picks : List Int} {s0 : St} {Inv : List (Xv St) → St → Prop} {μ : List (Xv St) → St → Nat} (hTh : Sl Mc w tv 1 (ths.map fun p => [p.2])) (hOps : ∀ p ∈ ths, ∃ a c, p.2 = .slice a p.1.length c ∧ Sl Mc w p.2 5 (p.1.map OpD.enc)) (hP : Sl Mc w pv 1 (picks.map eI)) (hpn : picks.length ≤ 100000) (hne : ths ≠ []) (hlen : ths.length ≤ 1000) (hSch : Sched Inv μ) (hInv : Inv (Jb ths s0) s0) (hbd : μ (Jb ths s0) s0 ≤ 65536) (H : ∀ (w1 : World) (lg : Nat), Ext Non w w1 → w.heap.size ≤ lg → Zj w1 lg [XV, .int .i64 0, .map none] → ∃ (L : Lay) (G : Tg), pt cB = pt L.c ∧ L.lg = lg ∧ LayOk L ∧ CoM L G w1 s0 ∧ ∀ i, i < w.heap.size → ¬ Mc i → G i = 0) : FnM Tryz.prog Mc 14 #[.pointer (some ⟨cB, 0, none⟩), tv, pv] w fun u w' => ∃ (u1 : Value) (oo : Option Nat) (cs : List Z4) (ps : List (Xv St)) (s : St) (L : Lay) (G : Tg), u = .tuple #[u1, .bool (!cs.any fun q => decide (q.to_ = 0))] ∧ OwO w' u1 oo 15 (cs.map Z4.enc) ∧ (∀ i, oo = some i → w.heap.size ≤ i) ∧ Told cs s.log ∧ Inv ps s ∧ ps.any Xv.isMk = false ∧ ps.length = ths.length ∧ L.c = cB ∧ LayOk L ∧ CoM L G w' s ∧ ∀ i, i < w.heap.size → ¬ Mc i → G i = 0 := by
 obtain ⟨ta, tc, rfl⟩ : ∃ ta tc, tv = .slice ta ths.length tc := by obtain ⟨a, c, e1, _⟩ := hTh.ex; exact ⟨a, c, by rw [e1, List.length_map]⟩
 have hX := Ext.refl Mc w
 refine Zfm (args := [_, _, _]) Tryz.func14 rfl rfl ?_
 refine Zs (Za (Za ?_))
 refine Zc (Zs (Zw zE rfl (hnew_ok w) ?_)); intro v14 w1 E1 R1
 replace hX := hX.tr E1
 obtain ⟨lg, rfl, hlg, hLg⟩ := R1
 obtain ⟨L, G, hcB, hLl, hLO, hM, hG0⟩ := H w1 lg E1 hlg hLg
 obtain rfl : cB = L.c := by cases hcB; rfl
 subst hLl
 obtain ⟨w1, hw1⟩ : ∃ x, x = w1 := ⟨_, rfl⟩
 have hws : w.heap.size ≤ w1.heap.size := by rw [hw1]; exact hX.size
 refine Za ?_
 refine Zc (Zs (Za ?_))
 refine Zc (ZC (Zs (Za ?_)))
 refine Zc (ZO (Xt (S := Nat × Value × Option Nat × Tg × List Value) [0, 1, 2, 8, 9, 10] (fun ⟨i, av, ao, G', vs⟩ => [.pointer (some ⟨L.c, 0, none⟩), .slice ta ths.length tc, pv, .pointer (some ⟨L.lg, 0, none⟩), av, .int .i64 (i : Nat)]) (fun ⟨i, av, ao, G', vs⟩ A => (Ext Mc w A) ∧ (i ≤ ths.length ∧ vs.length = i ∧ OwO A av ao 1 (vs.map eV) ∧ (∀ j, ao = some j → G' j = 9) ∧ CoM L G' A s0 ∧ (∀ j, j < w1.heap.size → G' j = G j) ∧ w1.heap.size ≤ A.heap.size ∧ ∀ (k : Nat) p v, ths[k]? = some p → vs[k]? = some v → Jt (coY L) Tryz.prog k (QM k p.1 s0).pl G' A v)) (fun ⟨i, av, ao, G', vs⟩ => ths.length - i) (0, XV, none, G, []) ⟨rfl, rfl, rfl, rfl, rfl, rfl, trivial⟩ ⟨hX, ⟨Nat.zero_le _, rfl, OwO.nil, fun j h => absurd h (by simp), hM, fun _ _ => rfl, Nat.le_of_eq (by rw [hw1]), fun k p v _ h => absurd h (by simp)⟩⟩ ?_))
 rintro τ0 ⟨i, av, ao, G', vs⟩ A0 ⟨hX, I0⟩
 obtain ⟨hin, hvl, hO, hao, hM, hT, hw1A, hSt⟩ := I0
 obtain ⟨aa, ac, rfl⟩ := id hO.len
 refine ZC (Zs (Zm (Zm ?_)))
 refine Zb (Z1 sl_57 rfl) (Zb (Xj rfl rfl) (Zc ?_))
 refine ZE rfl (fun hc0 => ?_) (fun hc0 => ?_)
 ·have hlt : i < ths.length := by have := of_decide_eq_true hc0; omega
  obtain ⟨⟨ops, hv⟩, hp⟩ : ∃ p, ths[i]? = some p := ⟨_, List.getElem?_eq_getElem hlt⟩
  obtain ⟨a, c, hve, hSl⟩ := hOps _ (List.mem_of_getElem? hp)
  obtain rfl : hv = .slice a ops.length c := hve
  obtain ⟨tb, to, rfl⟩ := hTh.base (fun h => by have h2 := congrArg List.length h; rw [List.length_map, List.length_nil] at h2; omega)
  refine ZF (ZC (ZO (ZJ (Zm (Zm (Zm (Zm (Zm ?_))))))))
  refine Zb (ZH sl_57 rfl rfl (by omega)) ?_
  refine Zb (Xb p_56 rfl ((hTh.ext hX (fun _ h => h)).at0 (show (ths.map fun p => [p.2])[((i : Nat) : Int).toNat]? = some [.slice a ops.length c] from by rw [Int.toNat_natCast, List.getElem?_map, hp]; rfl) rfl)) ?_
  refine Zm ?_
  have hSO : Sl (fun j => ¬ MyI i (G' j)) A0 (.slice a ops.length c) 5 (ops.map OpD.enc) := sl_mc (.inl rfl) hSl hX (fun j hj hn => (hT j (by omega)).trans (hG0 j hj hn))
  have hA1 : w1.heap.size ≤ (World.heap A0).size := hw1A
  have haol := fun j (hj : ao = some j) => hO.lt hj
  refine ZI zE rfl (thread_mk (me := i) (by omega) hLO ops G' A0 s0 a c hM hSO (pThr_st i ops s0).2) ?_; intro v29 w2 E2 hR29
  obtain ⟨G2, t1, t2, t3⟩ := hR29
  rw [(pThr_st i ops s0).1] at t2
  replace hX := hX.own2 E2 (fun j hj => wr_mc hG0 hT hws hj)
  replace hO := hO.ext E2 (fun j hj => w9 (hao j hj))
  have hAt := fun k p v hp hv => (hSt k p v hp hv)
  obtain ⟨wt, hwt⟩ : ∃ x, x = w2 := ⟨_, rfl⟩
  obtain ⟨hv1, hv2⟩ := t3.val.2.2
  have hEt := E2
  rw [← hwt] at t1 t2 t3 hEt
  have hYt : Ext (fun j => ao = some j) wt w2 := by rw [hwt]; exact Ext.refl _ _
  refine Xz (v := v29) (r := eV v29) JJ rfl rfl (by rw [hv2]; rfl) rfl (by decide) ?_; intro v30 w3 b30 hb30 E3 hO30
  replace hX := hX.tr E3
  replace hO := hO.ext E3 (fun _ _ h => h)
  replace hYt := hYt.tr E3
  have hYs := hYt.size
  refine Qm JJ rfl rfl rfl hO (hO30.sl (M := Non) id) (fun r hr => by simp only [List.mem_singleton] at hr; subst hr; exact J1 hv1) (by simp only [List.length_map, List.length_cons, List.length_nil]; omega) (by simp only [List.length_map, List.length_cons, List.length_nil, big]; omega) ?_; intro v31 w4 o31 E4 hO31 hf31
  replace hX := hX.own2 E4 (fun j hj => nine_mc hG0 hT hws (hao j hj))
  replace hYt := hYt.trans E4
  obtain ⟨va31, vc31, rfl⟩ := id hO31.len
  obtain ⟨G3, gold, gnew⟩ : ∃ G3 : Tg, (∀ j, j < wt.heap.size → G3 j = G2 j) ∧ ∀ j, wt.heap.size ≤ j → G3 j = 9 := ⟨gx G2 wt.heap.size fun _ => 9, fun j hj => Xf hj, fun j hj => Xd hj⟩
  have hEs := hEt.size; have hYs2 := hYt.size
  have g29 : ∀ j, ao = some j → G2 j = 9 := fun j hj => (t1.tag j (haol j hj)).trans (hao j hj)
  have sn : ∀ T : Nat → Prop, ¬ T 9 → ZV T G2 wt G3 w4 := fun T hT9 => ⟨hYt.mono fun j hj ht => hT9 (by rw [g29 j hj] at ht; exact ht), gold⟩
  have ho9 : ∀ j, o31 = some j → G3 j = 9 := fun j hj => by
   rcases hf31 j hj with h | h
   ·exact (gold j (Zlt (haol j h) hEs)).trans (g29 j h)
   ·exact gnew j (by omega)
  have hT3 : ∀ j, j < w1.heap.size → G3 j = G j := fun j hj => (gold j (by omega)).trans ((t1.tag j (by omega)).trans (hT j hj))
  have hSt3 : ∀ (k : Nat) p v, ths[k]? = some p → (vs ++ [v29])[k]? = some v → Jt (coY L) Tryz.prog k (QM k p.1 s0).pl G3 w4 v := fun k p v hp' hv' => by
   by_cases hk : k < vs.length
   ·rw [List.getElem?_append_left hk] at hv'
    exact (hSt k p v hp' hv').same ((t1.other hEt (by omega)).trans (sn _ my9))
   ·have hki : k = i := by have := (List.getElem?_eq_some_iff.1 hv').1; simp at this; omega
    subst hki
    rw [List.getElem?_append_right (by omega)] at hv'
    rw [hp] at hp'; cases hp'
    obtain rfl : v29 = v := by simpa [hvl] using hv'
    exact t3.same (sn _ my9)
  refine Za ?_
  refine Zc (ZJ (Zm ?_))
  refine Zb (ZX rfl rfl (by omega)) (Za ?_)
  refine Zc ?_
  exact ⟨rfl, (i + 1, _, o31, G3, vs ++ [v29]), ⟨rfl, rfl, rfl, rfl, rfl, rfl, trivial⟩, ⟨hX, ⟨hlt, by simp [hvl], by rw [List.map_append]; exact hO31, ho9, t2.same (sn Cor (by unfold Cor; omega)), hT3, by omega, hSt3⟩⟩, by show ths.length - (i + 1) < ths.length - i; omega⟩
 ·have hie : i = ths.length := by have := of_decide_eq_false hc0; omega
  refine XL ?_
  refine Zs (Zm (Zm ?_))
  refine ZI zE rfl (run_w A0 hSch (G := G') (ps := Jb ths s0) (s := s0) (vs := vs) (hO.sl (M := Non) (fun _ _ => id)) (fun h => hne (List.eq_nil_of_length_eq_zero (by rw [h] at hvl; simp at hvl; omega))) (by rw [plans_len]; omega) (fun k p v hp hv => by obtain ⟨q, hq, rfl⟩ := plans_at hp; exact hSt k q v hq hv) hM hInv hbd (by rw [plans_len]; exact hlen) (sl_mc (T := fun t => t = 0) rfl hP hX (fun j hj hn => (hT j (by omega)).trans (hG0 j hj hn))) hpn) ?_; intro v34 w5 E5 hR34
  obtain ⟨cf, mvR, callsR, rfl, hSM, hInvF, hdone, hTF, hlenF, hmvR⟩ := hR34
  have hX34 := hX.size
  replace hX := hX.own2 E5 (fun j hj => mw_mc hG0 hT hws hj)
  obtain ⟨wr, hwr⟩ : ∃ x, x = w5 := ⟨_, rfl⟩
  rw [← hwr] at hSM
  have hXr : Ext Non wr w5 := by rw [hwr]; exact Ext.refl _ _
  refine ZT z_44 ?_; intro b11 w6 hb11 E6 B11
  have hq11 := Zq hX hb11
  have hl11 := Zl hX hb11
  have hr11 := Zle hXr.size hb11
  replace hX := hX.tr E6
  replace hXr := hXr.tr E6
  have Bo := B11
  refine ZS s_44 rfl rfl rfl (JY hmvR rfl rfl) B11 rfl ?_; intro w7 E7 B11 hz7
  replace hX := hX.mine E7 hl11
  replace hXr := hXr.own E7 hr11
  refine Zc (Zs (Zm ?_))
  have hM2 : CoM L cf.G w7 cf.s := CoM.same hSM (ZV.of_non hXr fun _ _ => rfl)
  obtain ⟨⟨lv, lo, rows, lmv, q1, q2, q3, q4, q5, q6, q7⟩, q8⟩ := hM2.lg
  obtain ⟨cs, rfl, hTold⟩ := told_of q4 q5
  have hXs37 := hX.size
  refine Zw zE rfl (calls_w w7 cs q1.1 q2 (by have := hTold.1; omega)) ?_; intro v37 w8 E8 hR8
  replace hX := hX.tr E8
  replace B11 := Zx B11 E8
  replace hXr := hXr.tr E8
  obtain ⟨u1, oo, rfl, hC, hoo⟩ := hR8
  refine Zm ?_
  refine Zb (ZM rfl rfl) (Zb (ZM rfl rfl) (Za (Za ?_)))
  refine Zc (ZC (Qq mixed ?_)); intro w9 E9
  replace hX := hX.tr E9
  replace B11 := Zx B11 E9
  replace hXr := hXr.tr E9
  replace hC := hC.ext E9 (fun _ _ h => h)
  have hS := Ext.refl Non w9
  refine Zd 0 rfl hS Zy ?_
  refine Zd 1 rfl hS Zy ?_
  refine Zd 2 rfl hS Zy ?_
  refine wd_split (d := 42) rfl (fun hg42 => ?_) (fun hg42 => ?_)
  ·refine Zd 3 rfl hS (Z7 rfl (Zcb hg42) fun A hA => Zf f_44_2 rfl) (Zd 4 rfl hS (Z7 rfl (Zcb hg42) fun A hA => Zi p_33 rfl (B11.ext hA id) rfl) (Zd 5 rfl hS (Z7 rfl (Zcb hg42) fun A hA => Xc rfl rfl) (Zd 6 rfl hS (ZG fun A hA => Z8 (Zcb hg42) (by conv => lhs; whnf)) ?_)))
   refine Zd 7 rfl hS (ZG fun A hA => Xm (by conv => lhs; whnf)) ?_
   refine Zd 8 rfl hS (ZG fun A hA => Xm (by conv => lhs; whnf)) ?_
   refine Xw (by kernel_rfl) ?_ _
   replace hX := hX.tr hS
   replace B11 := Zx B11 hS
   replace hXr := hXr.tr hS
   replace hC := hC.ext hS (fun _ _ h => h)
   refine ZB ?_
   exact ⟨_, Qd (Zh rfl) (Zh rfl), hX, ⟨u1, oo, cs, cf.ps, cf.s, L, cf.G, congrArg (fun b => Value.tuple #[u1, .bool b]) (show decide ((0 : Int) = 0) = _ from by rw [hg42]; rfl), hC, fun j hj => Zle hXs37 (hoo j hj), hTold, hInvF, hdone, hlenF.trans (plans_len _ _), rfl, hLO, CoM.same hSM (ZV.of_non hXr fun _ _ => rfl), fun j hj hn => (hTF j (by omega)).trans ((hT j (by omega)).trans (hG0 j hj hn))⟩⟩
  ·refine Zd 3 rfl hS (Qt rfl (Zcb hg42)) (Zd 4 rfl hS (Qt rfl (Zcb hg42)) (Zd 5 rfl hS (Qt rfl (Zcb hg42)) (Zd 6 rfl hS (ZG fun A hA => ZQ (Zcb hg42) (by conv => lhs; whnf)) ?_)))
   refine Zd 7 rfl hS (ZG fun A hA => Xm (by conv => lhs; whnf)) ?_
   refine Zd 8 rfl hS (ZG fun A hA => Xm (by conv => lhs; whnf)) ?_
   refine Xw (by kernel_rfl) ?_ _
   replace hX := hX.tr hS
   replace B11 := Zx B11 hS
   replace hXr := hXr.tr hS
   replace hC := hC.ext hS (fun _ _ h => h)
   refine ZB ?_
   exact ⟨_, Qd (Zh rfl) (Zh rfl), hX, ⟨u1, oo, cs, cf.ps, cf.s, L, cf.G, congrArg (fun b => Value.tuple #[u1, .bool b]) hg42.symm, hC, fun j hj => Zle hXs37 (hoo j hj), hTold, hInvF, hdone, hlenF.trans (plans_len _ _), rfl, hLO, CoM.same hSM (ZV.of_non hXr fun _ _ => rfl), fun j hj hn => (hTF j (by omega)).trans ((hT j (by omega)).trans (hG0 j hj hn))⟩⟩
def OneI (t : St) (ps : List (Xv St)) (s : St) : Prop := ∃ p, ps = [p] ∧ p.exec s = some t
def oneM (ps : List (Xv St)) (s : St) : Nat := match ps with | [p] => p.moves s | _ => 0
theorem one_sched (t : St) : Sched (OneI t) oneM := by
 refine ⟨fun ps s i pre ok st nx h hp => ?_, fun ps s h hl => ?_⟩
 ·obtain ⟨p, rfl, he⟩ := h
  have h0 : i = 0 := by have := (List.getElem?_eq_some_iff.1 hp).1; simp at this; omega
  subst h0
  cases hp
  have he' : (if pre s && ok s then (nx s).exec (st s) else none) = some t := he
  by_cases hc : (pre s && ok s) = true
  ·rw [if_pos hc] at he'
   rw [Bool.and_eq_true] at hc
   exact ⟨hc.1, fun _ => ⟨⟨nx s, rfl, he'⟩, Nat.lt_succ_self _⟩⟩
  ·rw [if_neg hc] at he'; cases he'
 ·obtain ⟨p, rfl, he⟩ := h
  cases p with
  | done => simp [Xv.isMk] at hl
  | mk pre ok st nx =>
   refine ⟨0, pre, ok, st, nx, rfl, ?_⟩
   have he' : (if pre s && ok s then (nx s).exec (st s) else none) = some t := he
   by_cases hc : (pre s && ok s) = true
   ·rw [Bool.and_eq_true] at hc; exact hc.2
   ·rw [if_neg hc] at he'; cases he'
theorem one_end {t : St} {ps : List (Xv St)} {s : St} (h : OneI t ps s) (hd : ps.any Xv.isMk = false) : s = t := by
 obtain ⟨p, rfl, he⟩ := h
 cases p with
 | done => cases he; rfl
 | mk pre ok st nx => simp [Xv.isMk] at hd
def awO1 : OpD := ⟨1, 1, [35], [], false⟩
def awO2 : OpD := ⟨3, 0, [97], [], false⟩
def awP : Xv St := (QM 0 [awO1, awO2] (st00 1 1)).pl
def awS : Option St := awP.exec (st00 1 1)
def awG (s : St) : Bool := match s.log with | [a, b] => decide (b.ans = ⟨0, 1, 0, JX⟩) && (decide (a.to_ ≠ 0) && decide (b.to_ ≠ 0)) | _ => false
theorem aw_ex : ∃ t a b, awS = some t ∧ t.log = [a, b] ∧ b.ans = ⟨0, 1, 0, JX⟩ ∧ a.to_ ≠ 0 ∧ b.to_ ≠ 0 := by
 have h : (match awS with | some s => awG s | none => false) = true := by kernel_rfl
 cases ht : awS with
 | none => rw [ht] at h; cases h
 | some t =>
  rw [ht] at h
  have h : awG t = true := h
  unfold awG at h
  split at h
  ·rename_i a b hl
   simp only [Bool.and_eq_true, decide_eq_true_eq] at h
   exact ⟨t, a, b, rfl, hl, h.1, h.2.1, h.2.2⟩
  ·cases h
def mvB (p : Xv St) (s : St) (n : Nat) : Bool := Nat.ble (p.moves s) n
theorem mvB_le {p : Xv St} {s : St} {n : Nat} (h : mvB p s n = true) : p.moves s ≤ n := Nat.le_of_ble_eq_true h
theorem aw_bt : mvB awP (st00 1 1) 65536 = true := by kernel_rfl
theorem aw_moves : awP.moves (st00 1 1) ≤ 65536 := mvB_le aw_bt
theorem told_two {cs : List Z4} {a b : Z4} (h : Told cs [a, b]) : ∃ p q, cs = [{ a with place := p }, { b with place := q }] := by
 obtain ⟨h1, h2⟩ := h
 obtain ⟨p, hp⟩ := h2 0 a rfl
 obtain ⟨q, hq⟩ := h2 1 b rfl
 match cs, h1, hp, hq with
 | [x, y], _, hp, hq => simp at hp hq; exact ⟨p, q, by rw [hp, hq]⟩
theorem sumN_set {α : Type} (f : α → Nat) : ∀ (l : List α) (i : Nat) (x y : α), l[i]? = some x → ((l.set i y).map f).sum + f x = (l.map f).sum + f y
 | [], i, x, y, h => by simp at h
 | a :: l, 0, x, y, h => by
  simp at h; subst h
  simp only [List.set_cons_zero, List.map_cons, List.sum_cons]; omega
 | a :: l, i + 1, x, y, h => by
  have := sumN_set f l i x y (by simpa using h)
  simp only [List.set_cons_succ, List.map_cons, List.sum_cons]; omega
theorem JG {α : Type} (f : α → Int) : ∀ (l : List α) (i : Nat) (x y : α), l[i]? = some x → ((l.set i y).map f).sum + f x = (l.map f).sum + f y
 | [], i, x, y, h => by simp at h
 | a :: l, 0, x, y, h => by
  simp at h; subst h
  simp only [List.set_cons_zero, List.map_cons, List.sum_cons]; omega
 | a :: l, i + 1, x, y, h => by
  have := JG f l i x y (by simpa using h)
  simp only [List.set_cons_succ, List.map_cons, List.sum_cons]; omega
theorem sumN_le {α : Type} (f : α → Nat) (k : Nat) : ∀ l : List α, (∀ x ∈ l, f x ≤ k) → (l.map f).sum ≤ k * l.length
 | [], _ => by simp
 | a :: l, h => by
  have h1 := sumN_le f k l fun x hx => h x (List.mem_cons_of_mem _ hx)
  have h2 := h a List.mem_cons_self
  simp only [List.map_cons, List.sum_cons, List.length_cons, Nat.mul_add]; omega
def payO (i : Nat) : UInt8 := UInt8.ofNat (65 + i)
def Xx (i : Nat) : OpD := ⟨3, 0, [97], [payO i], false⟩
def msgO (i : Nat) : XI := ⟨[97], [payO i], false⟩
structure Ph where
 k : Nat
 c : Nat
 a : Bool
def abP (p : Ph) : Int × Int := if p.a = true then (1, 0) else (0, 1)
abbrev QL (i : Nat) : Nat × Xl → St → Out St := Qw i []
def rtO : Int × Int := (2, 0)
def QT (i : Nat) (p : Ph) : Xv St :=
 match p.k with
 | 0 => doP (Xp (Jj i (Xx i)) (pDo i (QL i) (Xx i)) ())
 | 1 => doP (Xp (fPin i) (pLook2 i (QL i) (Xx i)) (p.c, ((0 : Int), (0 : Int))))
 | 2 => doP fun s => pLook21 i (QL i) (Xx i) ((p.c, ((0 : Int), (0 : Int))), s.root) s
 | 3 => doP (Xp (fMatch (Xx i) rtO) (QZ i (QL i) (Xx i) rtO) (p.c, ((0 : Int), (0 : Int))))
 | 4 => lockP (St.lockB 5) fun s => pAgain i (QL i) (Xx i) [2] [5] rtO (p.c, ((0 : Int), (0 : Int))) (St.lock ((i : Int) + 1) 5 s)
 | 5 => doP fun s => JT i (QL i) (Xx i) [2] [5] rtO ((p.c, ((0 : Int), (0 : Int))), s.root) s
 | 6 => doP (Xp (fOff (Xx i) 2) (QC (Xx i) (pFree i (QL i) [5]) []) (p.c, ((0 : Int), (0 : Int))))
 | 7 => doP fun s => pLeave i (pAns (QL i)) (p.c, abP p) (St.unlock ((i : Int) + 1) 5 s)
 | 8 => doP (Xp (fUnpin i) (pColl (pAns (QL i))) (p.c, abP p))
 | 9 => doP (Xp fAdv (pAns (QL i)) (p.c, abP p))
 | 10 => doP (QL i (p.c, Jq (abP p)))
 | _ => .done
def phN (p : Ph) (s : St) : Ph :=
 match p.k with
 | 0 => ⟨1, s.log.length + 1, false⟩
 | 6 => ⟨7, p.c, s.putB 2⟩
 | k => ⟨k + 1, p.c, p.a⟩
def phS (i : Nat) (p : Ph) (s : St) : St :=
 match p.k with
 | 0 => s.begin (i : Nat) (Xx i)
 | 1 => s.pinT i
 | 4 => St.lock ((i : Int) + 1) 5 s
 | 6 => s.put 2 (msgO i)
 | 7 => St.unlock ((i : Int) + 1) 5 s
 | 8 => s.unpinT i
 | 9 => s.adv
 | 10 => s.end_ p.c (Jq (abP p))
 | _ => s
def alP (i : Nat) (p : Ph) (s : St) : Bool :=
 match p.k with
 | 0 => s.beginA
 | 1 => s.pinA i
 | 3 => St.readA rtO s
 | 6 => s.putA 2
 | 8 => s.unpinA i
 | 9 => s.advA
 | 10 => s.endA p.c
 | _ => true
def okP (p : Ph) (s : St) : Bool := match p.k with | 4 => St.lockB 5 s | _ => true
def Loc (s : St) : Prop := s.root = rtO ∧ Js (St.readT rtO s) [97] = [2]
theorem plan25 : QB [] [2] = [5] := by kernel_rfl
theorem pub_once (i : Nat) : pubA (Xx i) = true := by kernel_rfl
theorem ph_step (i : Nat) (p : Ph) (s : St) {pre ok : St → Bool} {st : St → St} {nx : St → Xv St} (h : QT i p = .mk pre ok st nx) (hL : p.k ≤ 5 → Loc s) :
  p.k ≤ 10 ∧ nx s = QT i (phN p s) ∧ st s = phS i p s ∧ ok s = okP p s ∧ (alP i p s = true → pre s = true) := by
 obtain ⟨k, c, a⟩ := p
 match k with
 | 0 =>
  cases h
  exact ⟨of_decide_eq_true rfl, rfl, rfl, rfl, fun ha => by
   have e : (Xp (Jj i (Xx i)) (pDo i (QL i) (Xx i)) () s).al = (s.beginA && pubA (Xx i)) := rfl
   show (Xp (Jj i (Xx i)) (pDo i (QL i) (Xx i)) () s).al = true
   rw [e, pub_once, Bool.and_true]; exact ha⟩
 | 1 =>
  cases h
  exact ⟨of_decide_eq_true rfl, rfl, rfl, rfl, fun ha => by
   have e : (Xp (fPin i) (pLook2 i (QL i) (Xx i)) (c, ((0 : Int), (0 : Int))) s).al = (s.pinA i && true) := rfl
   show (Xp (fPin i) (pLook2 i (QL i) (Xx i)) (c, ((0 : Int), (0 : Int))) s).al = true
   rw [e, Bool.and_true]; exact ha⟩
 | 2 =>
  cases h
  have hr := (hL (of_decide_eq_true rfl)).1
  refine ⟨of_decide_eq_true rfl, ?_, rfl, rfl, fun _ => rfl⟩
  show (doP (Xp (fMatch (Xx i) s.root) (QZ i (QL i) (Xx i) s.root) (c, ((0 : Int), (0 : Int))))) = _
  rw [hr]; rfl
 | 3 =>
  cases h
  have hr := (hL (of_decide_eq_true rfl)).2
  have e : Xp (fMatch (Xx i) rtO) (QZ i (QL i) (Xx i) rtO) (c, ((0 : Int), (0 : Int))) s = ⟨St.readA rtO s && (QZ i (QL i) (Xx i) rtO ((c, ((0 : Int), (0 : Int))), Js (St.readT rtO s) [97]) s).al, (QZ i (QL i) (Xx i) rtO ((c, ((0 : Int), (0 : Int))), Js (St.readT rtO s) [97]) s).st, (QZ i (QL i) (Xx i) rtO ((c, ((0 : Int), (0 : Int))), Js (St.readT rtO s) [97]) s).pl⟩ := rfl
  have e2 : QZ i (QL i) (Xx i) rtO ((c, ((0 : Int), (0 : Int))), [2]) s = ⟨true, s, lockP (St.lockB 5) fun s => pAgain i (QL i) (Xx i) [2] [5] rtO (c, ((0 : Int), (0 : Int))) (St.lock ((i : Int) + 1) 5 s)⟩ := by
   unfold QZ; rw [plan25]; rfl
  refine ⟨of_decide_eq_true rfl, ?_, ?_, rfl, fun ha => ?_⟩
  ·show (Xp (fMatch (Xx i) rtO) (QZ i (QL i) (Xx i) rtO) (c, ((0 : Int), (0 : Int))) s).pl = _
   rw [e, hr, e2]; rfl
  ·show (Xp (fMatch (Xx i) rtO) (QZ i (QL i) (Xx i) rtO) (c, ((0 : Int), (0 : Int))) s).st = _
   rw [e, hr, e2]; rfl
  ·show (Xp (fMatch (Xx i) rtO) (QZ i (QL i) (Xx i) rtO) (c, ((0 : Int), (0 : Int))) s).al = _
   rw [e, hr, e2]
   show (St.readA rtO s && true) = true
   rw [Bool.and_true]; exact ha
 | 4 =>
  cases h
  exact ⟨of_decide_eq_true rfl, rfl, rfl, rfl, fun _ => by
   show (!(St.lockB 5 s) || true) = true
   rw [Bool.or_true]⟩
 | 5 =>
  cases h
  have hr := (hL (of_decide_eq_true rfl)).1
  have e : JT i (QL i) (Xx i) [2] [5] rtO ((c, ((0 : Int), (0 : Int))), s.root) s = ⟨true, s, doP (Xp (fOff (Xx i) 2) (QC (Xx i) (pFree i (QL i) [5]) []) (c, ((0 : Int), (0 : Int))))⟩ := by
   unfold JT; rw [if_pos hr]; rfl
  refine ⟨of_decide_eq_true rfl, ?_, ?_, rfl, fun _ => ?_⟩
  ·show (JT i (QL i) (Xx i) [2] [5] rtO ((c, ((0 : Int), (0 : Int))), s.root) s).pl = _
   rw [e]; rfl
  ·show (JT i (QL i) (Xx i) [2] [5] rtO ((c, ((0 : Int), (0 : Int))), s.root) s).st = _
   rw [e]; rfl
  ·show (JT i (QL i) (Xx i) [2] [5] rtO ((c, ((0 : Int), (0 : Int))), s.root) s).al = _
   rw [e]
 | 6 =>
  cases h
  have e : Xp (fOff (Xx i) 2) (QC (Xx i) (pFree i (QL i) [5]) []) (c, ((0 : Int), (0 : Int))) s = ⟨s.putA 2 && true && true, s.put 2 (msgO i), doP fun s' => pLeave i (pAns (QL i)) (c, offT (s.putB 2) (0, 0)) (St.unlock ((i : Int) + 1) 5 s')⟩ := rfl
  have e2 : offT (s.putB 2) (0, 0) = abP ⟨7, c, s.putB 2⟩ := by cases s.putB 2 <;> rfl
  refine ⟨of_decide_eq_true rfl, ?_, rfl, rfl, fun ha => ?_⟩
  ·show (Xp (fOff (Xx i) 2) (QC (Xx i) (pFree i (QL i) [5]) []) (c, ((0 : Int), (0 : Int))) s).pl = _
   show (doP fun s' => pLeave i (pAns (QL i)) (c, offT (s.putB 2) (0, 0)) (St.unlock ((i : Int) + 1) 5 s')) = _
   rw [e2]; rfl
  ·show (Xp (fOff (Xx i) 2) (QC (Xx i) (pFree i (QL i) [5]) []) (c, ((0 : Int), (0 : Int))) s).al = _
   show (s.putA 2 && true && true) = true
   rw [Bool.and_true, Bool.and_true]; exact ha
 | 7 => cases h; exact ⟨of_decide_eq_true rfl, rfl, rfl, rfl, fun _ => rfl⟩
 | 8 =>
  cases h
  exact ⟨of_decide_eq_true rfl, rfl, rfl, rfl, fun ha => by show (s.unpinA i && true) = true; rw [Bool.and_true]; exact ha⟩
 | 9 =>
  cases h
  exact ⟨of_decide_eq_true rfl, rfl, rfl, rfl, fun ha => by show (s.advA && true) = true; rw [Bool.and_true]; exact ha⟩
 | 10 =>
  cases h
  exact ⟨of_decide_eq_true rfl, rfl, rfl, rfl, fun ha => by show (s.endA c && true) = true; rw [Bool.and_true]; exact ha⟩
 | k + 11 => cases h
theorem ph_mk {i : Nat} {p : Ph} (h : p.k ≤ 10) : ∃ pre ok st nx, QT i p = .mk pre ok st nx := by
 obtain ⟨k, c, a⟩ := p
 match k, h with
 | 0, _ | 1, _ | 2, _ | 3, _ | 4, _ | 5, _ | 6, _ | 7, _ | 8, _ | 9, _ | 10, _ => exact ⟨_, _, _, _, rfl⟩
 | k + 11, h => exact absurd h (by show ¬ k + 11 ≤ 10; omega)
theorem ph_done {i : Nat} {p : Ph} (h : ¬ p.k ≤ 10) : QT i p = .done := by
 obtain ⟨k, c, a⟩ := p
 match k, h with
 | 0, h | 1, h | 2, h | 3, h | 4, h | 5, h | 6, h | 7, h | 8, h | 9, h | 10, h => exact absurd (of_decide_eq_true rfl) h
 | k + 11, h => rfl
theorem phN_k (p : Ph) (s : St) : (phN p s).k = p.k + 1 := by
 obtain ⟨k, c, a⟩ := p
 match k with
 | 0 | 1 | 2 | 3 | 4 | 5 | 6 | 7 | 8 | 9 | 10 | 11 => rfl
 | k + 12 => rfl
theorem loc_nx {i : Nat} {p : Ph} {s : St} (h : Loc s) (hk : p.k ≤ 5) : Loc (phS i p s) := by
 obtain ⟨k, c, a⟩ := p
 match k, hk with
 | 0, _ | 1, _ | 2, _ | 3, _ | 4, _ | 5, _ => exact h
 | k + 6, hk => exact absurd hk (by show ¬ k + 6 ≤ 5; omega)
theorem ph_moves (i : Nat) : ∀ (d : Nat) (p : Ph) (s : St), 11 - p.k = d → (p.k ≤ 5 → Loc s) → (QT i p).moves s = d
 | 0, p, s, h, _ => by rw [ph_done (by omega)]; rfl
 | d + 1, p, s, h, hL => by
  obtain ⟨pre, ok, st, nx, e⟩ := ph_mk (i := i) (p := p) (by omega)
  obtain ⟨h1, h2, h3, _, _⟩ := ph_step i p s e hL
  rw [e]
  show (nx s).moves (st s) + 1 = d + 1
  rw [h2, h3, ph_moves i d (phN p s) (phS i p s) (by rw [phN_k]; omega) fun hk => by
   rw [phN_k] at hk
   exact loc_nx (hL (by omega)) (by omega)]
section
theorem Ju {α : Type} {l : List α} {i j : Nat} {x y z : α} (hp : l[i]? = some x) (h : (l.set i y)[j]? = some z) : (j = i ∧ z = y) ∨ (j ≠ i ∧ l[j]? = some z) := by
 by_cases e : i = j
 ·subst e
  rw [List.getElem?_set_self (List.getElem?_eq_some_iff.1 hp).1] at h
  cases h; exact .inl ⟨rfl, rfl⟩
 ·rw [List.getElem?_set_ne e] at h; exact .inr ⟨Ne.symm e, h⟩
theorem get_set {α : Type} {l : List α} {i : Nat} {x y : α} (hp : l[i]? = some x) : (l.set i y)[i]? = some y := List.getElem?_set_self (List.getElem?_eq_some_iff.1 hp).1
structure RgI (room g : Nat) (msgs : List XI) (q : RgD) : Prop where
 rm : 1 ≤ room ∧ room ≤ 16
 len : q.slots.length = room
 puts : q.puts = (msgs.length : Nat)
 gets : q.gets = (g : Nat)
 le : g ≤ msgs.length ∧ msgs.length ≤ room
 got : ∀ j, j < g → ∃ m, q.slots[j]? = some (m, 2 * ((j : Int) + room))
 old : ∀ (j : Nat) m, g ≤ j → msgs[j]? = some m → q.slots[j]? = some (m, 2 * (j : Int) + 1)
 new : ∀ j, msgs.length ≤ j → j < room → ∃ m, q.slots[j]? = some (m, 2 * (j : Int))
 dr : 0 ≤ q.drops ∧ (0 < q.drops → msgs.length = room)
theorem RgI.putB {room : Nat} {msgs : List XI} {q : RgD} (h : RgI room 0 msgs q) : q.putB = decide (msgs.length < room) := by
 have hr := h.rm; have hl := h.le
 unfold RgD.putB RgD.slot
 rw [h.puts, h.len, Int.toNat_natCast]
 by_cases hlt : msgs.length < room
 ·obtain ⟨m, hm⟩ := h.new msgs.length (Nat.le_refl _) hlt
  rw [Nat.mod_eq_of_lt hlt, hm, decide_eq_true hlt]; exact decide_eq_true rfl
 ·have e : msgs.length = room := by omega
  obtain ⟨m, hm⟩ : ∃ m, msgs[0]? = some m := ⟨_, List.getElem?_eq_getElem (by omega)⟩
  rw [e, Nat.mod_self, h.old 0 m (Nat.le_refl _) hm, decide_eq_false (by omega)]
  exact decide_eq_false (by show ¬ (2 * ((0 : Nat) : Int) + 1 = _); omega)
theorem RgI.put_yes {room : Nat} {msgs : List XI} {q : RgD} (h : RgI room 0 msgs q) (hlt : msgs.length < room) (m : XI) : RgI room 0 (msgs ++ [m]) (q.put m) ∧ (q.put m).drops = q.drops := by
 have hr := h.rm
 unfold RgD.put
 rw [if_pos (by rw [h.putB]; exact decide_eq_true hlt), h.puts, h.len, Int.toNat_natCast, Nat.mod_eq_of_lt hlt]
 refine ⟨⟨h.rm, by simp [h.len], by simp, h.gets, by simp; omega, fun j hj => by omega, fun j m' h0 hm => ?_, fun j h1 h2 => ?_, h.dr.1, fun hd => by have := h.dr.2 hd; omega⟩, rfl⟩
 ·show (q.slots.set msgs.length _)[j]? = _
  by_cases e : msgs.length = j
  ·subst e
   rw [List.getElem?_append_right (Nat.le_refl _), Nat.sub_self] at hm
   cases hm
   rw [List.getElem?_set_self (by rw [h.len]; exact hlt)]
  ·rw [List.getElem?_set_ne e]
   have hj := (List.getElem?_eq_some_iff.1 hm).1
   simp only [List.length_append, List.length_singleton] at hj
   rw [List.getElem?_append_left (by omega)] at hm
   exact h.old j m' h0 hm
 ·show ∃ m', (q.slots.set msgs.length _)[j]? = _
  simp only [List.length_append, List.length_singleton] at h1
  rw [List.getElem?_set_ne (by omega)]
  exact h.new j (by omega) h2
theorem RgI.put_no {room : Nat} {msgs : List XI} {q : RgD} (h : RgI room 0 msgs q) (hlt : ¬ msgs.length < room) (m : XI) : RgI room 0 msgs (q.put m) ∧ (q.put m).drops = q.drops + 1 := by
 have hl := h.le; have hd := h.dr.1
 unfold RgD.put
 rw [if_neg (by rw [h.putB, decide_eq_false hlt]; decide)]
 exact ⟨⟨h.rm, h.len, h.puts, h.gets, h.le, h.got, h.old, h.new, by show 0 ≤ q.drops + 1; omega, fun _ => by omega⟩, rfl⟩
def Jo : Option Nat → List Int
 | none => List.replicate 12 0
 | some j => (List.replicate 12 0).set 5 ((j : Int) + 1)
def OwnI (n : Nat) (phs : List Ph) (own : List Int) : Prop := ∃ h : Option Nat, own = Jo h ∧ (∀ j, h = some j → j < n) ∧ ∀ (j : Nat) p, phs[j]? = some p → ((5 ≤ p.k ∧ p.k ≤ 7) ↔ h = some j)
section
variable {n i : Nat} {phs : List Ph} {p p' : Ph}
theorem OwnI.keep {own : List Int} (h : OwnI n phs own) (hp : phs[i]? = some p) (hk : (5 ≤ p.k ∧ p.k ≤ 7) ↔ (5 ≤ p'.k ∧ p'.k ≤ 7)) : OwnI n (phs.set i p') own := by
 obtain ⟨o, h1, h2, h3⟩ := h
 refine ⟨o, h1, h2, fun j q hq => ?_⟩
 rcases Ju hp hq with ⟨rfl, rfl⟩ | ⟨_, hq⟩
 ·exact hk.symm.trans (h3 _ _ hp)
 ·exact h3 _ _ hq
theorem OwnI.lock {s : St} (h : OwnI n phs s.own) (hp : phs[i]? = some p) (hi : i < n) (hB : St.lockB 5 s = true) (hk : p'.k = 5) : OwnI n (phs.set i p') (St.lock ((i : Int) + 1) 5 s).own := by
 obtain ⟨o, h1, h2, h3⟩ := h
 have hB' : s.own[5]? = some 0 := of_decide_eq_true hB
 have hn : o = none := by
  cases o with
  | none => rfl
  | some j =>
   rw [h1] at hB'
   have e : (Jo (some j))[5]? = some ((j : Int) + 1) := rfl
   rw [e] at hB'
   have := Option.some.inj hB'
   omega
 subst hn
 refine ⟨some i, ?_, fun j hj => by cases hj; exact hi, fun j q hq => ?_⟩
 ·show s.own.set 5 ((i : Int) + 1) = _
  rw [h1]; rfl
 ·rcases Ju hp hq with ⟨rfl, rfl⟩ | ⟨hne, hq⟩
  ·exact ⟨fun _ => rfl, fun _ => by omega⟩
  ·refine ⟨fun h => ?_, fun h => absurd (Option.some.inj h).symm hne⟩
   have := (h3 _ _ hq).1 h; cases this
theorem OwnI.free {s : St} (h : OwnI n phs s.own) (hp : phs[i]? = some p) (hk : p.k = 7) (hk' : p'.k = 8) : OwnI n (phs.set i p') (St.unlock ((i : Int) + 1) 5 s).own := by
 obtain ⟨o, h1, h2, h3⟩ := h
 have ho := (h3 _ _ hp).1 (by omega)
 subst ho
 have e : s.own[((5 : Int)).toNat]? = some ((i : Int) + 1) := by rw [h1]; rfl
 refine ⟨none, ?_, fun j hj => (by cases hj), fun j q hq => ?_⟩
 ·unfold St.unlock
  rw [if_pos e]
  show s.own.set 5 0 = _
  rw [h1]; rfl
 ·rcases Ju hp hq with ⟨rfl, rfl⟩ | ⟨hne, hq⟩
  ·exact ⟨fun h => by omega, fun h => by cases h⟩
  ·refine ⟨fun h => ?_, fun h => by cases h⟩
   have := (h3 _ _ hq).1 h
   exact absurd (Option.some.inj this).symm hne
def PinI (phs : List Ph) (pin : List Int) : Prop := ∀ (j : Nat) p, phs[j]? = some p → (2 ≤ p.k → p.k ≤ 8 → ∃ x, pin[j]? = some x ∧ 0 ≤ x) ∧ (¬ (2 ≤ p.k ∧ p.k ≤ 8) → pin[j]? = some (-1))
theorem PinI.keep {pin : List Int} (h : PinI phs pin) (hp : phs[i]? = some p) (hk : (2 ≤ p.k ∧ p.k ≤ 8) ↔ (2 ≤ p'.k ∧ p'.k ≤ 8)) : PinI (phs.set i p') pin := by
 intro j q hq
 rcases Ju hp hq with ⟨rfl, rfl⟩ | ⟨_, hq⟩
 ·exact ⟨fun h1 h2 => (h _ _ hp).1 (hk.2 ⟨h1, h2⟩).1 (hk.2 ⟨h1, h2⟩).2, fun hn => (h _ _ hp).2 fun h => hn (hk.1 h)⟩
 ·exact h _ _ hq
theorem PinI.put {pin : List Int} {x y : Int} (h : PinI phs pin) (hp : phs[i]? = some p) (hy : pin[i]? = some y) (hk : (2 ≤ p'.k → p'.k ≤ 8 → 0 ≤ x) ∧ (¬ (2 ≤ p'.k ∧ p'.k ≤ 8) → x = -1)) : PinI (phs.set i p') (pin.set i x) := by
 intro j q hq
 rcases Ju hp hq with ⟨rfl, rfl⟩ | ⟨hne, hq⟩
 ·rw [get_set hy]
  exact ⟨fun h1 h2 => ⟨x, rfl, hk.1 h1 h2⟩, fun hn => by rw [hk.2 hn]⟩
 ·rw [List.getElem?_set_ne (Ne.symm hne)]; exact h _ _ hq
def muP (phs : List Ph) : Nat := (phs.map fun p : Ph => 11 - p.k).sum
theorem muP_nx (hp : phs[i]? = some p) (hk : p.k ≤ 10) (hk' : p'.k = p.k + 1) : muP (phs.set i p') + 1 = muP phs := by
 have := sumN_set (fun p : Ph => 11 - p.k) phs i p p' hp
 unfold muP; simp only [hk'] at this; omega
def trO : Tr := Tr.bare.put (spl 47 [43]) 2
def plsA : List PlD := [⟨.bare, 0, 0, true⟩, ⟨trO, 1, 0, true⟩]
def plsB : List PlD := [⟨.bare, 0, 1, false⟩, ⟨trO, 1, 0, true⟩]
def VerI (s : St) : Prop := (s.lim = [[1], [], []] ∧ s.pls = plsA ∧ s.free = []) ∨ (s.lim = [[], [], []] ∧ s.pls = plsB ∧ s.free = [1])
theorem reach_trO : Js trO [97] = [2] := by kernel_rfl
theorem VerI.loc {s : St} (h : VerI s) (hr : s.root = rtO) : Loc s := by
 refine ⟨hr, ?_⟩
 have e : St.readT rtO s = trO := by
  unfold St.readT
  rcases h with ⟨_, h, _⟩ | ⟨_, h, _⟩ <;> (rw [h]; rfl)
 rw [e]; exact reach_trO
theorem VerI.readA {s : St} (h : VerI s) : St.readA rtO s = true := by
 unfold St.readA
 rcases h with ⟨_, h, _⟩ | ⟨_, h, _⟩ <;> (rw [h]; rfl)
theorem three (n : Nat) : n % 3 = 0 ∨ n % 3 = 1 ∨ n % 3 = 2 := by omega
theorem VerI.advA {s : St} (h : VerI s) (hn : 0 ≤ s.now ∧ s.now ≤ 1000000000) : s.advA = true := by
 unfold St.advA St.nowA
 rw [decide_eq_true hn.1, decide_eq_true hn.2]
 rcases h with ⟨h1, h2, h3⟩ | ⟨h1, h2, h3⟩
 ·rcases three (s.now + 1).toNat with e | e | e <;> rw [h1, e]
  ·unfold St.giveA; rw [h3, h2]; simp; exact .inr rfl
  ·simp
  ·simp
 ·rcases three (s.now + 1).toNat with e | e | e <;> rw [h1, e] <;> simp
theorem VerI.adv {s : St} (h : VerI s) : ∃ now lim pls free, s.adv = { s with now := now, lim := lim, pls := pls, free := free } ∧ VerI { s with now := now, lim := lim, pls := pls, free := free } ∧ s.now ≤ now ∧ now ≤ s.now + 1 := by
 unfold St.adv
 by_cases hh : s.held = true
 ·rw [if_pos hh]; exact ⟨s.now, s.lim, s.pls, s.free, rfl, h, by omega, by omega⟩
 ·rw [if_neg hh]
  rcases h with ⟨h1, h2, h3⟩ | ⟨h1, h2, h3⟩
  ·rcases three (s.now + 1).toNat with e | e | e <;> rw [h1, e]
   ·refine ⟨s.now + 1, [[], [], []], plsB, [1], ?_, .inr ⟨rfl, rfl, rfl⟩, by omega, by omega⟩
    show St.give 1 { s with now := s.now + 1, lim := [[], [], []] } = _
    unfold St.give
    show (match s.pls[0]? with | some q => ({ s with now := s.now + 1, lim := [[], [], []], pls := s.pls.set 0 ⟨.bare, 0, q.stamp + 1, false⟩, free := s.free ++ [1] } : St) | none => { s with now := s.now + 1, lim := [[], [], []] }) = _
    rw [h2, h3]; rfl
   ·exact ⟨s.now + 1, _, s.pls, s.free, rfl, .inl ⟨rfl, h2, h3⟩, by omega, by omega⟩
   ·exact ⟨s.now + 1, _, s.pls, s.free, rfl, .inl ⟨rfl, h2, h3⟩, by omega, by omega⟩
  ·rcases three (s.now + 1).toNat with e | e | e <;> rw [h1, e] <;> exact ⟨s.now + 1, _, s.pls, s.free, rfl, .inr ⟨rfl, h2, h3⟩, by omega, by omega⟩
def JW (p : Ph) : Nat := if p.k = 0 then 0 else 1
structure LogI (phs : List Ph) (log : List Z4) : Prop where
 l1 : ∀ (j : Nat) p, phs[j]? = some p → 1 ≤ p.k → p.k ≤ 10 → 1 ≤ p.c ∧ ∃ q, log[p.c - 1]? = some q ∧ q.thread = (j : Nat) ∧ q.to_ = 0
 l2 : ∀ (x : Nat) q, log[x]? = some q → (q.to_ = 0 ∧ q.ans = Jq (0, 0) ∧ ∃ (j : Nat) (p : Ph), phs[j]? = some p ∧ 1 ≤ p.k ∧ p.k ≤ 10 ∧ p.c = x + 1) ∨ (q.to_ ≠ 0 ∧ ∃ b : Bool, q.ans = Jq (if b = true then (1, 0) else (0, 1)))
 l3 : log.length = (phs.map JW).sum
theorem LogI.keep {log : List Z4} (h : LogI phs log) (hp : phs[i]? = some p) (h1 : 1 ≤ p.k) (h2 : p'.k = p.k + 1) (h3 : p'.k ≤ 10) (hc : p'.c = p.c) : LogI (phs.set i p') log := by
 refine ⟨fun j q hq k1 k2 => ?_, fun x q hq => ?_, ?_⟩
 ·rcases Ju hp hq with ⟨rfl, rfl⟩ | ⟨_, hq⟩
  ·rw [hc]; exact h.l1 _ _ hp h1 (by omega)
  ·exact h.l1 _ _ hq k1 k2
 ·rcases h.l2 x q hq with ⟨a1, a2, j, r, a3, a4, a5, a6⟩ | a
  ·refine .inl ⟨a1, a2, ?_⟩
   by_cases e : i = j
   ·subst e
    rw [hp] at a3; cases a3
    exact ⟨i, p', get_set hp, by omega, h3, hc.trans a6⟩
   ·exact ⟨j, r, by rw [List.getElem?_set_ne e]; exact a3, a4, a5, a6⟩
  ·exact .inr a
 ·have := sumN_set JW phs i p p' hp
  have e1 : JW p = 1 := if_neg (by omega)
  have e2 : JW p' = 1 := if_neg (by omega)
  rw [h.l3]; omega
theorem LogI.begin {log : List Z4} (h : LogI phs log) (hp : phs[i]? = some p) (h1 : p.k = 0) (h2 : p'.k = 1) (hc : p'.c = log.length + 1) {c : Z4} (hc1 : c.thread = (i : Nat)) (hc2 : c.to_ = 0) (hc3 : c.ans = Jq (0, 0)) : LogI (phs.set i p') (log ++ [c]) := by
 refine ⟨fun j q hq k1 k2 => ?_, fun x q hq => ?_, ?_⟩
 ·rcases Ju hp hq with ⟨rfl, rfl⟩ | ⟨_, hq⟩
  ·rw [hc]
   exact ⟨by omega, c, by rw [Nat.add_sub_cancel, List.getElem?_append_right (Nat.le_refl _), Nat.sub_self]; rfl, hc1, hc2⟩
  ·obtain ⟨a1, r, a2, a3⟩ := h.l1 _ _ hq k1 k2
   exact ⟨a1, r, by rw [List.getElem?_append_left (List.getElem?_eq_some_iff.1 a2).1]; exact a2, a3⟩
 ·by_cases hx : x < log.length
  ·rw [List.getElem?_append_left hx] at hq
   rcases h.l2 x q hq with ⟨a1, a2, j, r, a3, a4, a5, a6⟩ | a
   ·refine .inl ⟨a1, a2, j, r, ?_, a4, a5, a6⟩
    rw [List.getElem?_set_ne (fun e => by subst e; rw [hp] at a3; cases a3; omega)]; exact a3
   ·exact .inr a
  ·have hl := (List.getElem?_eq_some_iff.1 hq).1
   simp only [List.length_append, List.length_singleton] at hl
   obtain rfl : x = log.length := by omega
   rw [List.getElem?_append_right (Nat.le_refl _), Nat.sub_self] at hq
   cases hq
   exact .inl ⟨hc2, hc3, i, p', get_set hp, by omega, by omega, hc⟩
 ·have := sumN_set JW phs i p p' hp
  have e1 : JW p = 0 := if_pos h1
  have e2 : JW p' = 1 := if_neg (by omega)
  rw [List.length_append, h.l3, List.length_singleton]; omega
theorem LogI.done {log : List Z4} (h : LogI phs log) (hp : phs[i]? = some p) (h1 : p.k = 10) (h2 : p'.k = 11) {q : Z4} (hq : log[p.c - 1]? = some q) {a : Xl} {t : Int} (ht : t ≠ 0) {b : Bool} (ha : a = Jq (if b = true then (1, 0) else (0, 1))) : LogI (phs.set i p') (log.set (p.c - 1) { q with ans := a, to_ := t }) := by
 obtain ⟨b1, q', b2, b3, b4⟩ := h.l1 _ _ hp (by omega) (by omega)
 rw [hq] at b2; cases b2
 refine ⟨fun j r hr k1 k2 => ?_, fun x r hr => ?_, ?_⟩
 ·rcases Ju hp hr with ⟨rfl, rfl⟩ | ⟨hne, hr⟩
  ·omega
  ·obtain ⟨a1, r', a2, a3, a4⟩ := h.l1 _ _ hr k1 k2
   refine ⟨a1, r', ?_, a3, a4⟩
   rw [List.getElem?_set_ne]; exact a2
   intro e
   rw [← e, hq] at a2; cases a2
   rw [b3] at a3; omega
 ·rcases Ju hq hr with ⟨rfl, rfl⟩ | ⟨hne, hr⟩
  ·exact .inr ⟨ht, b, ha⟩
  ·rcases h.l2 x r hr with ⟨a1, a2, j, r', a3, a4, a5, a6⟩ | a
   ·refine .inl ⟨a1, a2, j, r', ?_, a4, a5, a6⟩
    rw [List.getElem?_set_ne]; exact a3
    intro e
    subst e; rw [hp] at a3; cases a3; omega
   ·exact .inr a
 ·have := sumN_set JW phs i p p' hp
  have e1 : JW p = 1 := if_neg (by omega)
  have e2 : JW p' = 1 := if_neg (by omega)
  rw [List.length_set, h.l3]; omega
def cA (p : Ph) : Int := if 7 ≤ p.k ∧ p.k ≤ 10 ∧ p.a = true then 1 else 0
def cD (p : Ph) : Int := if 7 ≤ p.k ∧ p.k ≤ 10 ∧ p.a = false then 1 else 0
structure CntI (room n : Nat) (phs : List Ph) (log : List Z4) (msgs : List XI) (q : RgD) : Prop where
 rg : RgI room 0 msgs q
 mem : ∀ m ∈ msgs, ∃ (j : Nat) (p : Ph), phs[j]? = some p ∧ 7 ≤ p.k ∧ m = msgO j
 nd : msgs.Nodup
 ca : q.puts = (phs.map cA).sum + (log.map fun c : Z4 => c.ans.a).sum
 cd : q.drops = (phs.map cD).sum + (log.map fun c : Z4 => c.ans.b).sum
 bd : q.drops + (muP phs : Nat) ≤ 11 * n
theorem CntI.keep {room : Nat} {log log' : List Z4} {msgs : List XI} {q : RgD} (h : CntI room n phs log msgs q) (hp : phs[i]? = some p) (hk : p.k ≤ 10) (hk' : p'.k = p.k + 1)
  (ha : (log'.map fun c : Z4 => c.ans.a).sum + cA p' = (log.map fun c : Z4 => c.ans.a).sum + cA p) (hb : (log'.map fun c : Z4 => c.ans.b).sum + cD p' = (log.map fun c : Z4 => c.ans.b).sum + cD p) : CntI room n (phs.set i p') log' msgs q := by
 have ea := JG cA phs i p p' hp
 have eb := JG cD phs i p p' hp
 have em := muP_nx hp hk hk'
 have h1 := h.ca; have h2 := h.cd; have h3 := h.bd
 refine ⟨h.rg, fun m hm => ?_, h.nd, by omega, by omega, by omega⟩
 obtain ⟨j, r, a1, a2, a3⟩ := h.mem m hm
 by_cases e : i = j
 ·subst e
  rw [hp] at a1; cases a1
  exact ⟨i, p', get_set hp, by omega, a3⟩
 ·exact ⟨j, r, by rw [List.getElem?_set_ne e]; exact a1, a2, a3⟩
theorem payO_inj {i j : Nat} (hi : i < 16) (hj : j < 16) (h : payO i = payO j) : i = j := by
 unfold payO at h
 have := congrArg UInt8.toNat h
 rw [UInt8.toNat_ofNat', UInt8.toNat_ofNat'] at this
 omega
theorem CntI.put {room : Nat} {log : List Z4} {msgs : List XI} {q : RgD} (h : CntI room n phs log msgs q) (hp : phs[i]? = some p) (hk : p.k = 6) (hn : phs.length ≤ 16) (hk' : p'.k = 7) (hb : p'.a = q.putB) : ∃ msgs', CntI room n (phs.set i p') log msgs' (q.put (msgO i)) := by
 have hil := (List.getElem?_eq_some_iff.1 hp).1
 have ea := JG cA phs i p p' hp
 have eb := JG cD phs i p p' hp
 have em := muP_nx hp (by omega) (p' := p') (by omega)
 have e1 : cA p = 0 := if_neg (by omega)
 have e2 : cD p = 0 := if_neg (by omega)
 have h1 := h.ca; have h2 := h.cd; have h3 := h.bd
 have hmem : ∀ m ∈ msgs, ∃ j r, (phs.set i p')[j]? = some r ∧ 7 ≤ r.k ∧ m = msgO j := fun m hm => by
  obtain ⟨j, r, a1, a2, a3⟩ := h.mem m hm
  refine ⟨j, r, ?_, a2, a3⟩
  rw [List.getElem?_set_ne (fun e => by subst e; rw [hp] at a1; cases a1; omega)]; exact a1
 rw [h.rg.putB] at hb
 by_cases hlt : msgs.length < room
 ·rw [decide_eq_true hlt] at hb
  obtain ⟨k1, k2⟩ := h.rg.put_yes hlt (msgO i)
  have e3 : cA p' = 1 := if_pos ⟨by omega, by omega, hb⟩
  have e4 : cD p' = 0 := if_neg (by rw [hb]; simp)
  have k3 := k1.puts
  have k4 := h.rg.puts
  rw [List.length_append, List.length_singleton] at k3
  refine ⟨msgs ++ [msgO i], k1, fun m hm => ?_, ?_, by omega, by omega, by omega⟩
  ·rcases List.mem_append.1 hm with hm | hm
   ·exact hmem m hm
   ·rw [List.mem_singleton] at hm
    exact ⟨i, p', get_set hp, by omega, hm⟩
  ·rw [List.nodup_append]
   refine ⟨h.nd, by simp, fun m hm m' hm' e => ?_⟩
   rw [List.mem_singleton] at hm'
   subst hm'; subst e
   obtain ⟨j, r, a1, a2, a3⟩ := h.mem _ hm
   have hjl := (List.getElem?_eq_some_iff.1 a1).1
   have hpay : payO i = payO j := by
    have := congrArg XI.payload a3
    simpa [msgO] using this
   have := payO_inj (by omega) (by omega) hpay
   subst this
   rw [hp] at a1; cases a1; omega
 ·rw [decide_eq_false hlt] at hb
  obtain ⟨k1, k2⟩ := h.rg.put_no hlt (msgO i)
  have e3 : cA p' = 0 := if_neg (by rw [hb]; simp)
  have e4 : cD p' = 1 := if_pos ⟨by omega, by omega, hb⟩
  have k3 := k1.puts
  have k4 := h.rg.puts
  exact ⟨msgs, k1, hmem, h.nd, by omega, by omega, by omega⟩
end
end
section
structure PubI (room n : Nat) (phs : List Ph) (s : St) : Prop where
 len : phs.length = n
 n16 : n ≤ 16
 own : OwnI n phs s.own
 pin : PinI phs s.pin
 now : 1 ≤ s.now ∧ s.now + (muP phs : Nat) ≤ 1 + 11 * n
 lnow : 0 ≤ s.lnow ∧ s.lnow + (muP phs : Nat) ≤ 11 * n
 ver : VerI s
 root : s.root = rtO
 rgs : ∃ r0 q msgs, s.rgs = [r0, q] ∧ CntI room n phs s.log msgs q
 log : LogI phs s.log
section
variable {room n i : Nat} {phs : List Ph} {p p' : Ph} {s : St}
theorem PubI.to (h : PubI room n phs s) (hp : phs[i]? = some p) (hk : p.k ≤ 10) (hk' : p'.k = p.k + 1) {s' : St} (own : OwnI n (phs.set i p') s'.own) (pin : PinI (phs.set i p') s'.pin) (now : s.now ≤ s'.now ∧ s'.now ≤ s.now + 1) (lnow : s.lnow ≤ s'.lnow ∧ s'.lnow ≤ s.lnow + 1) (ver : VerI s') (root : s'.root = rtO)
  (rgs : ∃ r0 q msgs, s'.rgs = [r0, q] ∧ CntI room n (phs.set i p') s'.log msgs q) (log : LogI (phs.set i p') s'.log) : PubI room n (phs.set i p') s' := by
 have em := muP_nx hp hk hk'
 have h1 := h.now; have h2 := h.lnow
 exact ⟨by rw [List.length_set]; exact h.len, h.n16, own, pin, by omega, by omega, ver, root, rgs, log⟩
theorem PubI.cnt (h : PubI room n phs s) (hp : phs[i]? = some p) (hk : p.k ≤ 10) (hk' : p'.k = p.k + 1) (ha : cA p' = cA p) (hb : cD p' = cD p) : ∃ r0 q msgs, s.rgs = [r0, q] ∧ CntI room n (phs.set i p') s.log msgs q := by
 obtain ⟨r0, q, msgs, h1, h2⟩ := h.rgs
 exact ⟨r0, q, msgs, h1, h2.keep hp hk hk' (by omega) (by omega)⟩
theorem PubI.bds (h : PubI room n phs s) : s.now ≤ 1000 ∧ s.lnow ≤ 1000 ∧ s.log.length ≤ 16 ∧ 0 ≤ s.now := by
 have h1 := h.now; have h2 := h.lnow; have h3 := h.n16; have h4 := h.log.l3
 have h5 := sumN_le JW 1 phs fun x _ => by unfold JW; split <;> omega
 have h6 := h.len
 omega
theorem put_two {m : XI} {r0 q : RgD} (h : s.rgs = [r0, q]) : s.put 2 m = { s with rgs := [r0, q.put m] } ∧ s.putB 2 = q.putB ∧ s.putA 2 = q.putA := by
 obtain ⟨a1, a2, a3, a4, a5, a6, a7, a8, a9, a10⟩ := s
 have h' : a8 = [r0, q] := h
 subst h'
 exact ⟨rfl, rfl, rfl⟩
theorem end_eq {c : Nat} {a : Xl} {q : Z4} (h : s.log[c - 1]? = some q) : s.end_ c a = { s with log := s.log.set (c - 1) { q with ans := a, to_ := s.lnow + 1 }, lnow := s.lnow + 1 } := by
 unfold St.end_; rw [h]
theorem PubI.al (h : PubI room n phs s) (hp : phs[i]? = some p) (hk : p.k ≤ 10) : alP i p s = true := by
 obtain ⟨b1, b2, b3, b4⟩ := h.bds
 have hl := h.lnow
 obtain ⟨k, c, a⟩ := p
 match k, hk with
 | 0, _ =>
  show s.beginA = true
  unfold St.beginA
  rw [decide_eq_true (by omega : 0 ≤ s.lnow), decide_eq_true (by omega : s.lnow ≤ 1000000000), decide_eq_true (by omega : s.log.length < 60000)]; rfl
 | 1, _ => exact decide_eq_true ((h.pin _ _ hp).2 (of_decide_eq_true rfl))
 | 2, _ | 4, _ | 5, _ | 7, _ => rfl
 | 3, _ => exact h.ver.readA
 | 6, _ =>
  obtain ⟨r0, q, msgs, h1, h2⟩ := h.rgs
  show s.putA 2 = true
  rw [(put_two (m := msgO 0) h1).2.2]
  have e1 := h2.rg.puts; have e2 := h2.rg.dr; have e3 := h2.bd; have e4 := h2.rg.le; have e5 := h2.rg.rm; have e6 := h.n16
  unfold RgD.putA
  rw [decide_eq_true (by omega : 0 ≤ q.puts), decide_eq_true (by omega : q.puts ≤ 1000000000), decide_eq_true (by omega : 0 ≤ q.drops), decide_eq_true (by omega : q.drops ≤ 1000000000)]; rfl
 | 8, _ =>
  obtain ⟨x, h1, h2⟩ := (h.pin _ _ hp).1 (of_decide_eq_true rfl) (of_decide_eq_true rfl)
  show s.unpinA i = true
  unfold St.unpinA
  rw [h1]; exact decide_eq_true h2
 | 9, _ => exact h.ver.advA ⟨by omega, by omega⟩
 | 10, _ =>
  obtain ⟨h1, q, h2, _, h3⟩ := h.log.l1 _ _ hp (of_decide_eq_true rfl) (of_decide_eq_true rfl)
  show s.endA c = true
  unfold St.endA
  have h2' : s.log[c - 1]? = some q := h2
  rw [h2', decide_eq_true (by omega : 0 ≤ s.lnow), decide_eq_true (by omega : s.lnow ≤ 1000000001), decide_eq_true (show 1 ≤ c from h1)]
  exact decide_eq_true h3
theorem PubI.turn (h : PubI room n phs s) (hp : phs[i]? = some p) (hk : p.k ≤ 10) (hok : okP p s = true) : PubI room n (phs.set i (phN p s)) (phS i p s) := by
 obtain ⟨b1, b2, b3, b4⟩ := h.bds
 have hi : i < n := by rw [← h.len]; exact (List.getElem?_eq_some_iff.1 hp).1
 have hk' := phN_k p s
 obtain ⟨k, c, a⟩ := p
 match k, hk with
 | 0, hk =>
  refine h.to hp hk hk' (h.own.keep hp (of_decide_eq_true rfl)) (h.pin.keep hp (of_decide_eq_true rfl)) ⟨by show s.now ≤ s.now; omega, by show s.now ≤ s.now + 1; omega⟩ ⟨by show s.lnow ≤ s.lnow + 1; omega, by show s.lnow + 1 ≤ s.lnow + 1; omega⟩ h.ver h.root ?_ (h.log.begin hp rfl rfl rfl rfl rfl rfl)
  obtain ⟨r0, q, msgs, h1, h2⟩ := h.rgs
  refine ⟨r0, q, msgs, h1, h2.keep hp hk hk' ?_ ?_⟩
  ·show ((s.log ++ [_]).map fun c : Z4 => c.ans.a).sum + 0 = (s.log.map fun c : Z4 => c.ans.a).sum + 0
   rw [List.map_append, List.sum_append]; simp
  ·show ((s.log ++ [_]).map fun c : Z4 => c.ans.b).sum + 0 = (s.log.map fun c : Z4 => c.ans.b).sum + 0
   rw [List.map_append, List.sum_append]; simp
 | 1, hk =>
  refine h.to hp hk hk' (h.own.keep hp (of_decide_eq_true rfl)) (h.pin.put hp ((h.pin _ _ hp).2 (of_decide_eq_true rfl)) ⟨fun _ _ => b4, fun hn => absurd ⟨of_decide_eq_true rfl, of_decide_eq_true rfl⟩ hn⟩) ⟨by show s.now ≤ s.now; omega, by show s.now ≤ s.now + 1; omega⟩ ⟨by show s.lnow ≤ s.lnow; omega, by show s.lnow ≤ s.lnow + 1; omega⟩ h.ver h.root (h.cnt hp hk hk' rfl rfl) (h.log.keep hp (of_decide_eq_true rfl) rfl (of_decide_eq_true rfl) rfl)
 | 2, hk => exact h.to hp hk hk' (h.own.keep hp (of_decide_eq_true rfl)) (h.pin.keep hp (of_decide_eq_true rfl)) ⟨by show s.now ≤ s.now; omega, by show s.now ≤ s.now + 1; omega⟩ ⟨by show s.lnow ≤ s.lnow; omega, by show s.lnow ≤ s.lnow + 1; omega⟩ h.ver h.root (h.cnt hp hk hk' rfl rfl) (h.log.keep hp (of_decide_eq_true rfl) rfl (of_decide_eq_true rfl) rfl)
 | 3, hk => exact h.to hp hk hk' (h.own.keep hp (of_decide_eq_true rfl)) (h.pin.keep hp (of_decide_eq_true rfl)) ⟨by show s.now ≤ s.now; omega, by show s.now ≤ s.now + 1; omega⟩ ⟨by show s.lnow ≤ s.lnow; omega, by show s.lnow ≤ s.lnow + 1; omega⟩ h.ver h.root (h.cnt hp hk hk' rfl rfl) (h.log.keep hp (of_decide_eq_true rfl) rfl (of_decide_eq_true rfl) rfl)
 | 4, hk => exact h.to hp hk hk' (h.own.lock hp hi hok rfl) (h.pin.keep hp (of_decide_eq_true rfl)) ⟨by show s.now ≤ s.now; omega, by show s.now ≤ s.now + 1; omega⟩ ⟨by show s.lnow ≤ s.lnow; omega, by show s.lnow ≤ s.lnow + 1; omega⟩ h.ver h.root (h.cnt hp hk hk' rfl rfl) (h.log.keep hp (of_decide_eq_true rfl) rfl (of_decide_eq_true rfl) rfl)
 | 5, hk => exact h.to hp hk hk' (h.own.keep hp (of_decide_eq_true rfl)) (h.pin.keep hp (of_decide_eq_true rfl)) ⟨by show s.now ≤ s.now; omega, by show s.now ≤ s.now + 1; omega⟩ ⟨by show s.lnow ≤ s.lnow; omega, by show s.lnow ≤ s.lnow + 1; omega⟩ h.ver h.root (h.cnt hp hk hk' rfl rfl) (h.log.keep hp (of_decide_eq_true rfl) rfl (of_decide_eq_true rfl) rfl)
 | 6, hk =>
  obtain ⟨r0, q, msgs, h1, h2⟩ := h.rgs
  obtain ⟨e1, e2, _⟩ := put_two (m := msgO i) h1
  have e3 : phS i ⟨6, c, a⟩ s = { s with rgs := [r0, q.put (msgO i)] } := e1
  have e4 : phN ⟨6, c, a⟩ s = ⟨7, c, q.putB⟩ := by rw [← e2]; rfl
  rw [e3, e4]
  obtain ⟨msgs', h3⟩ := h2.put (p' := ⟨7, c, q.putB⟩) hp rfl (by rw [h.len]; exact h.n16) rfl rfl
  exact h.to hp hk rfl (h.own.keep hp (of_decide_eq_true rfl)) (h.pin.keep hp (of_decide_eq_true rfl)) ⟨by show s.now ≤ s.now; omega, by show s.now ≤ s.now + 1; omega⟩ ⟨by show s.lnow ≤ s.lnow; omega, by show s.lnow ≤ s.lnow + 1; omega⟩ h.ver h.root ⟨r0, _, msgs', rfl, h3⟩ (h.log.keep hp (of_decide_eq_true rfl) rfl (of_decide_eq_true rfl) rfl)
 | 7, hk =>
  have e : phS i ⟨7, c, a⟩ s = { s with own := (St.unlock ((i : Int) + 1) 5 s).own } := by
   show St.unlock ((i : Int) + 1) 5 s = _
   unfold St.unlock; split <;> rfl
  rw [e]
  exact h.to hp hk hk' (h.own.free hp rfl rfl) (h.pin.keep hp (of_decide_eq_true rfl)) ⟨by show s.now ≤ s.now; omega, by show s.now ≤ s.now + 1; omega⟩ ⟨by show s.lnow ≤ s.lnow; omega, by show s.lnow ≤ s.lnow + 1; omega⟩ h.ver h.root (h.cnt hp hk hk' (by cases a <;> rfl) (by cases a <;> rfl)) (h.log.keep hp (of_decide_eq_true rfl) rfl (of_decide_eq_true rfl) rfl)
 | 8, hk =>
  obtain ⟨x, h1, h2⟩ := (h.pin _ _ hp).1 (of_decide_eq_true rfl) (of_decide_eq_true rfl)
  exact h.to hp hk hk' (h.own.keep hp (of_decide_eq_true rfl)) (h.pin.put hp h1 ⟨fun _ hn => absurd hn (by show ¬ 9 ≤ 8; decide), fun _ => rfl⟩) ⟨by show s.now ≤ s.now; omega, by show s.now ≤ s.now + 1; omega⟩ ⟨by show s.lnow ≤ s.lnow; omega, by show s.lnow ≤ s.lnow + 1; omega⟩ h.ver h.root (h.cnt hp hk hk' (by cases a <;> rfl) (by cases a <;> rfl)) (h.log.keep hp (of_decide_eq_true rfl) rfl (of_decide_eq_true rfl) rfl)
 | 9, hk =>
  obtain ⟨now, lim, pls, free, e1, e2, e3, e4⟩ := h.ver.adv
  have e : phS i ⟨9, c, a⟩ s = { s with now := now, lim := lim, pls := pls, free := free } := e1
  rw [e]
  exact h.to hp hk hk' (h.own.keep hp (of_decide_eq_true rfl)) (h.pin.keep hp (of_decide_eq_true rfl)) ⟨e3, e4⟩ ⟨by show s.lnow ≤ s.lnow; omega, by show s.lnow ≤ s.lnow + 1; omega⟩ e2 h.root (h.cnt hp hk hk' (by cases a <;> rfl) (by cases a <;> rfl)) (h.log.keep hp (of_decide_eq_true rfl) rfl (of_decide_eq_true rfl) rfl)
 | 10, hk =>
  obtain ⟨h1, q, h2, _, h3⟩ := h.log.l1 _ _ hp (of_decide_eq_true rfl) (of_decide_eq_true rfl)
  have h2' : s.log[c - 1]? = some q := h2
  have e : phS i ⟨10, c, a⟩ s = { s with log := s.log.set (c - 1) { q with ans := Jq (abP ⟨10, c, a⟩), to_ := s.lnow + 1 }, lnow := s.lnow + 1 } := end_eq h2'
  have hl := h.lnow
  rw [e]
  have hz : q.ans = Jq (0, 0) := by
   rcases h.log.l2 _ _ h2' with ⟨_, a2, _⟩ | ⟨a1, _⟩
   ·exact a2
   ·exact absurd h3 a1
  refine h.to hp hk hk' (h.own.keep hp (of_decide_eq_true rfl)) (h.pin.keep hp (of_decide_eq_true rfl)) ⟨by show s.now ≤ s.now; omega, by show s.now ≤ s.now + 1; omega⟩ ⟨by show s.lnow ≤ s.lnow + 1; omega, by show s.lnow + 1 ≤ s.lnow + 1; omega⟩ h.ver h.root ?_ (h.log.done hp rfl rfl h2' (b := a) (by omega) rfl)
  obtain ⟨r0, q', msgs, k1, k2⟩ := h.rgs
  have sa := JG (fun c : Z4 => c.ans.a) s.log (c - 1) q { q with ans := Jq (abP ⟨10, c, a⟩), to_ := s.lnow + 1 } h2'
  have sb := JG (fun c : Z4 => c.ans.b) s.log (c - 1) q { q with ans := Jq (abP ⟨10, c, a⟩), to_ := s.lnow + 1 } h2'
  rw [hz] at sa sb
  refine ⟨r0, q', msgs, k1, k2.keep hp hk hk' ?_ ?_⟩
  ·have e1 : cA (phN ⟨10, c, a⟩ s) = 0 := if_neg (fun h => absurd h.2.1 (by rw [phN_k]; show ¬ 10 + 1 ≤ 10; omega))
   rw [e1]
   cases a
   ·have e2 : cA ⟨10, c, false⟩ = 0 := rfl
    rw [e2]
    have sa' : ((s.log.set (c - 1) _).map fun c : Z4 => c.ans.a).sum + (0 : Int) = (s.log.map fun c : Z4 => c.ans.a).sum + 0 := sa
    exact sa'
   ·have e2 : cA ⟨10, c, true⟩ = 1 := rfl
    rw [e2]
    have sa' : ((s.log.set (c - 1) _).map fun c : Z4 => c.ans.a).sum + (0 : Int) = (s.log.map fun c : Z4 => c.ans.a).sum + 1 := sa
    exact sa'
  ·have e1 : cD (phN ⟨10, c, a⟩ s) = 0 := if_neg (fun h => absurd h.2.1 (by rw [phN_k]; show ¬ 10 + 1 ≤ 10; omega))
   rw [e1]
   cases a
   ·have e2 : cD ⟨10, c, false⟩ = 1 := rfl
    rw [e2]
    have sb' : ((s.log.set (c - 1) _).map fun c : Z4 => c.ans.b).sum + (0 : Int) = (s.log.map fun c : Z4 => c.ans.b).sum + 1 := sb
    exact sb'
   ·have e2 : cD ⟨10, c, true⟩ = 0 := rfl
    rw [e2]
    have sb' : ((s.log.set (c - 1) _).map fun c : Z4 => c.ans.b).sum + (0 : Int) = (s.log.map fun c : Z4 => c.ans.b).sum + 0 := sb
    exact sb'
 | k + 11, hk => exact absurd hk (by show ¬ k + 11 ≤ 10; omega)
end
def InvO (room n : Nat) (ps : List (Xv St)) (s : St) : Prop := ∃ phs, ps = phs.mapIdx QT ∧ PubI room n phs s
def muO (ps : List (Xv St)) (s : St) : Nat := (ps.map fun p => p.moves s).sum
theorem muO_eq {phs : List Ph} {s : St} (h : Loc s) : muO (phs.mapIdx QT) s = muP phs := by
 unfold muO muP
 congr 1
 apply List.ext_getElem?
 intro j
 rw [List.getElem?_map, List.getElem?_mapIdx, List.getElem?_map]
 cases phs[j]? with
 | none => rfl
 | some p => exact congrArg some (ph_moves j _ p s rfl fun _ => h)
theorem once_sched (room n : Nat) : Sched (InvO room n) muO := by
 refine ⟨fun ps s i pre ok st nx h hq => ?_, fun ps s h hl => ?_⟩
 ·obtain ⟨phs, rfl, hI⟩ := h
  rw [List.getElem?_mapIdx] at hq
  cases hp : phs[i]? with
  | none => rw [hp] at hq; cases hq
  | some p =>
   rw [hp] at hq
   have hq' : QT i p = .mk pre ok st nx := Option.some.inj hq
   have hL := hI.ver.loc hI.root
   obtain ⟨k1, k2, k3, k4, k5⟩ := ph_step i p s hq' fun _ => hL
   refine ⟨k5 (hI.al hp k1), fun ho => ?_⟩
   have hT := hI.turn hp k1 (by rw [← k4]; exact ho)
   have e : (phs.mapIdx QT).set i (nx s) = (phs.set i (phN p s)).mapIdx QT := by
    apply List.ext_getElem?
    intro j
    rw [List.getElem?_mapIdx]
    by_cases e : i = j
    ·subst e
     rw [get_set hp, List.getElem?_set_self (by rw [List.length_mapIdx]; exact (List.getElem?_eq_some_iff.1 hp).1), k2]; rfl
    ·rw [List.getElem?_set_ne e, List.getElem?_set_ne e, List.getElem?_mapIdx]
   rw [e, k3]
   refine ⟨⟨_, rfl, hT⟩, ?_⟩
   rw [muO_eq (hT.ver.loc hT.root), muO_eq hL]
   have := muP_nx hp k1 (phN_k p s)
   omega
 ·obtain ⟨phs, rfl, hI⟩ := h
  obtain ⟨o, ho1, ho2, ho3⟩ := hI.own
  have hL := hI.ver.loc hI.root
  have go : ∀ (j : Nat) p, phs[j]? = some p → p.k ≤ 10 → okP p s = true → ∃ (i : Nat) (pre ok : St → Bool) (st : St → St) (nx : St → Xv St), (phs.mapIdx QT)[i]? = some (Xv.mk pre ok st nx) ∧ ok s = true := fun j p hp hk hok => by
   obtain ⟨pre, ok, st, nx, e⟩ := ph_mk (i := j) hk
   obtain ⟨_, _, _, k4, _⟩ := ph_step j p s e fun _ => hL
   exact ⟨j, pre, ok, st, nx, by rw [List.getElem?_mapIdx, hp]; exact congrArg some e, by rw [k4]; exact hok⟩
  cases o with
  | some j =>
   have hj := ho2 j rfl
   obtain ⟨p, hp⟩ : ∃ p, phs[j]? = some p := ⟨_, List.getElem?_eq_getElem (by rw [hI.len]; exact hj)⟩
   have hk := (ho3 j p hp).2 rfl
   refine go j p hp (by omega) ?_
   obtain ⟨k, c, a⟩ := p
   match k, hk with
   | 5, _ | 6, _ | 7, _ => rfl
   | 0, hk | 1, hk | 2, hk | 3, hk | 4, hk => exact absurd hk (of_decide_eq_true rfl)
   | k + 8, hk => exact absurd hk.2 (by show ¬ k + 8 ≤ 7; omega)
  | none =>
   rw [List.any_eq_true] at hl
   obtain ⟨x, hx, hm⟩ := hl
   obtain ⟨j, hj, rfl⟩ := List.getElem_of_mem hx
   have hjl : j < phs.length := by rw [List.length_mapIdx] at hj; exact hj
   have hp : phs[j]? = some phs[j] := List.getElem?_eq_getElem hjl
   have hk : phs[j].k ≤ 10 := by
    refine Classical.byContradiction fun hn => ?_
    have e : (phs.mapIdx QT)[j] = QT j phs[j] := by rw [List.getElem_mapIdx]
    rw [e, ph_done hn] at hm; cases hm
   refine go j _ hp hk ?_
   generalize phs[j] = p
   obtain ⟨k, c, a⟩ := p
   match k with
   | 0 | 1 | 2 | 3 => rfl
   | 4 => show decide (s.own[(5 : Int).toNat]? = some 0) = true; rw [ho1]; rfl
   | k + 5 => rfl
structure OnceR (room n : Nat) (s : St) (q : RgD) (msgs : List XI) : Prop where
 own : s.own = Jo none
 rgs : ∃ r0, s.rgs = [r0, q]
 rg : RgI room 0 msgs q
 nd : msgs.Nodup
 mem : ∀ m ∈ msgs, ∃ j, j < n ∧ m = msgO j
 len : s.log.length = n
 log : ∀ c ∈ s.log, c.to_ ≠ 0 ∧ ∃ b : Bool, c.ans = Jq (if b = true then (1, 0) else (0, 1))
 ca : q.puts = (s.log.map fun c : Z4 => c.ans.a).sum
 cd : q.drops = (s.log.map fun c : Z4 => c.ans.b).sum
theorem sumN_one {α : Type} (f : α → Nat) : ∀ l : List α, (∀ x ∈ l, f x = 1) → (l.map f).sum = l.length
 | [], _ => rfl
 | a :: l, h => by
  rw [List.map_cons, List.sum_cons, h a List.mem_cons_self, sumN_one f l fun x hx => h x (List.mem_cons_of_mem _ hx), List.length_cons]; omega
theorem J5 {α : Type} (f : α → Int) : ∀ l : List α, (∀ x ∈ l, f x = 0) → (l.map f).sum = 0
 | [], _ => rfl
 | a :: l, h => by
  rw [List.map_cons, List.sum_cons, h a List.mem_cons_self, J5 f l fun x hx => h x (List.mem_cons_of_mem _ hx)]; rfl
theorem once_end {room n : Nat} {ps : List (Xv St)} {s : St} (h : InvO room n ps s) (hd : ps.any Xv.isMk = false) : ∃ q msgs, OnceR room n s q msgs := by
 obtain ⟨phs, rfl, hI⟩ := h
 have hk : ∀ (j : Nat) p, phs[j]? = some p → ¬ p.k ≤ 10 := fun j p hp hn => by
  obtain ⟨pre, ok, st, nx, e⟩ := ph_mk (i := j) hn
  have : (phs.mapIdx QT).any Xv.isMk = true := by
   rw [List.any_eq_true]
   refine ⟨QT j p, List.mem_of_getElem? (i := j) (by rw [List.getElem?_mapIdx, hp]; rfl), ?_⟩
   rw [e]; rfl
  rw [hd] at this; cases this
 have hm : ∀ p ∈ phs, ¬ p.k ≤ 10 := fun p hp => by
  obtain ⟨j, hj, rfl⟩ := List.getElem_of_mem hp
  exact hk j _ (List.getElem?_eq_getElem hj)
 obtain ⟨r0, q, msgs, h1, h2⟩ := hI.rgs
 obtain ⟨o, ho1, ho2, ho3⟩ := hI.own
 have zA := J5 cA phs fun p hp => if_neg fun h => hm p hp h.2.1
 have zD := J5 cD phs fun p hp => if_neg fun h => hm p hp h.2.1
 have c1 := h2.ca; have c2 := h2.cd
 refine ⟨q, msgs, ?_, ⟨r0, h1⟩, h2.rg, h2.nd, fun m hm' => ?_, ?_, fun c hc => ?_, by omega, by omega⟩
 ·cases o with
  | none => exact ho1
  | some j =>
   have hj := ho2 j rfl
   obtain ⟨p, hp⟩ : ∃ p, phs[j]? = some p := ⟨_, List.getElem?_eq_getElem (by rw [hI.len]; exact hj)⟩
   exact absurd ((ho3 j p hp).2 rfl).2 (by have := hk j p hp; omega)
 ·obtain ⟨j, p, a1, _, a3⟩ := h2.mem m hm'
  exact ⟨j, by rw [← hI.len]; exact (List.getElem?_eq_some_iff.1 a1).1, a3⟩
 ·rw [hI.log.l3, sumN_one JW phs fun p hp => if_neg fun h => hm p hp (by omega), hI.len]
 ·obtain ⟨x, hx, rfl⟩ := List.getElem_of_mem hc
  rcases hI.log.l2 x _ (List.getElem?_eq_getElem hx) with ⟨_, _, j, p, a1, _, a3, _⟩ | a
  ·exact absurd a3 (hk j p a1)
  ·exact a
def stS (room : Nat) : St := ⟨List.replicate 12 0, 1, List.replicate 64 (-1), [[1], [], []], plsA, [], (2, 0), List.replicate 2 (rg0 room), [], 0⟩
theorem rg0_ok {room : Nat} (h : 1 ≤ room ∧ room ≤ 16) : RgI room 0 [] (rg0 room) := by
 refine ⟨h, by simp [rg0], rfl, rfl, ⟨by simp, by simp⟩, fun j hj => by omega, fun j m _ hm => by simp at hm, fun j _ hj => ⟨JX, ?_⟩, by show (0 : Int) ≤ 0; omega, fun hd => by have : (0 : Int) < 0 := hd; omega⟩
 show ((List.range room).map _)[j]? = _
 rw [List.getElem?_map, List.getElem?_range hj]; rfl
theorem once_begin {room n : Nat} (h : 1 ≤ room ∧ room ≤ 16) (hn : n ≤ 16) : PubI room n (List.replicate n ⟨0, 0, false⟩) (stS room) := by
 have hg : ∀ (j : Nat) p, (List.replicate n (⟨0, 0, false⟩ : Ph))[j]? = some p → j < n ∧ p = ⟨0, 0, false⟩ := fun j p hp => by
  rw [List.getElem?_replicate] at hp
  by_cases hj : j < n
  ·rw [if_pos hj] at hp; cases hp; exact ⟨hj, rfl⟩
  ·rw [if_neg hj] at hp; cases hp
 have hmem : ∀ p ∈ List.replicate n (⟨0, 0, false⟩ : Ph), p = ⟨0, 0, false⟩ := fun p hp => (List.mem_replicate.1 hp).2
 have hmu : muP (List.replicate n ⟨0, 0, false⟩) ≤ 11 * n := by
  have := sumN_le (fun p : Ph => 11 - p.k) 11 (List.replicate n ⟨0, 0, false⟩) fun x _ => Nat.sub_le _ _
  rw [List.length_replicate] at this; exact this
 refine ⟨List.length_replicate, hn, ⟨none, rfl, fun j hj => (by cases hj), fun j p hp => ?_⟩, fun j p hp => ?_, ⟨by show (1 : Int) ≤ 1; omega, by show (1 : Int) + _ ≤ _; omega⟩, ⟨by show (0 : Int) ≤ 0; omega, by show (0 : Int) + _ ≤ _; omega⟩, .inl ⟨rfl, rfl, rfl⟩, rfl, ⟨rg0 room, rg0 room, [], rfl, rg0_ok h, fun m hm => by simp at hm, by simp, ?_, ?_, ?_⟩, fun j p hp h1 => ?_, fun x q hq => by simp [stS] at hq, ?_⟩
 ·obtain ⟨_, rfl⟩ := hg j p hp
  exact ⟨fun h => absurd h.1 (of_decide_eq_true rfl), fun h => by cases h⟩
 ·obtain ⟨hj, rfl⟩ := hg j p hp
  refine ⟨fun h => absurd h (of_decide_eq_true rfl), fun _ => ?_⟩
  show (List.replicate 64 (-1))[j]? = _
  rw [List.getElem?_replicate, if_pos (by omega)]
 ·have := J5 cA (List.replicate n ⟨0, 0, false⟩) fun p hp => by rw [hmem p hp]; rfl
  rw [this]; rfl
 ·have := J5 cD (List.replicate n ⟨0, 0, false⟩) fun p hp => by rw [hmem p hp]; rfl
  rw [this]; rfl
 ·show (0 : Int) + _ ≤ _; omega
 ·obtain ⟨_, rfl⟩ := hg j p hp
  exact absurd h1 (of_decide_eq_true rfl)
 ·show 0 = _
  have := sumN_le JW 0 (List.replicate n ⟨0, 0, false⟩) fun p hp => by rw [hmem p hp]; decide
  omega
theorem once_plans (n : Nat) (vs : List (List OpD × Value)) (s : St) (hl : vs.length = n) (hv : ∀ (j : Nat) q, vs[j]? = some q → q.1 = [Xx j]) : Jb vs s = (List.replicate n (⟨0, 0, false⟩ : Ph)).mapIdx QT := by
 apply List.ext_getElem?
 intro j
 unfold Jb
 rw [List.getElem?_mapIdx, List.getElem?_mapIdx, List.getElem?_replicate]
 by_cases hj : j < n
 ·rw [if_pos hj]
  have hq : vs[j]? = some (vs[j]'(by omega)) := List.getElem?_eq_getElem _
  rw [hq]
  show some (QM j (vs[j]'(by omega)).1 s).pl = _
  rw [hv j _ hq]; rfl
 ·rw [if_neg hj, List.getElem?_eq_none (by omega)]; rfl
end
theorem RgI.slot {room g : Nat} {msgs : List XI} {q : RgD} (h : RgI room g msgs q) : q.slot q.gets = q.slots[g % room]? := by
 unfold RgD.slot; rw [h.gets, h.len, Int.toNat_natCast]
theorem RgI.get_yes {room g : Nat} {msgs : List XI} {q : RgD} (h : RgI room g msgs q) {m : XI} (hm : msgs[g]? = some m) : q.getB = true ∧ q.getM = m ∧ RgI room (g + 1) msgs q.get ∧ q.get.drops = q.drops := by
 have hl := h.le; have hr := h.rm
 have hg := (List.getElem?_eq_some_iff.1 hm).1
 have hs := h.slot
 rw [Nat.mod_eq_of_lt (by omega), h.old g m (Nat.le_refl _) hm] at hs
 have hB : q.getB = true := by unfold RgD.getB; rw [hs, h.gets]; exact decide_eq_true rfl
 refine ⟨hB, by unfold RgD.getM; rw [hs], ?_, ?_⟩
 ·unfold RgD.get
  rw [if_pos hB, h.gets, h.len, Int.toNat_natCast, Nat.mod_eq_of_lt (by omega)]
  refine ⟨h.rm, by simp [h.len], h.puts, by simp, ⟨by omega, hl.2⟩, fun j hj => ?_, fun j m' h0 hm' => ?_, fun j h1 h2 => ?_, h.dr⟩
  ·show ∃ m', (q.slots.set g _)[j]? = _
   by_cases e : g = j
   ·subst e
    exact ⟨_, by rw [List.getElem?_set_self (by rw [h.len]; omega)]⟩
   ·rw [List.getElem?_set_ne e]; exact h.got j (by omega)
  ·show (q.slots.set g _)[j]? = _
   rw [List.getElem?_set_ne (by omega)]; exact h.old j m' (by omega) hm'
  ·show ∃ m', (q.slots.set g _)[j]? = _
   rw [List.getElem?_set_ne (by omega)]; exact h.new j h1 h2
 ·unfold RgD.get; rw [if_pos hB]
theorem RgI.get_no {room g : Nat} {msgs : List XI} {q : RgD} (h : RgI room g msgs q) (hm : msgs[g]? = none) : q.getB = false ∧ q.get = q := by
 have hl := h.le; have hr := h.rm
 have hg := List.getElem?_eq_none_iff.1 hm
 have hs := h.slot
 have hB : q.getB = false := by
  unfold RgD.getB
  rw [hs, h.gets]
  by_cases e : g < room
  ·obtain ⟨m, h1⟩ := h.new g (by omega) e
   rw [Nat.mod_eq_of_lt e, h1]
   exact decide_eq_false (by show ¬ 2 * (g : Int) = _; omega)
  ·have e2 : g = room := by omega
   obtain ⟨m, h1⟩ := h.got 0 (by omega)
   rw [e2, Nat.mod_self, h1]
   exact decide_eq_false (by show ¬ 2 * (((0 : Nat) : Int) + room) = _; omega)
 exact ⟨hB, by unfold RgD.get; rw [if_neg (by rw [hB]; decide)]⟩
def polA (msgs : List XI) (k : Nat) : Xl := match msgs[k]? with | some m => ⟨0, 0, 0, m⟩ | none => ⟨7, 0, 0, JX⟩
def Q5 : OpD := ⟨4, 2, [], [], false⟩
def QN : OpD := ⟨5, 2, [], [], false⟩
structure PolI (room g : Nat) (msgs : List XI) (d : Int) (s : St) : Prop where
 own : s.own = Jo none
 rgs : ∃ r0 q, s.rgs = [r0, q] ∧ RgI room g msgs q ∧ q.drops = d
 lnow : s.lnow = 2 * (s.log.length : Nat)
 len : s.log.length ≤ 100
theorem one_with (F : Int → Nat → St → Fo (Nat × Xl) St) (o : OpD) (ops : List OpD) (s : St) (ho : ∀ (cid : Nat) (s : St), pDo 0 (Qw 0 ops) o cid s = ⟨s.dropA 2, (pWith 0 (Qw 0 ops) (F 2) 5 cid s).st, (pWith 0 (Qw 0 ops) (F 2) 5 cid s).pl⟩)
  {r0 q q' : RgD} {ans : Xl} (hown : s.own = Jo none) (hr : s.rgs = [r0, q]) (hl : 0 ≤ s.lnow ∧ s.lnow ≤ 1000) (hlen : s.log.length ≤ 1000)
  (hF : ∀ (cid : Nat) (s' : St), s'.rgs = [r0, q] → F 2 cid s' = ⟨true, (cid, ans), { s' with rgs := [r0, q'] }⟩) :
  let s' : St := { s with rgs := [r0, q'], log := s.log ++ [⟨0, 0, o, ans, s.lnow + 1, s.lnow + 1 + 1⟩], lnow := s.lnow + 1 + 1 }
  (QM 0 (o :: ops) s).pl.exec s = (QM 0 ops s').pl.exec s' ∧ (QM 0 (o :: ops) s).pl.moves s = (QM 0 ops s').pl.moves s' + 4 := by
 intro s'
 obtain ⟨own, now, pin, lim, pls, free, root, rgs, log, lnow⟩ := s
 have hown' : own = Jo none := hown
 have hr' : rgs = [r0, q] := hr
 subst hown' hr'
 let s1 : St := ⟨Jo none, now, pin, lim, pls, free, root, [r0, q], log ++ [⟨0, 0, o, ⟨0, 0, 0, ⟨[], [], false⟩⟩, lnow + 1, 0⟩], lnow + 1⟩
 let s2 : St := { s1 with own := Jo (some 0) }
 let s3 : St := { s2 with rgs := [r0, q'] }
 let s4 : St := { s3 with own := Jo none }
 have hb : St.beginA ⟨Jo none, now, pin, lim, pls, free, root, [r0, q], log, lnow⟩ = true := by
  unfold St.beginA
  rw [decide_eq_true (show 0 ≤ lnow from hl.1), decide_eq_true (show lnow ≤ 1000000000 from by have : lnow ≤ 1000 := hl.2; omega), decide_eq_true (show log.length < 60000 from by have : log.length ≤ 1000 := hlen; omega)]; rfl
 have e1 : Xp (Jj 0 o) (pDo 0 (Qw 0 ops) o) () ⟨Jo none, now, pin, lim, pls, free, root, [r0, q], log, lnow⟩ = ⟨true, s1, lockP (St.lockB 5) fun s => ⟨true, St.lock 1 5 s, doP (Xp (F 2) (fun p => Qx (St.unlock 1) [5] (Qw 0 ops p)) (log.length + 1))⟩⟩ := by
  unfold Xp
  have e : pDo 0 (Qw 0 ops) o (log.length + 1) s1 = ⟨true, s1, lockP (St.lockB 5) fun s => ⟨true, St.lock 1 5 s, doP (Xp (F 2) (fun p => Qx (St.unlock 1) [5] (Qw 0 ops p)) (log.length + 1))⟩⟩ := by rw [ho]; rfl
  show (⟨St.beginA _ && (pDo 0 (Qw 0 ops) o (log.length + 1) s1).al, (pDo 0 (Qw 0 ops) o (log.length + 1) s1).st, (pDo 0 (Qw 0 ops) o (log.length + 1) s1).pl⟩ : Out St) = _
  rw [e, hb]; rfl
 have e3 : Xp (F 2) (fun p => Qx (St.unlock 1) [5] (Qw 0 ops p)) (log.length + 1) s2 = ⟨true, s3, doP fun s => Qw 0 ops (log.length + 1, ans) (St.unlock 1 5 s)⟩ := by
  unfold Xp
  rw [hF (log.length + 1) s2 rfl]; rfl
 have hu : St.unlock 1 5 s3 = s4 := by
  unfold St.unlock
  rw [if_pos (show s3.own[(5 : Int).toNat]? = some 1 from rfl)]; rfl
 have hq : s4.log[log.length + 1 - 1]? = some ⟨0, 0, o, ⟨0, 0, 0, ⟨[], [], false⟩⟩, lnow + 1, 0⟩ := by
  show (log ++ [_])[log.length + 1 - 1]? = _
  rw [Nat.add_sub_cancel, List.getElem?_append_right (Nat.le_refl _), Nat.sub_self]; rfl
 have hen : s4.end_ (log.length + 1) ans = s' := by
  rw [end_eq hq]
  show ({ s4 with log := (log ++ [_]).set (log.length + 1 - 1) _, lnow := _ } : St) = _
  rw [Nat.add_sub_cancel, set_last]
 have hea : s4.endA (log.length + 1) = true := by
  unfold St.endA
  rw [hq, decide_eq_true (show 0 ≤ s4.lnow from by show 0 ≤ lnow + 1; have : 0 ≤ lnow := hl.1; omega), decide_eq_true (show s4.lnow ≤ 1000000001 from by show lnow + 1 ≤ _; have : lnow ≤ 1000 := hl.2; omega), decide_eq_true (show 1 ≤ log.length + 1 from by omega)]; rfl
 have e5 : Qw 0 ops (log.length + 1, ans) s4 = ⟨true, (QM 0 ops s').st, (QM 0 ops s').pl⟩ := by
  unfold Qw
  rw [hea, hen, (pThr_st 0 ops s').2]; rfl
 have hst := (pThr_st 0 ops s').1
 constructor
 ·rw [pThr_cons]
  show (doP (Xp (Jj 0 o) (pDo 0 (Qw 0 ops) o) ())).exec _ = _
  show (if (Xp (Jj 0 o) (pDo 0 (Qw 0 ops) o) () ⟨Jo none, now, pin, lim, pls, free, root, [r0, q], log, lnow⟩).al && true then (Xp (Jj 0 o) (pDo 0 (Qw 0 ops) o) () ⟨Jo none, now, pin, lim, pls, free, root, [r0, q], log, lnow⟩).pl.exec (Xp (Jj 0 o) (pDo 0 (Qw 0 ops) o) () ⟨Jo none, now, pin, lim, pls, free, root, [r0, q], log, lnow⟩).st else none) = _
  rw [e1]
  show (doP (Xp (F 2) (fun p => Qx (St.unlock 1) [5] (Qw 0 ops p)) (log.length + 1))).exec s2 = _
  show (if (Xp (F 2) (fun p => Qx (St.unlock 1) [5] (Qw 0 ops p)) (log.length + 1) s2).al && true then (Xp (F 2) (fun p => Qx (St.unlock 1) [5] (Qw 0 ops p)) (log.length + 1) s2).pl.exec (Xp (F 2) (fun p => Qx (St.unlock 1) [5] (Qw 0 ops p)) (log.length + 1) s2).st else none) = _
  rw [e3]
  show (if (Qw 0 ops (log.length + 1, ans) (St.unlock 1 5 s3)).al && true then (Qw 0 ops (log.length + 1, ans) (St.unlock 1 5 s3)).pl.exec (Qw 0 ops (log.length + 1, ans) (St.unlock 1 5 s3)).st else none) = _
  rw [hu, e5, hst]; rfl
 ·rw [pThr_cons]
  show (Xp (Jj 0 o) (pDo 0 (Qw 0 ops) o) () ⟨Jo none, now, pin, lim, pls, free, root, [r0, q], log, lnow⟩).pl.moves (Xp (Jj 0 o) (pDo 0 (Qw 0 ops) o) () ⟨Jo none, now, pin, lim, pls, free, root, [r0, q], log, lnow⟩).st + 1 = _
  rw [e1]
  show (doP (Xp (F 2) (fun p => Qx (St.unlock 1) [5] (Qw 0 ops p)) (log.length + 1))).moves s2 + 1 + 1 = _
  show (Xp (F 2) (fun p => Qx (St.unlock 1) [5] (Qw 0 ops p)) (log.length + 1) s2).pl.moves (Xp (F 2) (fun p => Qx (St.unlock 1) [5] (Qw 0 ops p)) (log.length + 1) s2).st + 1 + 1 + 1 = _
  rw [e3]
  show (Qw 0 ops (log.length + 1, ans) (St.unlock 1 5 s3)).pl.moves (Qw 0 ops (log.length + 1, ans) (St.unlock 1 5 s3)).st + 1 + 1 + 1 + 1 = _
  rw [hu, e5, hst]
theorem get_poll {s : St} {r0 q : RgD} (hr : s.rgs = [r0, q]) (ha : q.getA = true) (cid : Nat) : fPoll 2 cid s = ⟨true, (cid, q.getR), { s with rgs := [r0, q.get] }⟩ := by
 obtain ⟨a1, a2, a3, a4, a5, a6, a7, a8, a9, a10⟩ := s
 have h' : a8 = [r0, q] := hr
 subst h'
 show (⟨true && (true && q.getA), (cid, q.getR), _⟩ : Fo (Nat × Xl) St) = _
 rw [ha]; rfl
theorem RgI.getA {room g : Nat} {msgs : List XI} {q : RgD} (h : RgI room g msgs q) : q.getA = true := by
 have h1 := h.gets; have h2 := h.le; have h3 := h.rm
 unfold RgD.getA
 rw [decide_eq_true (by omega : 0 ≤ q.gets), decide_eq_true (by omega : q.gets ≤ 1000000000)]; rfl
theorem one_poll {room g : Nat} {msgs : List XI} {d : Int} {s : St} (h : PolI room g msgs d s) (hlen : s.log.length < 100) (ops : List OpD) :
  ∃ s' c, (QM 0 (Q5 :: ops) s).pl.exec s = (QM 0 ops s').pl.exec s' ∧ (QM 0 (Q5 :: ops) s).pl.moves s = (QM 0 ops s').pl.moves s' + 4 ∧ s'.log = s.log ++ [c] ∧ c.to_ ≠ 0 ∧ c.ans = polA msgs g ∧
   PolI room (if g < msgs.length then g + 1 else g) msgs d s' := by
 obtain ⟨r0, q, h1, h2, h3⟩ := h.rgs
 have hln := h.lnow
 obtain ⟨k1, k2⟩ := one_with fPoll Q5 ops s (fun cid s => rfl) (q' := q.get) (ans := q.getR) h.own h1 (by omega) (by omega) fun cid s' hs' => get_poll hs' h2.getA cid
 refine ⟨_, _, k1, k2, rfl, ?_, ?_, h.own, ⟨r0, q.get, rfl, ?_⟩, ?_, ?_⟩
 ·show s.lnow + 1 + 1 ≠ 0; omega
 ·show q.getR = _
  unfold RgD.getR polA
  cases hm : msgs[g]? with
  | some m => obtain ⟨a1, a2, _⟩ := h2.get_yes hm; rw [if_pos a1, a2]
  | none => obtain ⟨a1, _⟩ := h2.get_no hm; rw [if_neg (by rw [a1]; decide)]
 ·cases hm : msgs[g]? with
  | some m =>
   obtain ⟨_, _, a3, a4⟩ := h2.get_yes hm
   rw [if_pos (List.getElem?_eq_some_iff.1 hm).1]
   exact ⟨a3, a4.trans h3⟩
  | none =>
   obtain ⟨_, a2⟩ := h2.get_no hm
   have := List.getElem?_eq_none_iff.1 hm
   rw [if_neg (by omega), a2]; exact ⟨h2, h3⟩
 ·show s.lnow + 1 + 1 = 2 * ((s.log ++ [_]).length : Nat)
  rw [List.length_append, List.length_singleton]; omega
 ·show (s.log ++ [_]).length ≤ 100
  rw [List.length_append, List.length_singleton]; omega
theorem polA_next {msgs : List XI} {g j : Nat} (hg : g ≤ msgs.length) : polA msgs ((if g < msgs.length then g + 1 else g) + j) = polA msgs (g + (j + 1)) := by
 by_cases h : g < msgs.length
 ·rw [if_pos h, show g + 1 + j = g + (j + 1) from by omega]
 ·rw [if_neg h]
  unfold polA
  rw [List.getElem?_eq_none (by omega), List.getElem?_eq_none (by omega)]
theorem polls {room : Nat} {msgs : List XI} {d : Int} : ∀ (m g : Nat) (s : St), PolI room g msgs d s → s.log.length + m ≤ 100 → ∃ t, (QM 0 (List.replicate m Q5) s).pl.exec s = some t ∧ (QM 0 (List.replicate m Q5) s).pl.moves s = 4 * m ∧ t.log.length = s.log.length + m ∧ (∀ i, i < s.log.length → t.log[i]? = s.log[i]?) ∧
  ∀ j, j < m → ∃ c, t.log[s.log.length + j]? = some c ∧ c.to_ ≠ 0 ∧ c.ans = polA msgs (g + j)
 | 0, g, s, h, hl => ⟨s, rfl, rfl, rfl, fun _ _ => rfl, fun j hj => by omega⟩
 | m + 1, g, s, h, hl => by
  obtain ⟨s', c, k1, k2, k3, k4, k5, k6⟩ := one_poll h (by omega) (List.replicate m Q5)
  have hl' : s'.log.length = s.log.length + 1 := by rw [k3]; simp
  obtain ⟨t, t1, t2, t3, t4, t5⟩ := polls m _ s' k6 (by omega)
  refine ⟨t, by rw [List.replicate_succ, k1, t1], by rw [List.replicate_succ, k2, t2]; omega, by omega, fun i hi => ?_, fun j hj => ?_⟩
  ·rw [t4 i (by omega), k3, List.getElem?_append_left hi]
  ·cases j with
   | zero =>
    refine ⟨c, ?_, k4, k5⟩
    rw [Nat.add_zero, t4 _ (by omega), k3, List.getElem?_append_right (Nat.le_refl _), Nat.sub_self]; rfl
   | succ j =>
    obtain ⟨c', a1, a2, a3⟩ := t5 j (by omega)
    obtain ⟨r0, q, _, hrg, _⟩ := h.rgs
    exact ⟨c', by rw [show s.log.length + (j + 1) = s'.log.length + j from by omega]; exact a1, a2, by rw [a3, polA_next hrg.le.1]⟩
theorem drops_polls {room : Nat} {msgs : List XI} {q : RgD} {s : St} {r0 : RgD} (hown : s.own = Jo none) (hr : s.rgs = [r0, q]) (hq : RgI room 0 msgs q) (hlog : s.log = []) (hln : s.lnow = 0) :
  ∃ t, (QM 0 (QN :: List.replicate (room + 1) Q5) s).pl.exec s = some t ∧ (QM 0 (QN :: List.replicate (room + 1) Q5) s).pl.moves s ≤ 65536 ∧ t.log.length = room + 2 ∧ (∃ c, t.log[0]? = some c ∧ c.to_ ≠ 0 ∧ c.ans = ⟨0, q.drops, 0, JX⟩) ∧
   ∀ j, j < room + 1 → ∃ c, t.log[1 + j]? = some c ∧ c.to_ ≠ 0 ∧ c.ans = polA msgs j := by
 obtain ⟨k1, k2⟩ := one_with fDrops QN (List.replicate (room + 1) Q5) s (fun cid s => rfl) (q' := q) (ans := ⟨0, q.drops, 0, JX⟩) hown hr (by omega) (by rw [hlog]; simp) fun cid s' hs' => by
  obtain ⟨a1, a2, a3, a4, a5, a6, a7, a8, a9, a10⟩ := s'
  have h' : a8 = [r0, q] := hs'
  subst h'; rfl
 have hr1 := hq.rm
 obtain ⟨t, t1, t2, t3, t4, t5⟩ := polls (room := room) (msgs := msgs) (d := q.drops) (room + 1) 0 ({ s with rgs := [r0, q], log := s.log ++ [⟨0, 0, QN, ⟨0, q.drops, 0, JX⟩, s.lnow + 1, s.lnow + 1 + 1⟩], lnow := s.lnow + 1 + 1 } : St) ⟨hown, ⟨r0, q, rfl, hq, rfl⟩, by show s.lnow + 1 + 1 = 2 * ((s.log ++ [_]).length : Nat); rw [hlog, hln]; rfl, by show (s.log ++ [_]).length ≤ 100; rw [hlog]; simp⟩ (by show (s.log ++ [_]).length + (room + 1) ≤ 100; rw [hlog, List.nil_append, List.length_singleton]; omega)
 have e : (s.log ++ [(⟨0, 0, QN, ⟨0, q.drops, 0, JX⟩, s.lnow + 1, s.lnow + 1 + 1⟩ : Z4)]).length = 1 := by rw [hlog]; rfl
 refine ⟨t, by rw [k1, t1], by rw [k2, t2]; omega, ?_, ⟨⟨0, 0, QN, ⟨0, q.drops, 0, JX⟩, s.lnow + 1, s.lnow + 1 + 1⟩, ?_, ?_, rfl⟩, fun j hj => ?_⟩
 ·have t3' : t.log.length = (s.log ++ [(⟨0, 0, QN, ⟨0, q.drops, 0, JX⟩, s.lnow + 1, s.lnow + 1 + 1⟩ : Z4)]).length + (room + 1) := t3
  omega
 ·have t4' : t.log[0]? = (s.log ++ [(⟨0, 0, QN, ⟨0, q.drops, 0, JX⟩, s.lnow + 1, s.lnow + 1 + 1⟩ : Z4)])[0]? := t4 0 (by show 0 < (s.log ++ [_]).length; simp)
  rw [t4', hlog]; rfl
 ·show s.lnow + 1 + 1 ≠ 0; omega
 ·obtain ⟨c, a1, a2, a3⟩ := t5 j hj
  have a1' : t.log[(s.log ++ [(⟨0, 0, QN, ⟨0, q.drops, 0, JX⟩, s.lnow + 1, s.lnow + 1 + 1⟩ : Z4)]).length + j]? = some c := a1
  rw [e] at a1'
  exact ⟨c, a1', a2, by rw [a3, Nat.zero_add]⟩
def subO : OpD := ⟨1, 2, [43], [], false⟩
def stE1 (room : Nat) : St := { stS room with log := [⟨0, 0, subO, ⟨0, 0, 0, JX⟩, 1, 2⟩], lnow := 2 }
theorem sub_ex (room : Nat) : (QM 0 [subO] (st00 2 room)).pl.exec (st00 2 room) = some (stE1 room) := by kernel_rfl
theorem sub_bt (room : Nat) : mvB (QM 0 [subO] (st00 2 room)).pl (st00 2 room) 65536 = true := by kernel_rfl
theorem sub_moves (room : Nat) : (QM 0 [subO] (st00 2 room)).pl.moves (st00 2 room) ≤ 65536 := mvB_le (sub_bt room)
theorem com_again {L : Lay} {G : Tg} {w1 w2 : World} {s : St} {lg : Nat} (hL : LayOk L) (hM : CoM L G w1 s) (hE : Ext Non w1 w2) (hlg : w1.heap.size ≤ lg) (hB : Zj w2 lg [XV, .int .i64 0, .map none]) :
  ∃ (L' : Lay) (G' : Tg), pt L.c = pt L'.c ∧ L'.lg = lg ∧ LayOk L' ∧ CoM L' G' w2 { s with log := [], lnow := 0 } ∧ (∀ i, i < w1.heap.size → G' i = G i) ∧ ∀ i, w1.heap.size ≤ i → i ≠ lg → G' i = 0 := by
 let G' : Tg := gx G w1.heap.size fun i => if i = lg then 7 else 0
 have hS : ∀ T, ZV T G w1 G' w2 := fun T => ZV.gx hE
 have h := hM.same (hS Cor)
 refine ⟨{ L with lg := lg }, G', rfl, rfl, ⟨hL.kd, hL.cp⟩, ⟨⟨h.frz.core, h.frz.grp, h.frz.rings⟩, h.lk, h.ep, h.pl, h.rt, h.k0, h.k1, h.k2, h.k3, h.rg, ?_⟩, fun i hi => Xf hi, fun i hi hn => (Xd hi).trans (if_neg hn)⟩
 exact ⟨⟨XV, none, [], .map none, ⟨hB, (Xd hlg).trans (if_pos rfl)⟩, OwO.nil, fun j h => absurd h (by simp), rfl, fun i q hq => absurd hq (by simp), fun r hr => absurd hr (by simp), .inl rfl⟩, by show 0 ≤ 60000; omega⟩
end Go.Proofs.YtjklgohpminefaaGreatDoorC
