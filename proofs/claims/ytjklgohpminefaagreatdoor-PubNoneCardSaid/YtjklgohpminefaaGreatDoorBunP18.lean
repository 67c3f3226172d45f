/- What is played on a core. -/
import Derived.Test.YtjklgohpminefaaGreatDoorBunP17
import Derived.Test.YtjklgohpminefaaGreatDoorBunP2
import Derived.LaidMore
import Derived.Lay
import Derived.OpenShut
import Derived.Stop.Joined
import Derived.Test.YtjklgohpminefaaGreatDoorBunP6
import Derived.Test.YtjklgohpminefaaGreatDoorBunP5
import Derived.Test.YtjklgohpminefaaGreatDoorRows

set_option linter.unusedVariables false
set_option linter.unusedSimpArgs false
set_option maxRecDepth 1000000
namespace Go.Proofs.YtjklgohpminefaaGreatDoorC
open Go.RowKit
theorem pThr_st (me : Nat) (ops : List OpD) (s : St) : (pThr me ops s).st = s ∧ (pThr me ops s).al = true := by cases ops <;> exact ⟨rfl, rfl⟩
def plansOf (ths : List (List OpD × Value)) (s : St) : List (Xt St) := ths.mapIdx fun k p => (pThr k p.1 s).pl
theorem plans_at {ths : List (List OpD × Value)} {s : St} {i : Nat} {p : Xt St} (h : (plansOf ths s)[i]? = some p) : ∃ q, ths[i]? = some q ∧ p = (pThr i q.1 s).pl := by
 unfold plansOf at h
 rw [List.getElem?_mapIdx] at h
 cases hq : ths[i]? with
 | none => rw [hq] at h; cases h
 | some q => rw [hq] at h; cases h; exact ⟨q, rfl, rfl⟩
theorem plans_len (ths : List (List OpD × Value)) (s : St) : (plansOf ths s).length = ths.length := by simp [plansOf]
def Told (cs log : List XR) : Prop := cs.length = log.length ∧ ∀ (i : Nat) q, log[i]? = some q → ∃ p, cs[i]? = some { q with place := p }
theorem told_of {rows : List (List Value)} : ∀ {log : List XR}, rows.length = log.length → (∀ (i : Nat) q, log[i]? = some q → ∃ p, rows[i]? = some (callC q p)) → ∃ cs, rows = cs.map XR.enc ∧ Told cs log := by
 induction rows with
 | nil => intro log h1 h2; obtain rfl : log = [] := List.eq_nil_of_length_eq_zero (by simpa using h1.symm); exact ⟨[], rfl, rfl, fun i q h => by simp at h⟩
 | cons r rows ih =>
  intro log h1 h2
  cases log with
  | nil => simp at h1
  | cons q log =>
   obtain ⟨p, hp⟩ := h2 0 q rfl
   obtain ⟨cs, h3, h4, h5⟩ := ih (by simpa using h1) fun i q' h => h2 (i + 1) q' h
   simp at hp
   refine ⟨{ q with place := p } :: cs, by rw [hp, h3]; rfl, by simp [h4], fun i q' h => ?_⟩
   cases i with
   | zero => simp at h; subst h; exact ⟨p, rfl⟩
   | succ i => exact h5 i q' h
theorem wr_mc {k : Nat} {G G' : Tg} {w w1 : World} {Mc : Nat → Prop} (hG : ∀ i, i < w.heap.size → ¬ Mc i → G i = 0) (ht : ∀ j, j < w1.heap.size → G' j = G j) (hs : w.heap.size ≤ w1.heap.size) {i : Nat} (h : Wr k G' i) : Xj Mc w i := by
 by_cases hlt : i < w.heap.size
 ·left
  refine Classical.byContradiction fun hn => ?_
  have h0 := hG i hlt hn
  unfold Wr at h; rw [ht i (by omega), h0] at h
  rcases h with h | h
  ·exact absurd h.1 (by omega)
  ·simp only [wrT] at h; omega
 ·exact .inr (by omega)
theorem mw_mc {G G' : Tg} {w w1 : World} {Mc : Nat → Prop} (hG : ∀ i, i < w.heap.size → ¬ Mc i → G i = 0) (ht : ∀ j, j < w1.heap.size → G' j = G j) (hs : w.heap.size ≤ w1.heap.size) {i : Nat} (h : MW G' i) : Xj Mc w i := by
 by_cases hlt : i < w.heap.size
 ·left
  refine Classical.byContradiction fun hn => ?_
  have h0 := hG i hlt hn
  exact mw0 h (by rw [ht i (by omega), h0])
 ·exact .inr (by omega)
theorem sl_mc {T : Nat → Prop} (h0 : T 0) {G' : Tg} {w A : World} {Mc : Nat → Prop} {v : Value} {k : Nat} {rows : List (List Value)} (h : Sl Mc w v k rows) (hE : Ext Mc w A) (hz : ∀ j, j < w.heap.size → ¬ Mc j → G' j = 0) : Sl (fun j => ¬ T (G' j)) A v k rows :=
 ((h.sub (M' := fun j => Mc j ∨ w.heap.size ≤ j) (fun j hj hlt => hj.elim id (fun h => by omega))).ext hE (fun j hj => .inl hj)).sub fun j hj _ => by
  by_cases hlt : j < w.heap.size
  ·refine .inl (Classical.byContradiction fun hn => hj ?_)
   rw [hz j hlt hn]; exact h0
  ·exact .inr (by omega)
theorem nine_mc {G G' : Tg} {w w1 : World} {Mc : Nat → Prop} (hG : ∀ i, i < w.heap.size → ¬ Mc i → G i = 0) (ht : ∀ j, j < w1.heap.size → G' j = G j) (hs : w.heap.size ≤ w1.heap.size) {i : Nat} (h : G' i = 9) : Xj Mc w i := by
 by_cases hlt : i < w.heap.size
 ·refine .inl (Classical.byContradiction fun hn => ?_)
  have := (ht i (by omega)).trans (hG i hlt hn)
  omega
 ·exact .inr (by omega)
theorem my9 {k : Nat} : ¬ MyT k 9 := by rintro (h | h | h) <;> (try simp only [kpT, wrT] at h) <;> omega
theorem w9 {k : Nat} {G : Tg} {i : Nat} (h : G i = 9) : ¬ Wr k G i := by
 rintro (h1 | h1)
 ·have := h1.2; omega
 ·rw [h] at h1; simp only [wrT] at h1; omega
set_option maxHeartbeats 1600000 in
theorem played_w (w : World) {Mc : Nat → Prop} {cB : Nat} {tv pv : Value} {ths : List (List OpD × Value)} {picks : List Int} {s0 : St} {Inv : List (Xt St) → St → Prop} {μ : List (Xt St) → St → Nat} (hTh : Sl Mc w tv 1 (ths.map fun p => [p.2])) (hOps : ∀ p ∈ ths, ∃ a c, p.2 = .slice a p.1.length c ∧ Sl Mc w p.2 5 (p.1.map OpD.enc)) (hP : Sl Mc w pv 1 (picks.map eI)) (hpn : picks.length ≤ 100000) (hne : ths ≠ []) (hlen : ths.length ≤ 1000) (hSch : Sched Inv μ) (hInv : Inv (plansOf ths s0) s0) (hbd : μ (plansOf ths s0) s0 ≤ 65536) (H : ∀ (w1 : World) (lg : Nat), Ext Non w w1 → w.heap.size ≤ lg → Zj w1 lg [Xw, .int .i64 0, .map none] → ∃ (L : Lay) (G : Tg), pt cB = pt L.c ∧ L.lg = lg ∧ LayOk L ∧ CoM L G w1 s0 ∧ ∀ i, i < w.heap.size → ¬ Mc i → G i = 0) : FnM Tryz.prog Mc 14 #[.pointer (some ⟨cB, 0, none⟩), tv, pv] w fun u w' => ∃ (u1 : Value) (oo : Option Nat) (cs : List XR) (ps : List (Xt St)) (s : St) (L : Lay) (G : Tg), u = .tuple #[u1, .bool (!cs.any fun q => decide (q.to_ = 0))] ∧ OwO w' u1 oo 15 (cs.map XR.enc) ∧ (∀ i, oo = some i → w.heap.size ≤ i) ∧ Told cs s.log ∧ Inv ps s ∧ ps.any Xt.isMk = false ∧ ps.length = ths.length ∧ L.c = cB ∧ LayOk L ∧ CoM L G w' s ∧ ∀ i, i < w.heap.size → ¬ Mc i → G i = 0 := by
 obtain ⟨ta, tc, rfl⟩ : ∃ ta tc, tv = .slice ta ths.length tc := by obtain ⟨a, c, e1, _⟩ := hTh.ex; exact ⟨a, c, by rw [e1, List.length_map]⟩
 have hX := Ext.refl Mc w
 refine Zfm (args := [_, _, _]) Tryz.func14 rfl rfl ?_
 refine Zs (Za (Za ?_))
 refine Zc (Zs (Zw zE rfl (hnew_ok w) ?_)); intro v14 w1 E1 R1
 replace hX := hX.tr E1
 obtain ⟨lg, rfl, hlg, hLg⟩ := R1
 obtain ⟨L, G, hcB, hLl, hLO, hM, hG0⟩ := H w1 lg E1 hlg hLg
 obtain rfl : cB = L.c := by cases hcB; rfl
 subst hLl
 obtain ⟨w1, hw1⟩ : ∃ x, x = w1 := ⟨_, rfl⟩
 have hws : w.heap.size ≤ w1.heap.size := by rw [hw1]; exact hX.size
 refine Za ?_
 refine Zc (Zs (Za ?_))
 refine Zc (ZC (Zs (Za ?_)))
 refine Zc (ZT (Xv (S := Nat × Value × Option Nat × Tg × List Value) [0, 1, 2, 8, 9, 10] (fun ⟨i, av, ao, G', vs⟩ => [.pointer (some ⟨L.c, 0, none⟩), .slice ta ths.length tc, pv, .pointer (some ⟨L.lg, 0, none⟩), av, .int .i64 (i : Nat)]) (fun ⟨i, av, ao, G', vs⟩ A => (Ext Mc w A) ∧ (i ≤ ths.length ∧ vs.length = i ∧ OwO A av ao 1 (vs.map eV) ∧ (∀ j, ao = some j → G' j = 9) ∧ CoM L G' A s0 ∧ (∀ j, j < w1.heap.size → G' j = G j) ∧ w1.heap.size ≤ A.heap.size ∧ ∀ (k : Nat) p v, ths[k]? = some p → vs[k]? = some v → Jl (coY L) Tryz.prog k (pThr k p.1 s0).pl G' A v)) (fun ⟨i, av, ao, G', vs⟩ => ths.length - i) (0, Xw, none, G, []) ⟨rfl, rfl, rfl, rfl, rfl, rfl, trivial⟩ ⟨hX, ⟨Nat.zero_le _, rfl, OwO.nil, fun j h => absurd h (by simp), hM, fun _ _ => rfl, Nat.le_of_eq (by rw [hw1]), fun k p v _ h => absurd h (by simp)⟩⟩ ?_))
 rintro τ0 ⟨i, av, ao, G', vs⟩ A0 ⟨hX, I0⟩
 obtain ⟨hin, hvl, hO, hao, hM, hT, hw1A, hSt⟩ := I0
 obtain ⟨aa, ac, rfl⟩ := id hO.len
 refine ZC (Zs (Zm (Zm ?_)))
 refine Zb (Z1 sl_57 rfl) (Zb (Xl rfl rfl) (Zc ?_))
 refine ZE rfl (fun hc0 => ?_) (fun hc0 => ?_)
 ·have hlt : i < ths.length := by have := of_decide_eq_true hc0; omega
  obtain ⟨⟨ops, hv⟩, hp⟩ : ∃ p, ths[i]? = some p := ⟨_, List.getElem?_eq_getElem hlt⟩
  obtain ⟨a, c, hve, hSl⟩ := hOps _ (List.mem_of_getElem? hp)
  obtain rfl : hv = .slice a ops.length c := hve
  obtain ⟨tb, to, rfl⟩ := hTh.base (fun h => by have h2 := congrArg List.length h; rw [List.length_map, List.length_nil] at h2; omega)
  refine ZG (ZC (ZT (ZK (Zm (Zm (Zm (Zm (Zm ?_))))))))
  refine Zb (ZM sl_57 rfl rfl (by omega)) ?_
  refine Zb (Xm p_56 rfl ((hTh.ext hX (fun _ h => h)).at0 (show (ths.map fun p => [p.2])[((i : Nat) : Int).toNat]? = some [.slice a ops.length c] from by rw [Int.toNat_natCast, List.getElem?_map, hp]; rfl) rfl)) ?_
  refine Zm ?_
  have hSO : Sl (fun j => ¬ MyI i (G' j)) A0 (.slice a ops.length c) 5 (ops.map OpD.enc) := sl_mc (.inl rfl) hSl hX (fun j hj hn => (hT j (by omega)).trans (hG0 j hj hn))
  have hA1 : w1.heap.size ≤ (World.heap A0).size := hw1A
  have haol := fun j (hj : ao = some j) => hO.lt hj
  refine ZH zE rfl (thread_mk (me := i) (by omega) hLO ops G' A0 s0 a c hM hSO (pThr_st i ops s0).2) ?_; intro v29 w2 E2 hR29
  obtain ⟨G2, t1, t2, t3⟩ := hR29
  rw [(pThr_st i ops s0).1] at t2
  replace hX := hX.own2 E2 (fun j hj => wr_mc hG0 hT hws hj)
  replace hO := hO.ext E2 (fun j hj => w9 (hao j hj))
  have hAt := fun k p v hp hv => (hSt k p v hp hv)
  obtain ⟨wt, hwt⟩ : ∃ x, x = w2 := ⟨_, rfl⟩
  obtain ⟨hv1, hv2⟩ := t3.val.2.2
  have hEt := E2
  rw [← hwt] at t1 t2 t3 hEt
  have hYt : Ext (fun j => ao = some j) wt w2 := by rw [hwt]; exact Ext.refl _ _
  refine XL (v := v29) (r := eV v29) Jj rfl rfl (by rw [hv2]; rfl) rfl (by decide) ?_; intro v30 w3 b30 hb30 E3 hO30
  replace hX := hX.tr E3
  replace hO := hO.ext E3 (fun _ _ h => h)
  replace hYt := hYt.tr E3
  have hYs := hYt.size
  refine Qz Jj rfl rfl rfl hO (hO30.sl (M := Non) id) (fun r hr => by simp only [List.mem_singleton] at hr; subst hr; exact JS hv1) (by simp only [List.length_map, List.length_cons, List.length_nil]; omega) (by simp only [List.length_map, List.length_cons, List.length_nil, big]; omega) ?_; intro v31 w4 o31 E4 hO31 hf31
  replace hX := hX.own2 E4 (fun j hj => nine_mc hG0 hT hws (hao j hj))
  replace hYt := hYt.trans E4
  obtain ⟨va31, vc31, rfl⟩ := id hO31.len
  obtain ⟨G3, gold, gnew⟩ : ∃ G3 : Tg, (∀ j, j < wt.heap.size → G3 j = G2 j) ∧ ∀ j, wt.heap.size ≤ j → G3 j = 9 := ⟨gx G2 wt.heap.size fun _ => 9, fun j hj => Xd hj, fun j hj => Xf hj⟩
  have hEs := hEt.size; have hYs2 := hYt.size
  have g29 : ∀ j, ao = some j → G2 j = 9 := fun j hj => (t1.tag j (haol j hj)).trans (hao j hj)
  have sn : ∀ T : Nat → Prop, ¬ T 9 → ZY T G2 wt G3 w4 := fun T hT9 => ⟨hYt.mono fun j hj ht => hT9 (by rw [g29 j hj] at ht; exact ht), gold⟩
  have ho9 : ∀ j, o31 = some j → G3 j = 9 := fun j hj => by
   rcases hf31 j hj with h | h
   ·exact (gold j (Zlt (haol j h) hEs)).trans (g29 j h)
   ·exact gnew j (by omega)
  have hT3 : ∀ j, j < w1.heap.size → G3 j = G j := fun j hj => (gold j (by omega)).trans ((t1.tag j (by omega)).trans (hT j hj))
  have hSt3 : ∀ (k : Nat) p v, ths[k]? = some p → (vs ++ [v29])[k]? = some v → Jl (coY L) Tryz.prog k (pThr k p.1 s0).pl G3 w4 v := fun k p v hp' hv' => by
   by_cases hk : k < vs.length
   ·rw [List.getElem?_append_left hk] at hv'
    exact (hSt k p v hp' hv').same ((t1.other hEt (by omega)).trans (sn _ my9))
   ·have hki : k = i := by have := (List.getElem?_eq_some_iff.1 hv').1; simp at this; omega
    subst hki
    rw [List.getElem?_append_right (by omega)] at hv'
    rw [hp] at hp'; cases hp'
    obtain rfl : v29 = v := by simpa [hvl] using hv'
    exact t3.same (sn _ my9)
  refine Za ?_
  refine Zc (ZK (Zm ?_))
  refine Zb (Z2 rfl rfl (by omega)) (Za ?_)
  refine Zc ?_
  exact ⟨rfl, (i + 1, _, o31, G3, vs ++ [v29]), ⟨rfl, rfl, rfl, rfl, rfl, rfl, trivial⟩, ⟨hX, ⟨hlt, by simp [hvl], by rw [List.map_append]; exact hO31, ho9, t2.same (sn Cor (by unfold Cor; omega)), hT3, by omega, hSt3⟩⟩, by show ths.length - (i + 1) < ths.length - i; omega⟩
 ·have hie : i = ths.length := by have := of_decide_eq_false hc0; omega
  refine XG ?_
  refine Zs (Zm (Zm ?_))
  refine ZH zE rfl (run_w A0 hSch (G := G') (ps := plansOf ths s0) (s := s0) (vs := vs) (hO.sl (M := Non) (fun _ _ => id)) (fun h => hne (List.eq_nil_of_length_eq_zero (by rw [h] at hvl; simp at hvl; omega))) (by rw [plans_len]; omega) (fun k p v hp hv => by obtain ⟨q, hq, rfl⟩ := plans_at hp; exact hSt k q v hq hv) hM hInv hbd (by rw [plans_len]; exact hlen) (sl_mc (T := fun t => t = 0) rfl hP hX (fun j hj hn => (hT j (by omega)).trans (hG0 j hj hn))) hpn) ?_; intro v34 w5 E5 hR34
  obtain ⟨cf, mvR, callsR, rfl, hSM, hInvF, hdone, hTF, hlenF, hmvR⟩ := hR34
  have hX34 := hX.size
  replace hX := hX.own2 E5 (fun j hj => mw_mc hG0 hT hws hj)
  obtain ⟨wr, hwr⟩ : ∃ x, x = w5 := ⟨_, rfl⟩
  rw [← hwr] at hSM
  have hXr : Ext Non wr w5 := by rw [hwr]; exact Ext.refl _ _
  refine ZR z_44 ?_; intro b11 w6 hb11 E6 B11
  have hq11 := Zq hX hb11
  have hl11 := Zl hX hb11
  have hr11 := Zle hXr.size hb11
  replace hX := hX.tr E6
  replace hXr := hXr.tr E6
  have Bo := B11
  refine ZN s_44 rfl rfl rfl (Jg hmvR rfl rfl) B11 rfl ?_; intro w7 E7 B11 hz7
  replace hX := hX.mine E7 hl11
  replace hXr := hXr.own E7 hr11
  refine Zc (Zs (Zm ?_))
  have hM2 : CoM L cf.G w7 cf.s := CoM.same hSM (ZY.of_non hXr fun _ _ => rfl)
  obtain ⟨⟨lv, lo, rows, lmv, q1, q2, q3, q4, q5, q6, q7⟩, q8⟩ := hM2.lg
  obtain ⟨cs, rfl, hTold⟩ := told_of q4 q5
  have hXs37 := hX.size
  refine Zw zE rfl (calls_w w7 cs q1.1 q2 (by have := hTold.1; omega)) ?_; intro v37 w8 E8 hR8
  replace hX := hX.tr E8
  replace B11 := Zx B11 E8
  replace hXr := hXr.tr E8
  obtain ⟨u1, oo, rfl, hC, hoo⟩ := hR8
  refine Zm ?_
  refine Zb (ZL rfl rfl) (Zb (ZL rfl rfl) (Za (Za ?_)))
  refine Zc (ZC (Qy mixed ?_)); intro w9 E9
  replace hX := hX.tr E9
  replace B11 := Zx B11 E9
  replace hXr := hXr.tr E9
  replace hC := hC.ext E9 (fun _ _ h => h)
  have hS := Ext.refl Non w9
  refine Zd 0 rfl hS Zy ?_
  refine Zd 1 rfl hS Zy ?_
  refine Zd 2 rfl hS Zy ?_
  refine wd_split (d := 42) rfl (fun hg42 => ?_) (fun hg42 => ?_)
  ·refine Zd 3 rfl hS (Z7 rfl (Zcb hg42) fun A hA => Zf f_44_2 rfl) (Zd 4 rfl hS (Z7 rfl (Zcb hg42) fun A hA => Zi p_33 rfl (B11.ext hA id) rfl) (Zd 5 rfl hS (Z7 rfl (Zcb hg42) fun A hA => Z8 rfl rfl) (Zd 6 rfl hS (ZF fun A hA => Z5 (Zcb hg42) (by conv => lhs; whnf)) ?_)))
   refine Zd 7 rfl hS (ZF fun A hA => Xn (by conv => lhs; whnf)) ?_
   refine Zd 8 rfl hS (ZF fun A hA => Xn (by conv => lhs; whnf)) ?_
   refine Xu (by kernel_rfl) ?_ _
   replace hX := hX.tr hS
   replace B11 := Zx B11 hS
   replace hXr := hXr.tr hS
   replace hC := hC.ext hS (fun _ _ h => h)
   refine ZA ?_
   exact ⟨_, X4 (Zg rfl) (Zg rfl), hX, ⟨u1, oo, cs, cf.ps, cf.s, L, cf.G, congrArg (fun b => Value.tuple #[u1, .bool b]) (show decide ((0 : Int) = 0) = _ from by rw [hg42]; rfl), hC, fun j hj => Zle hXs37 (hoo j hj), hTold, hInvF, hdone, hlenF.trans (plans_len _ _), rfl, hLO, CoM.same hSM (ZY.of_non hXr fun _ _ => rfl), fun j hj hn => (hTF j (by omega)).trans ((hT j (by omega)).trans (hG0 j hj hn))⟩⟩
  ·refine Zd 3 rfl hS (Qn rfl (Zcb hg42)) (Zd 4 rfl hS (Qn rfl (Zcb hg42)) (Zd 5 rfl hS (Qn rfl (Zcb hg42)) (Zd 6 rfl hS (ZF fun A hA => ZQ (Zcb hg42) (by conv => lhs; whnf)) ?_)))
   refine Zd 7 rfl hS (ZF fun A hA => Xn (by conv => lhs; whnf)) ?_
   refine Zd 8 rfl hS (ZF fun A hA => Xn (by conv => lhs; whnf)) ?_
   refine Xu (by kernel_rfl) ?_ _
   replace hX := hX.tr hS
   replace B11 := Zx B11 hS
   replace hXr := hXr.tr hS
   replace hC := hC.ext hS (fun _ _ h => h)
   refine ZA ?_
   exact ⟨_, X4 (Zg rfl) (Zg rfl), hX, ⟨u1, oo, cs, cf.ps, cf.s, L, cf.G, congrArg (fun b => Value.tuple #[u1, .bool b]) hg42.symm, hC, fun j hj => Zle hXs37 (hoo j hj), hTold, hInvF, hdone, hlenF.trans (plans_len _ _), rfl, hLO, CoM.same hSM (ZY.of_non hXr fun _ _ => rfl), fun j hj hn => (hTF j (by omega)).trans ((hT j (by omega)).trans (hG0 j hj hn))⟩⟩
def OneI (t : St) (ps : List (Xt St)) (s : St) : Prop := ∃ p, ps = [p] ∧ p.exec s = some t
def oneM (ps : List (Xt St)) (s : St) : Nat := match ps with | [p] => p.moves s | _ => 0
theorem one_sched (t : St) : Sched (OneI t) oneM := by
 refine ⟨fun ps s i pre ok st nx h hp => ?_, fun ps s h hl => ?_⟩
 ·obtain ⟨p, rfl, he⟩ := h
  have h0 : i = 0 := by have := (List.getElem?_eq_some_iff.1 hp).1; simp at this; omega
  subst h0
  cases hp
  have he' : (if pre s && ok s then (nx s).exec (st s) else none) = some t := he
  by_cases hc : (pre s && ok s) = true
  ·rw [if_pos hc] at he'
   rw [Bool.and_eq_true] at hc
   exact ⟨hc.1, fun _ => ⟨⟨nx s, rfl, he'⟩, Nat.lt_succ_self _⟩⟩
  ·rw [if_neg hc] at he'; cases he'
 ·obtain ⟨p, rfl, he⟩ := h
  cases p with
  | done => simp [Xt.isMk] at hl
  | mk pre ok st nx =>
   refine ⟨0, pre, ok, st, nx, rfl, ?_⟩
   have he' : (if pre s && ok s then (nx s).exec (st s) else none) = some t := he
   by_cases hc : (pre s && ok s) = true
   ·rw [Bool.and_eq_true] at hc; exact hc.2
   ·rw [if_neg hc] at he'; cases he'
theorem one_end {t : St} {ps : List (Xt St)} {s : St} (h : OneI t ps s) (hd : ps.any Xt.isMk = false) : s = t := by
 obtain ⟨p, rfl, he⟩ := h
 cases p with
 | done => cases he; rfl
 | mk pre ok st nx => simp [Xt.isMk] at hd
def awO1 : OpD := ⟨1, 1, [35], [], false⟩
def awO2 : OpD := ⟨3, 0, [97], [], false⟩
def awP : Xt St := (pThr 0 [awO1, awO2] (st00 1 1)).pl
def awS : Option St := awP.exec (st00 1 1)
def awG (s : St) : Bool := match s.log with | [a, b] => decide (b.ans = ⟨0, 1, 0, Qm⟩) && (decide (a.to_ ≠ 0) && decide (b.to_ ≠ 0)) | _ => false
theorem aw_ex : ∃ t a b, awS = some t ∧ t.log = [a, b] ∧ b.ans = ⟨0, 1, 0, Qm⟩ ∧ a.to_ ≠ 0 ∧ b.to_ ≠ 0 := by
 have h : (match awS with | some s => awG s | none => false) = true := by kernel_rfl
 cases ht : awS with
 | none => rw [ht] at h; cases h
 | some t =>
  rw [ht] at h
  have h : awG t = true := h
  unfold awG at h
  split at h
  ·rename_i a b hl
   simp only [Bool.and_eq_true, decide_eq_true_eq] at h
   exact ⟨t, a, b, rfl, hl, h.1, h.2.1, h.2.2⟩
  ·cases h
def mvB (p : Xt St) (s : St) (n : Nat) : Bool := Nat.ble (p.moves s) n
theorem mvB_le {p : Xt St} {s : St} {n : Nat} (h : mvB p s n = true) : p.moves s ≤ n := Nat.le_of_ble_eq_true h
theorem aw_bt : mvB awP (st00 1 1) 65536 = true := by kernel_rfl
theorem aw_moves : awP.moves (st00 1 1) ≤ 65536 := mvB_le aw_bt
theorem told_two {cs : List XR} {a b : XR} (h : Told cs [a, b]) : ∃ p q, cs = [{ a with place := p }, { b with place := q }] := by
 obtain ⟨h1, h2⟩ := h
 obtain ⟨p, hp⟩ := h2 0 a rfl
 obtain ⟨q, hq⟩ := h2 1 b rfl
 match cs, h1, hp, hq with
 | [x, y], _, hp, hq => simp at hp hq; exact ⟨p, q, by rw [hp, hq]⟩
theorem EqS.monoM {P : Program} {m m' : Nat} {t : TypeId} {a b : Value} {r : Bool} (h : EqS P m t a b r) (hm : m ≤ m') : EqS P m' t a b r := fun d w hd => h d w (Zle hm hd)
theorem ansM_eqs (x y : Z9) : EqS Tryz.prog 3 37 (.agg x.enc.toArray) (.agg y.enc.toArray) (decide (x = y)) := by
 have p1 : ∀ z : Z9, (z.enc.toArray).extract 3 (3 + 3) = z.msg.enc.toArray := fun z => by simp [Z9.enc, Qu.enc]
 have hm : EqS Tryz.prog 2 35 (.agg ((x.enc.toArray).extract 3 (3 + 3))) (.agg ((y.enc.toArray).extract 3 (3 + 3))) (decide (x.msg = y.msg)) := by rw [p1, p1]; exact msg_eqs _ _
 have h := eqs_struct (P := Tryz.prog) (t := 37) (m := 2) (xs := x.enc.toArray) (ys := y.enc.toArray) (by kernel_rfl) sh_37 fs_37
  (EqF.cons rfl (QL p_33 rfl) (QL p_33 rfl) ((eqs_int ui_33).monoM (by decide)) (EqF.cons rfl (QL p_3 rfl) (QL p_3 rfl) ((eqs_int ui_3).monoM (by decide)) (EqF.cons rfl (QL p_3 rfl) (QL p_3 rfl) ((eqs_int ui_3).monoM (by decide)) (EqF.cons rfl (part_s s_35) (part_s s_35) hm .nil))))
 rw [show decide (x = y) = (decide (x.err = y.err) && (decide (x.a = y.a) && (decide (x.b = y.b) && (decide (x.msg = y.msg) && true)))) from ?_]
 ·exact h
 ·obtain ⟨a, b, c, d⟩ := x; obtain ⟨a', b', c', d'⟩ := y
  by_cases h1 : a = a' <;> by_cases h2 : b = b' <;> by_cases h3 : c = c' <;> by_cases h4 : d = d' <;> simp [h1, h2, h3, h4]
set_option maxHeartbeats 1600000 in
theorem awake_w (w : World)  : Fn Tryz.prog 5 #[] w fun u w' => u = .bool true := by
 obtain ⟨t, ca, cb, hex, hlog, hban, hca, hcb⟩ := aw_ex
 have hX := Ext.refl Non w
 refine Zfw (args := []) Tryz.func5 rfl rfl ?_
 refine Zs (Za ?_)
 refine Zc (Zs (Zw zE rfl (cnew_w w 1 1 (by decide) (by decide) (by decide)) ?_)); intro v4 w1 E1 R1
 replace hX := hX.tr E1
 have hNew := R1
 obtain ⟨cB, hcB⟩ : ∃ c, v4 = pt c := by obtain ⟨ep, pn, pc, psp, pl, gp, lk, rt, c, lv, rv, po, ro, ps, rg, N1, N2, N3, N4, N5, N6, h, _⟩ := hNew; exact ⟨c, h⟩
 subst hcB
 obtain ⟨wN, hwN⟩ : ∃ x, x = w1 := ⟨_, rfl⟩
 rw [← hwN] at hNew
 have hXN : Ext Non wN w1 := by rw [hwN]; exact Ext.refl _ _
 refine Zb (ZW b_42 rfl rfl (cs := awO1.enc) rfl) (Zb (ZW b_42 rfl rfl (cs := awO2.enc) rfl) (wl_lit sl_56 (rows := [awO1, awO2].map OpD.enc) rfl (by decide) (by decide) rfl rfl (by intro r hr; obtain ⟨x, _, rfl⟩ := List.mem_map.1 hr; rfl) (by intro p hp; simp at hp; rcases hp with rfl | rfl <;> exact ⟨rfl, Nat.le_of_ble_eq_true rfl⟩) rfl ?_)); intro v7 w2 b7 hb7 E2 hO7
 have hN7 : wN.heap.size ≤ b7 := Zle hXN.size hb7
 obtain ⟨c7, rfl, hc7⟩ := id hO7.val
 obtain rfl : c7 = 2 := by simp only [List.length_map, List.length_cons, List.length_nil] at hc7; omega
 replace hX := hX.tr E2
 replace hXN := hXN.tr E2
 refine XL (v := .slice (some ⟨b7, 0, none⟩) 2 2) (r := [.slice (some ⟨b7, 0, none⟩) 2 2]) sl_57 rfl rfl rfl rfl (by decide) ?_; intro v8 w3 b8 hb8 E3 hO8
 have hN8 : wN.heap.size ≤ b8 := Zle hXN.size hb8
 obtain ⟨c8, rfl, hc8⟩ := id hO8.val
 replace hX := hX.tr E3
 replace hXN := hXN.tr E3
 replace hO7 := hO7.ext E3 id
 have hXs := hX.size; have hXNs := hXN.size
 refine ZH zE rfl (played_w (Mc := (fun i => w.heap.size ≤ i ∧ i < wN.heap.size)) (cB := cB) (ths := [([awO1, awO2], .slice (some ⟨b7, 0, none⟩) 2 2)]) (picks := []) (s0 := st00 1 1) (Inv := OneI t) (μ := oneM) w3 (hO8.sl (M := (fun i => w.heap.size ≤ i ∧ i < wN.heap.size)) (fun h => by have := h.2; omega)) (fun p hp => ?_) (Sl.nil _ _ _) (by decide) (by simp) (by show 1 ≤ 1000; decide) (one_sched t) ⟨_, rfl, hex⟩ aw_moves fun w1 lg E1 hlg hLg => ?_) ?_
 ·rw [List.mem_singleton] at hp; subst hp
  exact ⟨_, 2, rfl, hO7.sl (fun h => by have := h.2; omega)⟩
 ·obtain ⟨L, G, k1, k2, k3, k4, k5⟩ := com_new (n := 1) (m := 1) (by decide) (by decide) hNew (hXN.trans E1) (by omega) hLg
  exact ⟨L, G, k1, k2, k3, k4, fun i hi hn => k5 i (by by_cases h : i < w.heap.size; exact .inl h; exact .inr ⟨Classical.byContradiction fun h2 => hn ⟨by omega, by omega⟩, by omega⟩)⟩
 intro v9 w4 E4 hR9
 replace hX := hX.own2 E4 (fun i hi => .inr hi.1)
 obtain ⟨u1, oo, cs, ps, s1, L1, G1, hv9, hO9, ho9, hTold, hInv, hdone, _⟩ := hR9
 obtain rfl := one_end hInv hdone
 rw [hlog] at hTold
 obtain ⟨q1, q2, rfl⟩ := told_two hTold
 have hany : ([{ ca with place := q1 }, { cb with place := q2 }] : List XR).any (fun q => decide (q.to_ = 0)) = false := by simp [hca, hcb]
 rw [hany] at hv9
 subst hv9
 obtain ⟨a9, c9, rfl⟩ := id hO9.len
 obtain ⟨ab9, ao9, rfl⟩ := (hO9.sl (M := Non) (fun _ _ h => h)).base (by simp)
 refine Zm ?_
 refine Zb (ZL rfl rfl) (Zb (ZL rfl rfl) (Za (Za ?_)))
 refine Zc (Zs (Zm (Zm ?_)))
 refine Z3 (d := 13) rfl (fun hg13 => ?_) (fun hg13 => ?_)
 ·refine Zu rfl (Zcb hg13) (Zm ?_)
  refine Zu rfl (Zcb hg13) (Zb (Z1 Jk rfl) (Zu rfl (Zcb hg13) (Zb (Z8 rfl rfl) (Zb (Z5 (Zcb hg13) (by conv => lhs; whnf)) ?_))))
  refine Zm ?_
  refine Z3 (d := 18) rfl (fun hg18 => ?_) (fun hg18 => ?_)
  ·refine Zu rfl (Zcb hg18) (Zm ?_)
   refine Zu rfl (Zcb hg18) (Zb (ZM Jk rfl rfl (⟨by decide, by show (1 : Int) < 2; decide⟩)) (Zu rfl (Zcb hg18) (Zb (Zf f_60_3 rfl) (Zu rfl (Zcb hg18) (Zb (Xy Q2 (vs := cb.ans.enc) rfl rfl ((hO9.sl (M := Non) (fun _ _ h => h)).part1 (show (([{ ca with place := q1 }, { cb with place := q2 }] : List XR).map XR.enc)[1]? = some ({ cb with place := q2 } : XR).enc from rfl) rfl Zbl)) ?_)))))
   refine Zu rfl (Zcb hg18) (Zb (ZW b_37 rfl rfl (cs := (⟨0, 1, 0, Qm⟩ : Z9).enc) rfl) (Zu rfl (Zcb hg18) (Zb (rn_eqlS rfl rfl eg_37 (by decide) (ansM_eqs _ _)) (Zb (Z5 (Zcb hg18) (by conv => lhs; whnf)) ?_))))
   refine Za ?_
   refine Zc (ZA ?_)
   exact ⟨_, ZD (Zg rfl), hX, congrArg Value.bool (decide_eq_true hban)⟩
  ·first | exact absurd hg18 (by decide) | exact absurd hg18 (fun h => by cases h)
 ·first | exact absurd hg13 (by decide) | exact absurd hg13 (fun h => by cases h)
theorem eight1 {a b c d e f g h : Value} (h1 : a.oneCell' = true) (h2 : b.oneCell' = true) (h3 : c.oneCell' = true) (h4 : d.oneCell' = true) (h5 : e.oneCell' = true) (h6 : f.oneCell' = true) (h7 : g.oneCell' = true) (h8 : h.oneCell' = true) : ∀ x ∈ [a, b, c, d, e, f, g, h], x.oneCell' = true := by intro x hx; simp only [List.mem_cons, List.not_mem_nil, or_false] at hx; rcases hx with rfl | rfl | rfl | rfl | rfl | rfl | rfl | rfl <;> assumption
theorem rnew17_ok (w : World)  : Fn Tryz.prog 15 #[.int .i64 0] w fun u w' => ∃ b, u = .agg #[.slice (some ⟨b, 0, none⟩) 0 0] := by
 have hX := Ext.refl Non w
 refine Zfw (args := [_]) Tryz.func15 rfl rfl ?_
 refine Zs (ZR z_25 ?_); intro b2 w1 hb2 E1 B2
 have hq2 := Zq hX hb2
 have hl2 := Zl hX hb2
 replace hX := hX.tr E1
 refine Zc (Zs (Zm ?_))
 refine Zb (Rn.cast (Jz rfl rfl) (show _ = Value.int .i64 0 by first | rfl | (rw [if_neg (by omega)]) | (rw [if_pos (by omega)]))) ?_
 refine Zb (Rn.cast (rn_max2 rfl rfl) (show _ = Value.int .i64 0 by first | rfl | (rw [if_neg (by omega)]) | (rw [if_pos (by omega)]))) ?_
 refine QO sl_23 rfl (m := 0) rfl rfl (by decide) (by decide) ?_; intro w2 q6 hq6 E2 hQ6
 replace hX := hX.tr E2
 replace B2 := Zx B2 E2
 refine Zb (ZW b_25 rfl rfl (cs := [.slice (some ⟨q6, 0, none⟩) 0 0]) rfl) (ZN s_25 rfl rfl rfl (JS rfl) B2 rfl ?_); intro w3 E3 B2 hz3
 replace hX := hX.mine E3 hl2
 refine Zc (ZA ?_)
 exact ⟨_, ZD (Xc s_25 rfl B2 rfl), hX, ⟨q6, rfl⟩⟩
theorem rnew18_ok (w : World)  : Fn Tryz.prog 6 #[.int .i64 0, .int .i64 1] w fun u w' => ∃ b q d, u = .agg #[.slice (some ⟨b, 0, none⟩) 0 0, .int .i64 1, .slice (some ⟨q, 0, none⟩) 0 0, .slice (some ⟨d, 0, none⟩) 0 0, Xw, Xw, Xw, .int .i64 0] := by
 have hX := Ext.refl Non w
 refine Zfw (args := [_, _]) Tryz.func6 rfl rfl ?_
 refine Zs (ZR z_32 ?_); intro b4 w1 hb4 E1 B4
 have hq4 := Zq hX hb4
 have hl4 := Zl hX hb4
 replace hX := hX.tr E1
 refine Zc (Zs (Zm ?_))
 refine Zw zE rfl (rnew17_ok w1) ?_; intro v7 w2 E2 R2
 replace hX := hX.tr E2
 replace B4 := Zx B4 E2
 obtain ⟨b7, rfl⟩ := R2
 refine ZR z_25 ?_; intro b5 w3 hb5 E3 B5
 have hn4_5 := Zn B4 hb5
 have hq5 := Zq hX hb5
 have hl5 := Zl hX hb5
 replace hX := hX.tr E3
 replace B4 := Zx B4 E3
 refine ZN s_25 rfl rfl rfl (JS rfl) B5 rfl ?_; intro w4 E4 B5 hz4
 replace hX := hX.mine E4 hl5
 replace B4 := B4.ext E4 (fun h => by omega)
 refine Zc (ZC (Z4 (fun j => j == 13) mixed ?_)); intro w5 E5
 replace hX := hX.tr E5
 replace B4 := Zx B4 E5; replace B5 := Zx B5 E5
 have hS := Ext.refl Non w5
 refine Zt 0 [12, 13] rfl hS (ZF fun A hA => ZS s_25 rfl rfl (B5.ext hA id)) (Zt 1 [2, 3, 12, 13] rfl hS Zy ?_)
 refine Zt 2 [3, 12, 13] rfl hS (ZF fun A hA => Rn.cast (Jz rfl rfl) (show _ = Value.int .i64 1 by first | rfl | (rw [if_neg (by omega)]) | (rw [if_pos (by omega)]))) ?_
 refine Zt 3 [12, 13] rfl hS (ZF fun A hA => Rn.cast (rn_max2 rfl rfl) (show _ = Value.int .i64 1 by first | rfl | (rw [if_neg (by omega)]) | (rw [if_pos (by omega)]))) ?_
 refine Zt 4 [5, 6, 7, 12, 13] rfl hS (Zr (Zf f_25_0 rfl)) (Zt 5 [6, 7, 12, 13] rfl hS (Zv p_23 rfl B5 rfl) (Zt 6 [7, 12, 13] rfl hS (Zr (Z1 sl_23 rfl)) (Zt 8 [9, 10, 11, 12, 13] rfl hS (Zr (Zf f_25_0 rfl)) (Zt 9 [10, 11, 12, 13] rfl hS (Zv p_23 rfl B5 rfl) (Zt 10 [11, 12, 13] rfl hS (Zr (Z1 sl_23 rfl)) ?_)))))
 refine wx_two 7 11 _ _ rfl rfl (by kernel_rfl) ?_ ?_
 ·refine ZI (QO sl_26 rfl (m := 0) rfl rfl (by decide) (by decide) ?_); intro w6 q15 hq15 E6 hQ15
  replace hS := hS.tr E6
  refine Zc ⟨fun _ => hS, ?_⟩
  refine Zo 11 rfl (ZI (QO Xe rfl (m := 0) rfl rfl (by decide) (by decide) ?_)); intro w7 q19 hq19 E7 hQ19
  replace hS := hS.tr E7
  refine Zc ⟨fun _ => hS, ?_⟩
  refine Zt 12 [13] rfl hS (ZF fun A hA => ZW b_32 rfl rfl (cs := [.slice (some ⟨b7, 0, none⟩) 0 0, .int .i64 1, .slice (some ⟨q15, 0, none⟩) 0 0, .slice (some ⟨q19, 0, none⟩) 0 0, Xw, Xw, Xw, .int .i64 0]) rfl) ?_
  replace hX := hX.tr hS
  replace B4 := Zx B4 hS; replace B5 := Zx B5 hS
  refine Zo 13 rfl (ZI (ZN s_32 rfl rfl rfl (eight1 rfl rfl rfl rfl rfl rfl rfl rfl) B4 rfl ?_)); intro w8 E8 B4 hz8
  replace hX := hX.mine E8 hl4
  replace B5 := B5.ext E8 (fun h => by omega)
  refine Zz ?_
  refine ZZ (by kernel_rfl) ?_ _
  refine ZA ?_
  exact ⟨_, ZD (Xc s_32 rfl B4 rfl), hX, ⟨_, _, _, rfl⟩⟩
 ·refine ZI (QO Xe rfl (m := 0) rfl rfl (by decide) (by decide) ?_); intro w9 q19 hq19 E9 hQ19
  replace hS := hS.tr E9
  refine Zc ⟨fun _ => hS, ?_⟩
  refine Zo 7 rfl (ZI (QO sl_26 rfl (m := 0) rfl rfl (by decide) (by decide) ?_)); intro w10 q15 hq15 E10 hQ15
  replace hS := hS.tr E10
  refine Zc ⟨fun _ => hS, ?_⟩
  refine Zt 12 [13] rfl hS (ZF fun A hA => ZW b_32 rfl rfl (cs := [.slice (some ⟨b7, 0, none⟩) 0 0, .int .i64 1, .slice (some ⟨q15, 0, none⟩) 0 0, .slice (some ⟨q19, 0, none⟩) 0 0, Xw, Xw, Xw, .int .i64 0]) rfl) ?_
  replace hX := hX.tr hS
  replace B4 := Zx B4 hS; replace B5 := Zx B5 hS
  refine Zo 13 rfl (ZI (ZN s_32 rfl rfl rfl (eight1 rfl rfl rfl rfl rfl rfl rfl rfl) B4 rfl ?_)); intro w11 E11 B4 hz11
  replace hX := hX.mine E11 hl4
  replace B5 := B5.ext E11 (fun h => by omega)
  refine Zz ?_
  refine ZZ (by kernel_rfl) ?_ _
  refine ZA ?_
  exact ⟨_, ZD (Xc s_32 rfl B4 rfl), hX, ⟨_, _, _, rfl⟩⟩
theorem rreach17_ok (w : World) {b : Nat} (t : Str) : Fn Tryz.prog 21 #[.agg #[.slice (some ⟨b, 0, none⟩) 0 0], Sv t] w fun u w' => u = .slice none 0 0 := by
 have hX := Ext.refl Non w
 refine Zfw (args := [_, _]) Tryz.func21 rfl rfl ?_
 refine Zs (ZV rfl ?_); intro b2 w1 hb2 E1 B2
 have hq2 := Zq hX hb2
 have hl2 := Zl hX hb2
 replace hX := hX.tr E1
 refine Za ?_
 refine Zc (Zs (Za ?_))
 refine Zc (ZC (Zs (Za ?_)))
 refine Zc (ZT (Xv (S := Unit) [2, 5, 6] (fun _ => [(Zpt b2), .slice none 0 0, .int .i64 1]) (fun _ A => (Ext Non w A) ∧ (Zj A b2 [.slice (some ⟨b, 0, none⟩) 0 0]) ∧ (Xj Non w b2) ∧ (True)) (fun _ => 0) () ⟨rfl, rfl, rfl, trivial⟩ ⟨hX, B2, hl2, trivial⟩ ?_))
 rintro τ0 _ A0 ⟨hX, B2, hl2, I0⟩
 refine ZC (Zs (Zm ?_))
 refine Zb (Zf f_25_0 rfl) (Zb (Zi p_23 rfl B2 rfl) (Zb (Z1 sl_23 rfl) (Zb (rn_leq rfl rfl) (Zc ?_))))
 refine ZE rfl (fun hc0 => ?_) (fun hc0 => ?_)
 ·exact absurd (of_decide_eq_true hc0) (by decide)
 ·refine XG ?_
  refine Zs (Zm (Za ?_))
  refine Zc (ZA ?_)
  exact ⟨_, ZD (Zg rfl), hX, rfl⟩
set_option maxHeartbeats 1600000 in
theorem rdo18_ok (w : World) {b q d : Nat} (t p : Str) (ht : t.length ≤ 1000000) : Fn Tryz.prog 7 #[.agg #[.slice (some ⟨b, 0, none⟩) 0 0, .int .i64 1, .slice (some ⟨q, 0, none⟩) 0 0, .slice (some ⟨d, 0, none⟩) 0 0, Xw, Xw, Xw, .int .i64 0], .agg (⟨3, 0, t, p, false⟩ : OpD).enc.toArray] w fun u w' => u = .tuple #[.agg #[.slice (some ⟨b, 0, none⟩) 0 0, .int .i64 1, .slice (some ⟨q, 0, none⟩) 0 0, .slice (some ⟨d, 0, none⟩) 0 0, Xw, Xw, Xw, .int .i64 0], .agg (⟨Q3 t p, 0, 0, Qm⟩ : Z9).enc.toArray] := by
 have hX := Ext.refl Non w
 refine Zfw (args := [_, _]) Tryz.func7 rfl rfl ?_
 refine Zs (ZV rfl ?_); intro b2 w1 hb2 E1 B2
 have hq2 := Zq hX hb2
 have hl2 := Zl hX hb2
 replace hX := hX.tr E1
 refine ZV rfl ?_; intro b3 w2 hb3 E2 B3
 have hn2_3 := Zn B2 hb3
 have hq3 := Zq hX hb3
 have hl3 := Zl hX hb3
 replace hX := hX.tr E2
 replace B2 := Zx B2 E2
 refine ZR z_32 ?_; intro b4 w3 hb4 E3 B4
 have hn2_4 := Zn B2 hb4
 have hn3_4 := Zn B3 hb4
 have hq4 := Zq hX hb4
 have hl4 := Zl hX hb4
 replace hX := hX.tr E3
 replace B2 := Zx B2 E3; replace B3 := Zx B3 E3
 refine ZR z_37 ?_; intro b5 w4 hb5 E4 B5
 have hn2_5 := Zn B2 hb5
 have hn3_5 := Zn B3 hb5
 have hn4_5 := Zn B4 hb5
 have hq5 := Zq hX hb5
 have hl5 := Zl hX hb5
 replace hX := hX.tr E4
 replace B2 := Zx B2 E4; replace B3 := Zx B3 E4; replace B4 := Zx B4 E4
 refine Zc (ZC (Zs (Zb (Zf f_42_0 rfl) (Zb (Zi p_3 rfl B3 rfl) (Zc (ZT (Zs (Zb (Z8 rfl rfl) ?_))))))))
 refine Za ?_
 refine Zc ?_
 refine ZE rfl (fun hc0 => ?_) (fun hc0 => ?_)
 ·exact absurd hc0 (by show ¬ decide ((3 : Int) = 1) = true; decide)
 ·refine Zs (Zb (Z8 rfl rfl) (Za ?_))
  refine Zc ?_
  refine ZE rfl (fun hc1 => ?_) (fun hc1 => ?_)
  ·exact absurd hc1 (by show ¬ decide ((3 : Int) = 2) = true; decide)
  ·refine Zs (Zb (Z8 rfl rfl) (Za ?_))
   refine Zc ?_
   refine ZE rfl (fun hc2 => ?_) (fun hc2 => ?_)
   ·refine ZC (Zs (Zb (Zf f_42_2 rfl) (Zb (Zi p_9 rfl B3 rfl) (Zw zE rfl (rtopic_ok w4 t ht) ?_)))); intro v77 w5 E5 R5
    replace hX := hX.tr E5
    replace B2 := Zx B2 E5; replace B3 := Zx B3 E5; replace B4 := Zx B4 E5; replace B5 := Zx B5 E5
    subst R5
    refine Zb (Xs rfl) (Zc ?_)
    refine ZE rfl (fun hc3 => ?_) (fun hc3 => ?_)
    ·refine Zs (Zb (ZS s_32 rfl rfl B2) (Zb (ZW b_37 rfl rfl (cs := (⟨2, 0, 0, Qm⟩ : Z9).enc) rfl) (ZN s_32 rfl rfl rfl (eight1 rfl rfl rfl rfl rfl rfl rfl rfl) B4 rfl ?_))); intro w6 E6 B4 hz6
     replace hX := hX.mine E6 hl4
     replace B2 := B2.ext E6 (fun h => by omega); replace B3 := B3.ext E6 (fun h => by omega); replace B5 := B5.ext E6 (fun h => by omega)
     refine ZN Q2 rfl rfl rfl (Z9.one _) B5 rfl ?_; intro w7 E7 B5 hz7
     replace hX := hX.mine E7 hl5
     replace B2 := B2.ext E7 (fun h => by omega); replace B3 := B3.ext E7 (fun h => by omega); replace B4 := B4.ext E7 (fun h => by omega)
     refine Zc (ZA ?_)
     exact ⟨_, X4 (Xc s_32 rfl B4 rfl) (Xc Q2 rfl B5 rfl), hX, congrArg (fun k => Value.tuple #[_, .agg (⟨k, 0, 0, Qm⟩ : Z9).enc.toArray]) (show (2 : Int) = Q3 t p from by unfold Q3; rw [if_pos (by simpa using hc3)])⟩
    ·refine ZG (ZC (Zs (Zb (Zf f_42_3 rfl) (Zb (Zi p_9 rfl B3 rfl) (Zb (XS X7 rfl) (Zb (QK rfl rfl) (Zc ?_)))))))
     refine ZE rfl (fun hc4 => ?_) (fun hc4 => ?_)
     ·refine Zs (Zb (ZS s_32 rfl rfl B2) (Zb (ZW b_37 rfl rfl (cs := (⟨1, 0, 0, Qm⟩ : Z9).enc) rfl) (ZN s_32 rfl rfl rfl (eight1 rfl rfl rfl rfl rfl rfl rfl rfl) B4 rfl ?_))); intro w8 E8 B4 hz8
      replace hX := hX.mine E8 hl4
      replace B2 := B2.ext E8 (fun h => by omega); replace B3 := B3.ext E8 (fun h => by omega); replace B5 := B5.ext E8 (fun h => by omega)
      refine ZN Q2 rfl rfl rfl (Z9.one _) B5 rfl ?_; intro w9 E9 B5 hz9
      replace hX := hX.mine E9 hl5
      replace B2 := B2.ext E9 (fun h => by omega); replace B3 := B3.ext E9 (fun h => by omega); replace B4 := B4.ext E9 (fun h => by omega)
      refine Zc (ZA ?_)
      exact ⟨_, X4 (Xc s_32 rfl B4 rfl) (Xc Q2 rfl B5 rfl), hX, congrArg (fun k => Value.tuple #[_, .agg (⟨k, 0, 0, Qm⟩ : Z9).enc.toArray]) (show (1 : Int) = Q3 t p from by unfold Q3; rw [if_neg (by simpa using hc3), if_pos (by have h4 : decide ((p.length : Int) > 16) = true := hc4; have := of_decide_eq_true h4; omega)])⟩
     ·refine ZG (Zs (Zb (ZW b_37 rfl rfl (cs := (⟨0, 0, 0, Qm⟩ : Z9).enc) rfl) (ZR z_37 ?_))); intro b12 w10 hb12 E10 B12
      have hn2_12 := Zn B2 hb12
      have hn3_12 := Zn B3 hb12
      have hn4_12 := Zn B4 hb12
      have hn5_12 := Zn B5 hb12
      have hq12 := Zq hX hb12
      have hl12 := Zl hX hb12
      replace hX := hX.tr E10
      replace B2 := Zx B2 E10; replace B3 := Zx B3 E10; replace B4 := Zx B4 E10; replace B5 := Zx B5 E10
      refine ZN Q2 rfl rfl rfl (Z9.one _) B12 rfl ?_; intro w11 E11 B12 hz11
      replace hX := hX.mine E11 hl12
      replace B2 := B2.ext E11 (fun h => by omega); replace B3 := B3.ext E11 (fun h => by omega); replace B4 := B4.ext E11 (fun h => by omega); replace B5 := B5.ext E11 (fun h => by omega)
      refine Zc (Zs (Zb (Zf f_32_0 rfl) (Zb (Xy s_25 (vs := [.slice (some ⟨b, 0, none⟩) 0 0]) rfl rfl (B2.part rfl Zbl)) (Zb (Zf f_42_2 rfl) (Zb (Zi p_9 rfl B3 rfl) (Zw zE rfl (rreach17_ok w11 t) ?_)))))); intro v92 w12 E12 hR12
      replace hX := hX.tr E12
      replace B2 := Zx B2 E12; replace B3 := Zx B3 E12; replace B4 := Zx B4 E12; replace B5 := Zx B5 E12; replace B12 := Zx B12 E12
      subst hR12
      refine Za ?_
      refine Zc (ZC (Zs (Za ?_)))
      refine Zc (ZT (Xv (S := Unit) [2, 3, 4, 5, 12, 13, 14] (fun _ => [(Zpt b2), (Zpt b3), (Zpt b4), (Zpt b5), (Zpt b12), .slice none 0 0, .int .i64 0]) (fun _ A => (Ext Non w A) ∧ (Zj A b2 [.slice (some ⟨b, 0, none⟩) 0 0, .int .i64 1, .slice (some ⟨q, 0, none⟩) 0 0, .slice (some ⟨d, 0, none⟩) 0 0, Xw, Xw, Xw, .int .i64 0]) ∧ (Zj A b3 (⟨3, 0, t, p, false⟩ : OpD).enc) ∧ (Zj A b4 [Xw, .int .i64 0, Xw, Xw, Xw, Xw, Xw, .int .i64 0]) ∧ (Zj A b5 (⟨0, 0, 0, Qm⟩ : Z9).enc) ∧ (Zj A b12 (⟨0, 0, 0, Qm⟩ : Z9).enc) ∧ (Xj Non w b2) ∧ (Xj Non w b3) ∧ (Xj Non w b4) ∧ (Xj Non w b5) ∧ (Xj Non w b12) ∧ (b2 < b3) ∧ (b2 < b4) ∧ (b2 < b5) ∧ (b2 < b12) ∧ (b3 < b4) ∧ (b3 < b5) ∧ (b3 < b12) ∧ (b4 < b5) ∧ (b4 < b12) ∧ (b5 < b12) ∧ (True)) (fun _ => 0) () ⟨rfl, rfl, rfl, rfl, rfl, rfl, rfl, trivial⟩ ⟨hX, B2, B3, B4, B5, B12, hl2, hl3, hl4, hl5, hl12, hn2_3, hn2_4, hn2_5, hn2_12, hn3_4, hn3_5, hn3_12, hn4_5, hn4_12, hn5_12, trivial⟩ ?_))
      rintro τ0 _ A0 ⟨hX, B2, B3, B4, B5, B12, hl2, hl3, hl4, hl5, hl12, hn2_3, hn2_4, hn2_5, hn2_12, hn3_4, hn3_5, hn3_12, hn4_5, hn4_12, hn5_12, I0⟩
      refine ZC (Zs (Zm (Zm ?_)))
      refine Zb (Z1 Xe rfl) (Zb (Xl rfl rfl) (Zc ?_))
      refine ZE rfl (fun hc5 => ?_) (fun hc5 => ?_)
      ·exact absurd (of_decide_eq_true hc5) (by decide)
      ·refine XG ?_
       refine ZC (Zs (Zb (Zf f_42_4 rfl) (Zb (Zi p_4 rfl B3 rfl) (Zc ?_))))
       refine ZE rfl (fun hc6 => ?_) (fun hc6 => ?_)
       ·cases hc6
       ·refine ZG (ZC (Qx (fun i => i = b4 ∨ i = b5) mixed ?_)); intro w13 E13
        replace hX := hX.tr E13
        replace B2 := Zx B2 E13; replace B3 := Zx B3 E13; replace B4 := Zx B4 E13; replace B5 := Zx B5 E13; replace B12 := Zx B12 E13
        have hS := Ext.refl (fun i => i = b4 ∨ i = b5) w13
        have hzd4 := B4.lt; have hzd5 := B5.lt
        refine Zd 0 rfl hS (ZF fun A hA => ZS s_32 rfl rfl (B2.ext hA (fun e => by omega))) (Zd 1 rfl hS (ZF fun A hA => ZS Q2 rfl rfl (B12.ext hA (fun e => by omega))) (Zp 2 rfl (ZI (ZN s_32 rfl rfl rfl (eight1 rfl rfl rfl rfl rfl rfl rfl rfl) B4 rfl ?_)))); intro w14 E14 B4 hz14
        replace B5 := B5.ext E14 (fun h => by omega)
        replace hS := hS.mine E14 (by first | exact .inl rfl | exact .inl (.inl rfl) | exact .inl (.inr rfl) | exact .inl (.inr (.inr rfl)) | exact .inl (.inr (.inl rfl)) | exact .inl (.inl (.inl rfl)) | exact .inl (.inl (.inr rfl)))
        refine Zc ⟨hS, ?_⟩
        refine Zp 3 rfl (ZI (ZN Q2 rfl rfl rfl (Z9.one _) B5 rfl ?_)); intro w15 E15 B5 hz15
        replace B4 := B4.ext E15 (fun h => by omega)
        replace hS := hS.mine E15 (by first | exact .inl rfl | exact .inl (.inl rfl) | exact .inl (.inr rfl) | exact .inl (.inr (.inr rfl)) | exact .inl (.inr (.inl rfl)) | exact .inl (.inl (.inl rfl)) | exact .inl (.inl (.inr rfl)))
        refine Zc ⟨hS, ?_⟩
        refine Xu (by kernel_rfl) ?_ _
        replace hX := hX.own2 hS (fun i h => .inr (by rcases h with h | h; rw [h]; exact hq4; rw [h]; exact hq5))
        replace B2 := B2.ext hS (fun e => by omega); replace B3 := B3.ext hS (fun e => by omega); replace B12 := B12.ext hS (fun e => by omega)
        refine ZA ?_
        exact ⟨_, X4 (Xc s_32 rfl B4 rfl) (Xc Q2 rfl B5 rfl), hX, congrArg (fun k => Value.tuple #[_, .agg (⟨k, 0, 0, Qm⟩ : Z9).enc.toArray]) (show (0 : Int) = Q3 t p from by unfold Q3; rw [if_neg (by simpa using hc3), if_neg (by have h4 : decide ((p.length : Int) > 16) = false := hc4; have := of_decide_eq_false h4; omega)])⟩
   ·exact absurd hc2 (by show ¬ decide ((3 : Int) = 3) = false; decide)
theorem publish_nil (w : World) {S : Type} {Y : Sys S} {me : Nat} {G : Tg} {r : Out S} (t : Int) (o : OpD) {nv : Value} (hnt : o.text.length ≤ 1000000) (hnp : o.payload.length ≤ 1000000) (h : ∀ w1, Ext Non w w1 → MkS Y Tryz.prog me 30 #[.agg (⟨Q3 o.text o.payload, 0, 0, Qm⟩ : Z9).enc.toArray, nv] (Kx me G w) w1 r) : FnM Tryz.prog (Wr me G) 9 #[.pointer none, .int .i64 t, .agg o.enc.toArray, nv] w fun u w' => Xh Y Tryz.prog me G w r u w' := by
 have hXn := Ext.refl Non w
 have hX := Ext.refl (Wr me G) w
 refine Zfm (args := [_, _, _, _]) Tryz.func9 rfl rfl ?_
 refine Zs (ZV rfl ?_); intro b6 w1 hb6 E1 B6
 have hq6 := Zq hX hb6
 replace hX := hX.tr E1
 replace hXn := hXn.tr E1
 refine Za ?_
 refine Zc (Zs (Zb (ZW b_84 rfl rfl (cs := [Xw, Xw, .int .i64 0]) rfl) (Zb (Zf f_42_2 rfl) (Zb (Zi p_9 rfl B6 rfl) (Zb (Zf f_42_3 rfl) (Zb (Zi p_9 rfl B6 rfl) (Zw zE rfl (kput_ok w1 [] [] 0 Non (fun _ h => h.elim) ⟨Sl.nil _ _ _, Sl.nil _ _ _, rfl⟩ List.Pairwise.nil (by decide) o.text o.payload hnt hnp (by decide)) ?_))))))); intro v18 w2 E2 R2
 replace hX := hX.tr E2
 replace B6 := Zx B6 E2
 replace hXn := hXn.tr E2
 obtain ⟨x1, x2, hv18, hMk⟩ := R2
 obtain ⟨q1, n1, c1, rfl⟩ := id hMk.keys.shape; obtain ⟨q2, n2, c2, rfl⟩ := id hMk.vals.shape
 subst hv18
 refine Zm ?_
 refine Zb (ZL rfl rfl) (Zb (ZL rfl rfl) (ZR z_84 ?_)); intro b9 w3 hb9 E3 B9
 have hn6_9 := Zn B6 hb9
 have hq9 := Zq hX hb9
 have hl9 := Zl hX hb9
 replace hX := hX.tr E3
 replace B6 := Zx B6 E3
 replace hXn := hXn.tr E3
 have Bo := B9
 refine ZN s_84 rfl rfl rfl (Jg rfl rfl rfl) B9 rfl ?_; intro w4 E4 B9 hz4
 replace hX := hX.mine E4 hl9
 replace B6 := B6.ext E4 (fun h => by omega)
 replace hXn := hXn.own E4 hq9
 refine Za ?_
 refine Zc (ZC (Zs (Zm ?_)))
 refine Zb (Qs rfl rfl) (Zm ?_)
 refine Z3 (d := 23) rfl (fun hg23 => ?_) (fun hg23 => ?_)
 ·refine ZP rfl (Zcb hg23) (ZP rfl (Zcb hg23) (Zb (Z5 (Zcb hg23) (by conv => lhs; whnf)) ?_))
  refine Zc (X5 rfl (Zs (Zm ?_)))
  refine Zb (ZW b_37 rfl rfl (cs := (⟨Q3 o.text o.payload, 0, 0, Qm⟩ : Z9).enc) rfl) (Zm ?_)
  have hXc := hXn
  refine ZH zE rfl (h w4 hXn) ?_; intro v30 w5 E5 hR
  replace hX := hX.wr ZX E5
  refine Za ?_
  refine Zc (ZA ?_)
  exact ⟨_, ZD (Zg rfl), hX, hR.pre ZX hXc.size⟩
 ·refine Zu rfl (Zcb hg23) (Zm ?_)
  refine Zu rfl (Zcb hg23) (Zb (Xa (by kernel_rfl) rfl rfl) (Zb (ZQ (Zcb hg23) (by conv => lhs; whnf)) ?_))
  refine Zc (X5 rfl (Zs (Zm ?_)))
  refine Zb (ZW b_37 rfl rfl (cs := (⟨Q3 o.text o.payload, 0, 0, Qm⟩ : Z9).enc) rfl) (Zm ?_)
  have hXc := hXn
  refine ZH zE rfl (h w4 hXn) ?_; intro v30 w6 E6 hR
  replace hX := hX.wr ZX E6
  refine Za ?_
  refine Zc (ZA ?_)
  exact ⟨_, ZD (Zg rfl), hX, hR.pre ZX hXc.size⟩
theorem pnone1_ok (w : World) {b1 b2 : Nat} {s : Int} (x : Z9) (hs : 0 ≤ s ∧ s ≤ 100) (hne : b1 ≠ b2) (B1 : Zj w b1 x.enc) (B2 : Zj w b2 [.int .i64 s]) : FnM Tryz.prog (fun i => i = b2) 10 #[.agg x.enc.toArray, (Zpt b1), (Zpt b2)] w fun u w' => u = .nilFunc ∧ Zj w' b2 [.int .i64 (s + 1)] := by
 have hl2 : Xj (fun i => i = b2) w b2 := .inl rfl
 have hlt1 := B1.lt; have hlt2 := B2.lt
 have hX := Ext.refl (fun i => i = b2) w
 refine Zfm (args := [_, _, _]) Tryz.func10 rfl rfl ?_
 refine Zs (ZV rfl ?_); intro b3 w1 hb3 E1 B3
 have hn1_3 := Zn B1 hb3
 have hn2_3 := Zn B2 hb3
 have hq3 := Zq hX hb3
 replace hX := hX.tr E1
 replace B1 := Zx B1 E1; replace B2 := Zx B2 E1
 refine Za ?_
 refine Zc (ZC (Zs (Zb (ZS Q2 rfl rfl B3) (Zb (ZS Q2 rfl rfl B1) (Zb (rn_eqlS rfl rfl eg_37 (by decide) (ansM_eqs _ _)) (Zc ?_))))))
 refine ZE rfl (fun hc0 => ?_) (fun hc0 => ?_)
 ·refine ZK (Zb (Zi p_3 rfl B2 rfl) (Zb (Z2 rfl rfl (by omega)) (ZO (b := b2) p_3 rfl (by conv => lhs; whnf) rfl rfl B2 Zbl ?_))); intro w2 E2 B2 hz2
  replace hX := hX.mine E2 hl2
  replace B1 := B1.ext E2 (fun h => by omega); replace B3 := B3.ext E2 (fun h => by omega)
  refine Zc (Zs (Za ?_))
  refine Zc (ZA ?_)
  exact ⟨_, ZD (Zg rfl), hX, ⟨rfl, B2⟩⟩
 ·exact absurd hc0 (by simp)
theorem pnone2_ok (w : World) {b1 : Nat} {s : Int} (hs : 0 ≤ s ∧ s ≤ 100) (B1 : Zj w b1 [.int .i64 s]) : FnM Tryz.prog (fun i => i = b1) 13 #[.agg (⟨1, 0, 0, Qm⟩ : Z9).enc.toArray, (Zpt b1)] w fun u w' => u = .nilFunc ∧ Zj w' b1 [.int .i64 (s + 1)] := by
 have hl1 : Xj (fun i => i = b1) w b1 := .inl rfl
 have hlt1 := B1.lt
 have hX := Ext.refl (fun i => i = b1) w
 refine Zfm (args := [_, _]) Tryz.func13 rfl rfl ?_
 refine Zs (ZV rfl ?_); intro b2 w1 hb2 E1 B2
 have hn1_2 := Zn B1 hb2
 have hq2 := Zq hX hb2
 replace hX := hX.tr E1
 replace B1 := Zx B1 E1
 refine Za ?_
 refine Zc (ZC (Zs (Zb (ZS Q2 rfl rfl B2) (Zb (ZW b_37 rfl rfl (cs := (⟨1, 0, 0, Qm⟩ : Z9).enc) rfl) (Zb (rn_eqlS rfl rfl eg_37 (by decide) (ansM_eqs _ _)) (Zc ?_))))))
 refine ZE rfl (fun hc0 => ?_) (fun hc0 => ?_)
 ·refine ZK (Zb (Zi p_3 rfl B1 rfl) (Zb (Z2 rfl rfl (by omega)) (ZO (b := b1) p_3 rfl (by conv => lhs; whnf) rfl rfl B1 Zbl ?_))); intro w2 E2 B1 hz2
  replace hX := hX.mine E2 hl1
  replace B2 := B2.ext E2 (fun h => by omega)
  refine Zc (Zs (Za ?_))
  refine Zc (ZA ?_)
  exact ⟨_, ZD (Zg rfl), hX, ⟨rfl, B1⟩⟩
 ·exact absurd hc0 (by simp)
theorem wr_no {me b i : Nat} (h : Wr me (fun i => if i = b then 1 else 0) i) : i = b := by
 refine Classical.byContradiction fun e => ?_
 exact zero_nw (G := fun i => if i = b then 1 else 0) (b := i) (if_neg e) h
def noY (nb : Nat) : Sys Int := ⟨fun G w s => Bx 1 G w nb [.int .i64 s], fun h hS => h.same hS (by unfold Cor; omega)⟩
def noO (want : Z9) (p : Unit × Z9) (s : Int) : Out Int := ⟨decide (p.2 = want) && (decide (0 ≤ s) && decide (s ≤ 100)), s + 1, .done⟩
def noP (want x : Z9) : Xt Int := doP (noO want ((), x))
theorem no_mk {me wb nb : Nat} {G : Tg} {w : World} {want : Z9} (hW : Bx 0 G w wb want.enc) (hn : G nb = 1) : XX (noY nb) Tryz.prog me (fun _ : Unit × Z9 => fun _ _ => True) (fun p => #[.agg p.2.enc.toArray]) (noO want) G w (.func (.func 10) #[] #[pt wb, pt nb]) := by
 refine ⟨_, #[], _, rfl, zE, fun p G' w' s hS hM ha hJ => ?_⟩
 have hM' : Bx 1 G' w' nb [.int .i64 s] := hM
 have ha' : (decide (p.2 = want) && (decide (0 ≤ s) && decide (s ≤ 100))) = true := ha
 simp only [Bool.and_eq_true, decide_eq_true_eq] at ha'
 obtain ⟨rfl, ha'⟩ := ha'
 have hW' := hW.same hS (.inl rfl)
 have key := pnone1_ok w' p.2 ha' (fun e => by have h1 := hW'.2; rw [e, hM'.2] at h1; cases h1) hW'.1 hM'.1
 have e9 : (#[] ++ #[.agg p.2.enc.toArray] ++ #[pt wb, pt nb] : Array Value) = #[.agg p.2.enc.toArray, pt wb, pt nb] := by simp
 unfold MkS
 rw [e9]
 refine (key.sub (M' := Wr me G') (fun i hi => .inl (by rw [hi, hM'.2]; exact ⟨Nat.le_refl _, by decide⟩))).mono ?_
 rintro u w1 hE ⟨rfl, hB⟩
 exact ⟨Kx me G' w', ZX, ⟨hB, (Xd hM'.lt).trans hM'.2⟩, rfl⟩
theorem no2_mk {me nb : Nat} {G : Tg} {w : World} (hn : G nb = 1) : XX (noY nb) Tryz.prog me (fun _ : Unit × Z9 => fun _ _ => True) (fun p => #[.agg p.2.enc.toArray]) (noO ⟨1, 0, 0, Qm⟩) G w (.func (.func 13) #[] #[pt nb]) := by
 refine ⟨_, #[], _, rfl, zE, fun p G' w' s hS hM ha hJ => ?_⟩
 have hM' : Bx 1 G' w' nb [.int .i64 s] := hM
 have ha' : (decide (p.2 = (⟨1, 0, 0, Qm⟩ : Z9)) && (decide (0 ≤ s) && decide (s ≤ 100))) = true := ha
 simp only [Bool.and_eq_true, decide_eq_true_eq] at ha'
 obtain ⟨hp, ha'⟩ := ha'
 have key := pnone2_ok w' ha' hM'.1
 have e9 : (#[] ++ #[.agg p.2.enc.toArray] ++ #[pt nb] : Array Value) = #[.agg (⟨1, 0, 0, Qm⟩ : Z9).enc.toArray, pt nb] := by rw [hp]; simp
 unfold MkS
 rw [e9]
 refine (key.sub (M' := Wr me G') (fun i hi => .inl (by rw [hi, hM'.2]; exact ⟨Nat.le_refl _, by decide⟩))).mono ?_
 rintro u w1 hE ⟨rfl, hB⟩
 exact ⟨Kx me G' w', ZX, ⟨hB, (Xd hM'.lt).trans hM'.2⟩, rfl⟩
theorem tt_stb {α : Type} {me : Nat} : Stb me (fun _ : α => fun (_ : Tg) (_ : World) => True) := fun _ _ _ _ _ _ _ => trivial
theorem no_pub {me wb nb : Nat} {G : Tg} {w : World} {s : Int} {want : Z9} (t : Int) (o : OpD) (hnt : o.text.length ≤ 1000000) (hnp : o.payload.length ≤ 1000000) (hW : Bx 0 G w wb want.enc) (hM : (noY nb).SM G w s) :
  MkS (noY nb) Tryz.prog me 9 #[.pointer none, .int .i64 t, .agg o.enc.toArray, .func (.func 10) #[] #[pt wb, pt nb]] G w ⟨true, s, noP want ⟨Q3 o.text o.payload, 0, 0, Qm⟩⟩ := by
 have hM' : Bx 1 G w nb [.int .i64 s] := hM
 refine publish_nil (Y := noY nb) w t o hnt hnp fun w1 hE => ?_
 exact answer_mk (Y := noY nb) (J := fun (_ : Unit) _ _ => True) (x := ()) (ψ := noO want) ((noY nb).same hM (ZB hE)) (no_mk (hW.same (ZB (T := fun t => t = 0) (me := me) hE) rfl) ((Xd hM'.lt).trans hM'.2)) trivial tt_stb
theorem no_bad {me nb : Nat} {G : Tg} {w : World} {s : Int} {pc : Option Addr} (t : Int) (hM : (noY nb).SM G w s) :
  MkS (noY nb) Tryz.prog me 11 #[.pointer pc, .int .i64 t, .agg (⟨77, 0, [], [], false⟩ : OpD).enc.toArray, .func (.func 13) #[] #[pt nb]] G w ⟨true, s, noP ⟨1, 0, 0, Qm⟩ ⟨1, 0, 0, Qm⟩⟩ := by
 have hM' : Bx 1 G w nb [.int .i64 s] := hM
 refine pdo_bad (Y := noY nb) w ⟨77, 0, [], [], false⟩ rfl fun w1 hE => ?_
 exact answer_mk (Y := noY nb) (J := fun (_ : Unit) _ _ => True) (x := ()) (ψ := noO ⟨1, 0, 0, Qm⟩) ((noY nb).same hM (ZB hE)) (no2_mk ((Xd hM'.lt).trans hM'.2)) trivial tt_stb
def NoI (p q : Xt Int) (ps : List (Xt Int)) (s : Int) : Prop := (ps = [p, q] ∧ s = 0) ∨ (ps = [.done, q] ∧ s = 1) ∨ (ps = [p, .done] ∧ s = 1) ∨ (ps = [.done, .done] ∧ s = 2)
def noM (_ : List (Xt Int)) (s : Int) : Nat := (2 - s).toNat
theorem no_sched (x y : Z9) : Sched (NoI (noP x x) (noP y y)) noM := by
 have hp : ∀ (x : Z9) (s : Int), 0 ≤ s → s ≤ 1 → (noO x ((), x) s).al = true := fun x s h1 h2 => by
  unfold noO
  show (decide (x = x) && (decide (0 ≤ s) && decide (s ≤ 100))) = true
  rw [decide_eq_true rfl, decide_eq_true h1, decide_eq_true (by omega : s ≤ 100)]; rfl
 refine ⟨fun ps s i pre ok st nx h hq => ?_, fun ps s h hl => ?_⟩
 ·rcases h with ⟨rfl, rfl⟩ | ⟨rfl, rfl⟩ | ⟨rfl, rfl⟩ | ⟨rfl, rfl⟩
  ·rcases i with _ | _ | i
   ·cases hq; exact ⟨hp x 0 (by decide) (by decide), fun _ => ⟨.inr (.inl ⟨rfl, rfl⟩), by show (2 - (0 + 1 : Int)).toNat < (2 - 0 : Int).toNat; decide⟩⟩
   ·cases hq; exact ⟨hp y 0 (by decide) (by decide), fun _ => ⟨.inr (.inr (.inl ⟨rfl, rfl⟩)), by show (2 - (0 + 1 : Int)).toNat < (2 - 0 : Int).toNat; decide⟩⟩
   ·simp at hq
  ·rcases i with _ | _ | i
   ·cases hq
   ·cases hq; exact ⟨hp y 1 (by decide) (by decide), fun _ => ⟨.inr (.inr (.inr ⟨rfl, rfl⟩)), by show (2 - (1 + 1 : Int)).toNat < (2 - 1 : Int).toNat; decide⟩⟩
   ·simp at hq
  ·rcases i with _ | _ | i
   ·cases hq; exact ⟨hp x 1 (by decide) (by decide), fun _ => ⟨.inr (.inr (.inr ⟨rfl, rfl⟩)), by show (2 - (1 + 1 : Int)).toNat < (2 - 1 : Int).toNat; decide⟩⟩
   ·cases hq
   ·simp at hq
  ·rcases i with _ | _ | i
   ·cases hq
   ·cases hq
   ·simp at hq
 ·rcases h with ⟨rfl, rfl⟩ | ⟨rfl, rfl⟩ | ⟨rfl, rfl⟩ | ⟨rfl, rfl⟩
  ·exact ⟨0, _, _, _, _, rfl, rfl⟩
  ·exact ⟨1, _, _, _, _, rfl, rfl⟩
  ·exact ⟨0, _, _, _, _, rfl, rfl⟩
  ·simp [Xt.isMk] at hl
theorem no_end {x y : Z9} {ps : List (Xt Int)} {s : Int} (h : NoI (noP x x) (noP y y) ps s) (hd : ps.any Xt.isMk = false) : s = 2 := by
 rcases h with ⟨rfl, rfl⟩ | ⟨rfl, rfl⟩ | ⟨rfl, rfl⟩ | ⟨rfl, rfl⟩
 ·cases hd
 ·cases hd
 ·cases hd
 ·rfl
set_option maxHeartbeats 3200000 in
theorem pubNone_ok (w : World) (tp pl : Str) : Fn Tryz.prog 3 #[Sv tp, Sv pl] w fun u w' => u = .bool true := by
 have hX := Ext.refl Non w
 refine Zfw (args := [_, _]) Tryz.func3 rfl rfl ?_
 refine Zs (Za ?_)
 refine Zc (ZC (Zs (Zw zE rfl (awake_w w) ?_))); intro v9 w1 E1 R1
 replace hX := hX.tr E1
 subst R1
 refine Zb (Xs rfl) (Zc ?_)
 refine ZE rfl (fun hc0 => ?_) (fun hc0 => ?_)
 ·exact absurd hc0 (by decide)
 ·refine ZG (ZC (Zs (Zm ?_)))
  refine Zb (XS X7 rfl) (Zb (QK rfl rfl) (Zm ?_))
  refine Z3 (d := 14) rfl (fun hg14 => ?_) (fun hg14 => ?_)
  ·refine ZP rfl (Zcb hg14) (ZP rfl (Zcb hg14) (ZP rfl (Zcb hg14) (Zb (Z5 (Zcb hg14) (by conv => lhs; whnf)) ?_)))
   refine Zc (X5 rfl (Zs (Za ?_)))
   refine Zc (ZA ?_)
   exact ⟨_, ZD (Zg rfl), hX, rfl⟩
  ·have htl : tp.length ≤ 100 := by have := of_decide_eq_false hg14; omega
   refine Zu rfl (Zcb hg14) (Zm ?_)
   refine Zu rfl (Zcb hg14) (Zb (XS X7 rfl) (Zu rfl (Zcb hg14) (Zb (QK rfl rfl) (Zb (ZQ (Zcb hg14) (by conv => lhs; whnf)) ?_))))
   refine Zc ?_
   refine ZE rfl (fun hc1 => ?_) (fun hc1 => ?_)
   ·refine Zs (Za ?_)
    refine Zc (ZA ?_)
    exact ⟨_, ZD (Zg rfl), hX, rfl⟩
   ·have hpl : pl.length ≤ 100 := by have := of_decide_eq_false hc1; omega
    refine ZG (Zs (Zw zE rfl (rnew18_ok w1) ?_)); intro v20 w2 E2 R2
    replace hX := hX.tr E2
    obtain ⟨rb, rq, rd, rfl⟩ := R2
    refine Zm (Zm ?_)
    refine Zb (ZW b_42 rfl rfl (cs := (⟨3, 0, tp, pl, false⟩ : OpD).enc) rfl) (Zw zE rfl (rdo18_ok w2 tp pl (by omega)) ?_); intro v24 w3 E3 R3
    replace hX := hX.tr E3
    subst R3
    refine Zm ?_
    refine Zb (ZL rfl rfl) (Zb (ZL rfl rfl) (ZR z_32 ?_)); intro b5 w4 hb5 E4 B5
    have hq5 := Zq hX hb5
    have hl5 := Zl hX hb5
    replace hX := hX.tr E4
    refine ZR z_37 ?_; intro b6 w5 hb6 E5 B6
    have hn5_6 := Zn B5 hb6
    have hq6 := Zq hX hb6
    have hl6 := Zl hX hb6
    replace hX := hX.tr E5
    replace B5 := Zx B5 E5
    refine ZN s_32 rfl rfl rfl (eight1 rfl rfl rfl rfl rfl rfl rfl rfl) B5 rfl ?_; intro w6 E6 B5 hz6
    replace hX := hX.mine E6 hl5
    replace B6 := B6.ext E6 (fun h => by omega)
    refine ZN Q2 rfl rfl rfl (Z9.one _) B6 rfl ?_; intro w7 E7 B6 hz7
    replace hX := hX.mine E7 hl6
    replace B5 := B5.ext E7 (fun h => by omega)
    refine Zc (Zs (ZR z_3 ?_)); intro b7 w8 hb7 E8 B7
    have hn5_7 := Zn B5 hb7
    have hn6_7 := Zn B6 hb7
    have hq7 := Zq hX hb7
    have hl7 := Zl hX hb7
    replace hX := hX.tr E8
    replace B5 := Zx B5 E8; replace B6 := Zx B6 E8
    refine ZO (b := b7) p_3 rfl (by conv => lhs; whnf) rfl rfl B7 Zbl ?_; intro w9 E9 B7 hz9
    replace hX := hX.mine E9 hl7
    replace B5 := B5.ext E9 (fun h => by omega); replace B6 := B6.ext E9 (fun h => by omega)
    refine Zc (Zs (Zm (Zm ?_)))
    refine Zb (ZW b_42 rfl rfl (cs := (⟨0, 0, tp, pl, false⟩ : OpD).enc) rfl) (Zb (ZJ rfl) ?_)
    have hXa := hX.size
    obtain ⟨G0, hG0⟩ : ∃ G : Tg, G = fun i => if i = b7 then 1 else 0 := ⟨_, rfl⟩
    have g5 : G0 b5 = 0 := by rw [hG0]; exact if_neg (by omega)
    have g6 : G0 b6 = 0 := by rw [hG0]; exact if_neg (by omega)
    have g7 : G0 b7 = 1 := by rw [hG0]; exact if_pos rfl
    have gz : ∀ i, i < w.heap.size → G0 i = 0 := fun i hi => by rw [hG0]; exact if_neg (by omega)
    have hlb5 := B5.lt; have hlb6 := B6.lt; have hlb7 := B7.lt
    refine ZH zE rfl (no_pub (me := 0) (nb := b7) (wb := b6) (G := G0) (s := 0) (want := (⟨Q3 tp pl, 0, 0, Qm⟩ : Z9)) 0 ⟨0, 0, tp, pl, false⟩ (by show tp.length ≤ 1000000; omega) (by show pl.length ≤ 1000000; omega) ⟨B6, g6⟩ ⟨B7, g7⟩) ?_; intro v31 w10 E10 hR31
    obtain ⟨G1, t1, s1, p1⟩ := hR31
    have hXb := E10.size
    replace hX := hX.own2 E10 (fun i hi => .inr (by rw [hG0] at hi; rw [wr_no hi]; exact hq7))
    replace B5 := B5.ext E10 (zero_nw g5); replace B6 := B6.ext E10 (zero_nw g6); have B7 : Zj w10 b7 [.int .i64 0] := s1.1
    have g7a : G1 b7 = 1 := s1.2
    have g5a : G1 b5 = 0 := (t1.tag _ hlb5).trans g5
    have g6a : G1 b6 = 0 := (t1.tag _ hlb6).trans g6
    obtain ⟨f31, cp31, hv31⟩ : ∃ f cap, v31 = .func (.func f) #[] cap := by obtain ⟨f, cap, h, _⟩ := p1; exact ⟨f, cap, h⟩
    subst hv31
    obtain ⟨wa, hwa⟩ : ∃ x, x = w10 := ⟨_, rfl⟩
    rw [← hwa] at p1 hXb
    have hXA : Ext Non wa w10 := by rw [hwa]; exact Ext.refl _ _
    refine Zw zE rfl (cnew_w w10 1 1 (by decide) (by decide) (by decide)) ?_; intro v32 w11 E11 hR11
    replace hX := hX.tr E11
    replace B5 := Zx B5 E11; replace B6 := Zx B6 E11; replace B7 := Zx B7 E11
    replace hXA := hXA.tr E11
    obtain ⟨cB, hcB⟩ : ∃ c, v32 = pt c := by obtain ⟨ep, pn, pc, psp, pl, gp, lk, rt, c, lv, rv, po, ro, ps, rg, N1, N2, N3, N4, N5, N6, h, _⟩ := hR11; exact ⟨c, h⟩
    subst hcB
    refine Zb (ZW b_42 rfl rfl (cs := (⟨77, 0, [], [], false⟩ : OpD).enc) rfl) (Zb (ZJ rfl) ?_)
    have hlb5 := B5.lt; have hlb6 := B6.lt; have hlb7 := B7.lt; have hXc := hXA.size
    refine ZH zE rfl (no_bad (me := 1) (nb := b7) (G := G1) (s := 0) 1 ⟨B7, g7a⟩) ?_; intro v35 w12 E12 hR35
    obtain ⟨G2, t2, s2, p2⟩ := hR35
    have p1b := p1.same ((ZY.of_non hXA fun _ _ => rfl).trans (t2.other E12 (by decide)))
    replace hX := hX.own2 E12 (fun i hi => .inr (by
     refine Classical.byContradiction fun hn => ?_
     exact zero_nw ((t1.tag i (by omega)).trans (gz i (by omega))) hi))
    replace B5 := B5.ext E12 (zero_nw g5a); replace B6 := B6.ext E12 (zero_nw g6a); have B7 : Zj w12 b7 [.int .i64 0] := s2.1
    have g7b : G2 b7 = 1 := s2.2
    have g5b : G2 b5 = 0 := (t2.tag _ hlb5).trans g5a
    have g6b : G2 b6 = 0 := (t2.tag _ hlb6).trans g6a
    have gzb : ∀ i, i < w.heap.size → G2 i = 0 := fun i hi => (t2.tag i (by omega)).trans ((t1.tag i (by omega)).trans (gz i hi))
    obtain ⟨f35, cp35, hv35⟩ : ∃ f cap, v35 = .func (.func f) #[] cap := by obtain ⟨f, cap, h, _⟩ := p2; exact ⟨f, cap, h⟩
    subst hv35
    obtain ⟨wb, hwb⟩ : ∃ x, x = w12 := ⟨_, rfl⟩
    rw [← hwb] at p1b p2
    have hXB : Ext Non wb w12 := by rw [hwb]; exact Ext.refl _ _
    refine wl_lit Jj (rows := [.func (.func f31) #[] cp31, .func (.func f35) #[] cp35].map eV) rfl (by decide) (by decide) rfl rfl (by intro r hr; obtain ⟨x, _, rfl⟩ := List.mem_map.1 hr; rfl) (by intro p hp; simp at hp; rcases hp with rfl | rfl <;> exact ⟨rfl, Nat.le_of_ble_eq_true rfl⟩) rfl ?_; intro v36 w13 b36 hb36 E13 hO36
    obtain ⟨c36, rfl, _⟩ := id hO36.val
    replace hX := hX.tr E13
    replace B5 := Zx B5 E13; replace B6 := Zx B6 E13; replace B7 := Zx B7 E13
    replace hXB := hXB.tr E13
    refine ZH zE rfl (run_w w13 (no_sched (⟨Q3 tp pl, 0, 0, Qm⟩ : Z9) (⟨1, 0, 0, Qm⟩ : Z9)) (Y := noY b7) (G := G2) (ps := [noP (⟨Q3 tp pl, 0, 0, Qm⟩ : Z9) (⟨Q3 tp pl, 0, 0, Qm⟩ : Z9), noP (⟨1, 0, 0, Qm⟩ : Z9) (⟨1, 0, 0, Qm⟩ : Z9)]) (s := 0) (vs := [.func (.func f31) #[] cp31, .func (.func f35) #[] cp35]) (hO36.sl (M := Non) id) (by simp) rfl (fun i p v hp hv => ?_) ⟨B7, g7b⟩ (.inl ⟨rfl, rfl⟩) (by show (2 - (0 : Int)).toNat ≤ 65536; decide) (by show 2 ≤ 1000; decide) (Sl.nil _ _ _) (by decide) (picks := [])) ?_
    ·rcases i with _ | _ | i
     ·cases hp; cases hv; exact p1b.same (ZY.of_non hXB fun _ _ => rfl)
     ·cases hp; cases hv; exact p2.same (ZY.of_non hXB fun _ _ => rfl)
     ·simp at hp
    intro v37 w14 E14 hR37
    obtain ⟨cf, mv, calls, rfl, hSM, hInv, hdone, _, _, hmv⟩ := hR37
    have hend := no_end hInv hdone
    have hSM' : Bx 1 cf.G w14 b7 [.int .i64 cf.s] := hSM
    replace hX := hX.own2 E14 (fun i hi => .inr (by
     refine Classical.byContradiction fun hn => ?_
     exact mw0 hi (gzb i (by omega))))
    replace B5 := B5.ext E14 (fun h => mw0 h g5b); replace B6 := B6.ext E14 (fun h => mw0 h g6b); have B7 : Zj w14 b7 [.int .i64 2] := by rw [← hend]; exact hSM'.1
    refine ZR z_44 ?_; intro b8 w15 hb8 E15 B8
    have hn5_8 := Zn B5 hb8
    have hn6_8 := Zn B6 hb8
    have hn7_8 := Zn B7 hb8
    have hq8 := Zq hX hb8
    have hl8 := Zl hX hb8
    replace hX := hX.tr E15
    replace B5 := Zx B5 E15; replace B6 := Zx B6 E15; replace B7 := Zx B7 E15
    refine ZN s_44 rfl rfl rfl (Jg hmv rfl rfl) B8 rfl ?_; intro w16 E16 B8 hz16
    replace hX := hX.mine E16 hl8
    replace B5 := B5.ext E16 (fun h => by omega); replace B6 := B6.ext E16 (fun h => by omega); replace B7 := B7.ext E16 (fun h => by omega)
    refine Zc (Zs (Zb (Zf f_44_2 rfl) (Zb (Zi p_33 rfl B8 rfl) (Zb (Z8 rfl rfl) (Zm ?_)))))
    refine Z3 (d := 41) rfl (fun hg41 => ?_) (fun hg41 => ?_)
    ·refine Zu rfl (Zcb hg41) (Zb (Zi p_3 rfl B7 rfl) (Zu rfl (Zcb hg41) (Zb (Z8 rfl rfl) (Zb (Z5 (Zcb hg41) (by conv => lhs; whnf)) ?_))))
     refine Za ?_
     refine Zc (ZA ?_)
     exact ⟨_, ZD (Zg rfl), hX, rfl⟩
    ·exact absurd hg41 (by decide)
end Go.Proofs.YtjklgohpminefaaGreatDoorC
namespace Go.Proofs.YtjklgohpminefaaGreatDoorC
open Go.ChangeShapes Go.WideShapes Go.ChangeAt Go.RowKit
theorem law_liftedL {laidL : List (String × DataW Unit)} {a : Assume} {C : Checked} {os : Os} {f : FuncId} {fn : Func} {s : ChangeSpec} {conds : List PathCond} {apart fresh handsOn : Bool} {H : Type} {enc : TypeId × Value → H} {tb : TypeId}
  (own : ownKnob C.prog.godebug = none) (started : os.Started) (noInit : C.prog.inits.idxOf? f = none) (hfn : C.prog.funcs[f]? = some fn)
  (witness : ∃ (w : World) (tape : Tape) (i : Input), w.os = os ∧ (w.forCall tape i).Shaped C.prog ∧ i.vars = [] ∧ Input.okWide C.prog (w.forCall tape i) .any w.heap.size f i ∧
   ((s.pre enc C.prog fn conds apart (w.forCall tape i).memory i.args ∧ laidMetH C.prog laidL (w.forCall tape i).memory) ∧ sizedMet enc C.prog fn (OpenSpec.ofChange s) apart (w.forCall tape i).memory i.args) ∧ a.holds C.prog (lone (Frame.enter C.prog f i.args .normal) [] (w.forCall tape i)))
  (laid : laidOutB C.prog = true) (hts : (fn.params.toList.all fun t => C.prog.readableRec t && decide (t < C.prog.types.size)) = true) (hres : fn.resultTypes.toList = [tb]) (htb : C.prog.underlying tb = some .bool) (hvars : s.vars = [])
  (hs : ∀ ds : List (DataW H), ds.length = fn.params.toList.length → s.fn H ds = { results := [.lit (.bool true)], args := ds })
  (contract : ∀ (W : World) (base : Nat) (args : Array Value) (ds : List (DataW H)) (ps : List MemPlace), (∀ (j : Nat) t v, fn.params[j]? = some t → args[j]? = some v → Value.okWide C.prog W .any base t v) →
   DataW.TrodAll enc C.prog W 0 (fun _ => true) true fn.params.toList args.toList ds ps → laidMetH C.prog laidL W → Fn C.prog f args W fun v _ => v = .bool true) :
  ReturnsInHanded a C os f .any (fun w args => (s.pre enc C.prog fn conds apart w args ∧ laidMetH C.prog laidL w) ∧ sizedMet enc C.prog fn (OpenSpec.ofChange s) apart w args) (s.post enc C.prog fn apart fresh handsOn false) := by
 refine returnsInHanded_of_change_and (X := fun w _ => laidMetH C.prog laidL w) (fun _ _ _ hh h => h.of_heap hh) own started noInit hfn witness ?_
 intro W base args ds gs before hval hW _ _ hL _
 have hW' := hW
 obtain ⟨p, q, hA, hV, rfl, _, _⟩ := hW
 rw [hvars] at hV
 obtain ⟨rfl, rfl⟩ := trodVars_none hV
 refine Calls.mono (contract W base args ds p hval hA hL) fun e W' ⟨v, he, hE, hv⟩ => ?_
 subst hv
 refine ⟨_, he, ?_⟩
 have hlen : ∀ (ts : List TypeId) (vs : List Value) (ds : List (DataW H)) (ps : List MemPlace), DataW.TrodAll enc C.prog W 0 (fun _ => true) true ts vs ds ps → ds.length = ts.length := by
  intro ts
  induction ts with
  | nil => intro vs ds ps h; cases vs <;> cases ds <;> first | rfl | exact h.elim
  | cons t ts ih =>
   intro vs ds ps h
   cases vs with
   | nil => exact h.elim
   | cons v vs =>
    cases ds with
    | nil => exact h.elim
    | cons d ds => obtain ⟨p, q, _, h2, _⟩ := h; simp [ih _ _ _ h2]
 have hfn' : s.fn H (ds ++ []) = { results := [.lit (.bool true)], args := ds } := by rw [List.append_nil]; exact hs ds (hlen _ _ _ _ hA)
 refine ⟨ds, [], p ++ [], [], p, [], hW', ?_, ?_, ?_, hE.below.frame _, fun h => by cases h⟩
 ·rw [hfn', hres]
  have : fn.resultTypes.size = 1 := by rw [← Array.length_toList, hres]; rfl
  rw [this]
  exact trodAll_mk1 (shut_bool htb true)
 ·rw [hfn']
  exact trodAll_stays laid hE.below _ _ _ _ hts hA (fun x hx => by simpa using hW'.lt x (by simp [hx]))
 ·rw [hfn', hvars]; rfl
end Go.Proofs.YtjklgohpminefaaGreatDoorC
namespace Go.Proofs.YtjklgohpminefaaGreatDoor
open Go.RowKit Go.Proofs.YtjklgohpminefaaGreatDoorC Go.ChangeShapes
theorem own3 : ownKnob Tryz.prog.godebug = none := by kernel_rfl
theorem laidOut3 : laidOutB Tryz.prog = true := by kernel_rfl
end Go.Proofs.YtjklgohpminefaaGreatDoor
