/- What the law of many publishers looks at. -/
import Derived.Test.YtjklgohpminefaaGreatDoorBunQ18
import Derived.Test.YtjklgohpminefaaGreatDoorBunQ3
import Derived.Lib.Builder
import Derived.Lib.AppendIntMem
import Derived.Lib.ConvBytes
import Derived.Lib.AtoiErrMem
import Derived.Laws.AppendOwn
import Derived.Laws.BytesArg
import Derived.WideLaws
import Derived.Laws.Build
import Derived.Test.YtjklgohpminefaaGreatDoorBunQ2
import Derived.LaidMore
import Derived.Lay
import Derived.OpenShut
import Derived.Stop.Joined
import Derived.Test.YtjklgohpminefaaGreatDoorBunQ6
import Derived.Test.YtjklgohpminefaaGreatDoorBunQ5
import Derived.Test.YtjklgohpminefaaGreatDoorRows
import Derived.Test.YtjklgohpminefaaGreatDoorBunQ1

set_option linter.unusedVariables false
set_option linter.unusedSimpArgs false
set_option maxRecDepth 1000000
namespace Go.Proofs.YtjklgohpminefaaGreatDoorC
open Go.RowKit
theorem told_get {cs log : List Z4} (h : Told cs log) {i : Nat} {c : Z4} (hc : cs[i]? = some c) : ∃ q p, log[i]? = some q ∧ c = { q with place := p } := by
 have hl := (List.getElem?_eq_some_iff.1 hc).1
 obtain ⟨q, hq⟩ : ∃ q, log[i]? = some q := ⟨_, List.getElem?_eq_getElem (by rw [← h.1]; exact hl)⟩
 obtain ⟨p, hp⟩ := h.2 i q hq
 rw [hc] at hp
 exact ⟨q, p, hq, Option.some.inj hp⟩
theorem told_any {cs log : List Z4} (h : Told cs log) (hd : ∀ (i : Nat) q, log[i]? = some q → q.to_ ≠ 0) : cs.any (fun q => decide (q.to_ = 0)) = false := by
 rw [Bool.eq_false_iff]
 intro ha
 rw [List.any_eq_true] at ha
 obtain ⟨c, hc, h0⟩ := ha
 obtain ⟨i, hi, rfl⟩ := List.getElem_of_mem hc
 obtain ⟨q, p, h1, h2⟩ := told_get h (List.getElem?_eq_getElem hi)
 rw [h2] at h0
 exact hd i q h1 (of_decide_eq_true h0)
def smA (cs : List Z4) (i : Nat) : Int := ((cs.take i).map fun c : Z4 => c.ans.a).sum
def smB (cs : List Z4) (i : Nat) : Int := ((cs.take i).map fun c : Z4 => c.ans.b).sum
theorem smA_next {cs : List Z4} {i : Nat} {c : Z4} (h : cs[i]? = some c) : smA cs (i + 1) = smA cs i + c.ans.a := by
 unfold smA
 rw [List.take_add_one, h, List.map_append, List.sum_append]; simp
theorem smB_next {cs : List Z4} {i : Nat} {c : Z4} (h : cs[i]? = some c) : smB cs (i + 1) = smB cs i + c.ans.b := by
 unfold smB
 rw [List.take_add_one, h, List.map_append, List.sum_append]; simp
theorem told_sum {cs log : List Z4} (f : Xl → Int) (h : Told cs log) : (cs.map fun c : Z4 => f c.ans) = (log.map fun c : Z4 => f c.ans) := by
 apply List.ext_getElem?
 intro i
 rw [List.getElem?_map, List.getElem?_map]
 cases hc : cs[i]? with
 | none =>
  have := List.getElem?_eq_none_iff.1 hc
  rw [List.getElem?_eq_none (by rw [← h.1]; exact this)]
 | some c =>
  obtain ⟨q, p, h1, h2⟩ := told_get h hc
  rw [h1, h2]; rfl
def OneEach (cs : List Z4) : Prop := ∀ (i : Nat) c, cs[i]? = some c → ∃ b : Bool, c.ans = Jq (if b = true then (1, 0) else (0, 1))
theorem OneEach.ab {cs : List Z4} (h : OneEach cs) {i : Nat} {c : Z4} (hc : cs[i]? = some c) : c.ans.a + c.ans.b = 1 ∧ 0 ≤ c.ans.a ∧ 0 ≤ c.ans.b := by
 obtain ⟨b, e⟩ := h i c hc
 rw [e]; cases b <;> decide
theorem OneEach.sums {cs : List Z4} (h : OneEach cs) : ∀ i, i ≤ cs.length → smA cs i + smB cs i = (i : Nat) ∧ 0 ≤ smA cs i ∧ 0 ≤ smB cs i
 | 0, _ => ⟨rfl, Int.le_refl _, Int.le_refl _⟩
 | i + 1, hi => by
  obtain ⟨h1, h2, h3⟩ := h.sums i (by omega)
  have hc : cs[i]? = some cs[i] := List.getElem?_eq_getElem (by omega)
  obtain ⟨k1, k2, k3⟩ := h.ab hc
  rw [smA_next hc, smB_next hc]
  omega
theorem once_told {room n : Nat} {s : St} {q : RgD} {msgs : List XI} {cs : List Z4} (h : OnceR room n s q msgs) (hT : Told cs s.log) : cs.length = n ∧ OneEach cs ∧ cs.any (fun q => decide (q.to_ = 0)) = false ∧ smA cs n = (msgs.length : Nat) ∧ smB cs n = q.drops ∧ msgs.length = (if room < n then room else n) ∧ msgs.length ≤ room ∧ msgs.length ≤ n := by
 have hl : cs.length = n := hT.1.trans h.len
 have hO : OneEach cs := fun i c hc => by
  obtain ⟨q, p, h1, rfl⟩ := told_get hT hc
  exact (h.log q (List.mem_of_getElem? h1)).2
 have hA : smA cs n = (msgs.length : Nat) := by
  unfold smA; rw [List.take_of_length_le (by omega), told_sum (fun x => x.a) hT, ← h.ca, h.rg.puts]
 have hB : smB cs n = q.drops := by
  unfold smB; rw [List.take_of_length_le (by omega), told_sum (fun x => x.b) hT, ← h.cd]
 obtain ⟨k1, k2, k3⟩ := hO.sums n (by omega)
 have hd := h.rg.dr; have hle := h.rg.le
 refine ⟨hl, hO, told_any hT fun i q hq => (h.log q (List.mem_of_getElem? hq)).1, hA, hB, ?_, hle.2, by omega⟩
 by_cases h0 : 0 < q.drops
 ·have := hd.2 h0
  rw [if_pos (by omega)]; exact this
 ·rw [if_neg (by omega)]; omega
theorem msgO_at {n : Nat} {msgs : List XI} (h : ∀ m ∈ msgs, ∃ j, j < n ∧ m = msgO j) {i : Nat} (hi : i < msgs.length) : ∃ j, j < n ∧ msgs[i]? = some (msgO j) := by
 obtain ⟨j, h1, h2⟩ := h _ (List.getElem_mem hi)
 exact ⟨j, h1, by rw [List.getElem?_eq_getElem hi, h2]⟩
theorem payO_nat {j : Nat} (h : j < 16) : (payO j).toNat = 65 + j := by
 unfold payO; rw [UInt8.toNat_ofNat']; omega
def SeenI (msgs : List XI) (n i : Nat) (sb : List Bool) : Prop := sb.length = n ∧ ∀ j, sb[j]? = some true → ∃ k, k < i ∧ msgs[k]? = some (msgO j)
theorem SeenI.zero {msgs : List XI} {n : Nat} : SeenI msgs n 0 (List.replicate n false) := ⟨List.length_replicate, fun j hj => by
 rw [List.getElem?_replicate] at hj; split at hj <;> cases hj⟩
theorem SeenI.fresh {msgs : List XI} {n i j : Nat} {sb : List Bool} (h : SeenI msgs n i sb) (hn : n ≤ 16) (hnd : msgs.Nodup) (hj : j < n) (hm : msgs[i]? = some (msgO j)) : sb[j]? = some false := by
 have hl := h.1
 obtain ⟨b, hb⟩ : ∃ b, sb[j]? = some b := ⟨_, List.getElem?_eq_getElem (by omega)⟩
 cases b with
 | false => exact hb
 | true =>
  obtain ⟨k, hk, hk2⟩ := h.2 j hb
  have := Ya hnd hm hk2
  omega
theorem SeenI.next {msgs : List XI} {n i j : Nat} {sb : List Bool} (h : SeenI msgs n i sb) (hm : msgs[i]? = some (msgO j)) : SeenI msgs n (i + 1) (sb.set j true) := by
 refine ⟨by rw [List.length_set]; exact h.1, fun x hx => ?_⟩
 by_cases e : j = x
 ·subst e; exact ⟨i, by omega, hm⟩
 ·rw [List.getElem?_set_ne e] at hx
  obtain ⟨k, hk, hk2⟩ := h.2 x hx
  exact ⟨k, by omega, hk2⟩
def ThsM (w : World) (n1 : Nat) (ao : Option Nat) (ths : List (List OpD × Value)) : Prop := ∀ (j : Nat) q, ths[j]? = some q → q.1 = [Xx j] ∧ ∃ b, Ow w q.2 b 5 [(Xx j).enc] [] ∧ n1 ≤ b ∧ ao ≠ some b
theorem ThsM.non {w w' : World} {n1 : Nat} {ao : Option Nat} {ths : List (List OpD × Value)} (h : ThsM w n1 ao ths) (hE : Ext Non w w') : ThsM w' n1 ao ths := fun j q hq => by
 obtain ⟨h1, b, h2, h3⟩ := h j q hq; exact ⟨h1, b, h2.ext hE id, h3⟩
theorem ThsM.app {w1 w' : World} {n1 : Nat} {ao o' : Option Nat} {ths : List (List OpD × Value)} {v : Value} {b : Nat} (h : ThsM w1 n1 ao ths) (hv : Ow w1 v b 5 [(Xx ths.length).enc] []) (hb : n1 ≤ b) (hn : ao ≠ some b) (hE : Ext (fun i => ao = some i) w1 w') (ho : ∀ i, o' = some i → ao = some i ∨ w1.heap.size ≤ i) : ThsM w' n1 o' (ths ++ [([Xx ths.length], v)]) := fun j q hq => by
 by_cases hj : j < ths.length
 ·rw [List.getElem?_append_left hj] at hq
  obtain ⟨h1, b2, h2, h3, h4⟩ := h j q hq
  refine ⟨h1, b2, h2.ext hE (fun e => h4 e), h3, fun e => ?_⟩
  rcases ho b2 e with h5 | h5
  ·exact h4 h5
  ·have := h2.box.lt; omega
 ·have hl := (List.getElem?_eq_some_iff.1 hq).1
  simp only [List.length_append, List.length_singleton] at hl
  obtain rfl : j = ths.length := by omega
  rw [List.getElem?_append_right (Nat.le_refl _), Nat.sub_self] at hq
  cases hq
  refine ⟨rfl, b, hv.ext hE (fun e => hn e), hb, fun e => ?_⟩
  rcases ho b e with h5 | h5
  ·exact hn h5
  ·have := hv.box.lt; omega
theorem ThsM.nil {w : World} {n1 : Nat} {ao : Option Nat} : ThsM w n1 ao [] := fun j q hq => by simp at hq
theorem ths_start {room n : Nat} {w : World} {n1 : Nat} {ao : Option Nat} {ths : List (List OpD × Value)} (h : ThsM w n1 ao ths) (hl : ths.length = n) (hr : 1 ≤ room ∧ room ≤ 16) (hn : n ≤ 16) : InvO room n (Jb ths (stS room)) (stS room) ∧ muO (Jb ths (stS room)) (stS room) ≤ 65536 := by
 have e := once_plans n ths (stS room) hl fun j q hq => (h j q hq).1
 have hI := once_begin hr hn
 refine ⟨⟨_, e, hI⟩, ?_⟩
 rw [e, muO_eq (hI.ver.loc hI.root)]
 have := sumN_le (fun p : Ph => 11 - p.k) 11 (List.replicate n ⟨0, 0, false⟩) fun x _ => Nat.sub_le _ _
 rw [List.length_replicate] at this
 unfold muP; omega
section
variable {ro : Option Nat} {P : Program} {n : Nat} {Q : QH} {σ : Env} {D : List Deferred} {w : World} {dst : Option Nat} {ty : TypeId} {pos : String} {af : Array Edge} {g : Option (Nat × Bool)}
variable {ops rest : List Oper} {K : Ops} {S : World → Prop} {ex : Nat → Bool}
def eC (c : UInt8) : List Value := [.int .u8 c.toNat]
theorem eC_flat : ∀ l : Str, (l.map eC).flatten = Lib.byteCells l
 | [] => rfl
 | c :: l => by simp only [List.map_cons, List.flatten_cons, eC_flat l]; rfl
theorem rn_fromBytes {t u e : TypeId} {x : Operand} {l : Str} (ht : P.underlying t = some (.slice e)) (hu : P.underlying u = some .string) (he : P.underlying e = some (.int .u8)) {M : Nat → Prop} {v : Value} (hx : ev σ x = v) (hs : Sl M w v 1 (l.map eC)) : Rn P σ w ⟨dst, .convert t u x, ty, pos, af, g⟩ (Sv l) := by
 obtain ⟨⟨a, c, hv, hc1, hc2, hc3⟩, heach⟩ := hs
 show (execOp (ev σ) _).run P w = _
 subst hv
 simp only [List.length_map] at hx hc1
 have key : (convert t u (.slice a l.length c)).run P w = .ok (Sv l) w := by
  rcases hc3 with h0 | ⟨b, o, rfl, _, _, h2⟩
  ·have hl : l = [] := by simpa using h0
   subst hl
   cases a with
   | none => rw [run_convert_bytes_nil w t e ht he _ _ _ hu]; rfl
   | some a =>
    have := run_bytesToString (P := P) w a 0 c [] (by simp [loadCells, loadCellsFrom])
    show (convert t u (.slice (some a) 0 c)).run P w = _
    rw [run_convert_bytes_string w t u e (some a) 0 c ht he hu, this]; rfl
  ·have := run_convert_bytes_arg w t e ht he b o l.length c (l.map fun x : UInt8 => ((x.toNat : Nat) : Int)) (by simp) (fun i hi => by
    have h3 := h2 i (by rw [eC_flat]; simpa [Lib.byteCells] using hi)
    rw [h3, eC_flat]; simp [Lib.byteCells, hi, List.getD]) u hu
   rw [this]
   have : strOfNums (l.map fun x : UInt8 => ((x.toNat : Nat) : Int)) = ⟨l.toArray⟩ := by
    unfold strOfNums; simp [List.map_map, Function.comp_def]
   rw [this]
 simp [execOp, hx, key]
theorem wrapB {a : Int} (h : 0 ≤ a ∧ a ≤ 255) : IntKind.u8.wrap a = a := by
 have hm : a % 256 = a := by omega
 unfold IntKind.wrap; simp [IntKind.bits, IntKind.signed, hm]
end
theorem EqS.monoM {P : Program} {m m' : Nat} {t : TypeId} {a b : Value} {r : Bool} (h : EqS P m t a b r) (hm : m ≤ m') : EqS P m' t a b r := fun d w hd => h d w (Zle hm hd)
theorem ansM_eqs (x y : Xl) : EqS Tryz.prog 3 37 (.agg x.enc.toArray) (.agg y.enc.toArray) (decide (x = y)) := by
 have p1 : ∀ z : Xl, (z.enc.toArray).extract 3 (3 + 3) = z.msg.enc.toArray := fun z => by simp [Xl.enc, XI.enc]
 have hm : EqS Tryz.prog 2 35 (.agg ((x.enc.toArray).extract 3 (3 + 3))) (.agg ((y.enc.toArray).extract 3 (3 + 3))) (decide (x.msg = y.msg)) := by rw [p1, p1]; exact msg_eqs _ _
 have h := eqs_struct (P := Tryz.prog) (t := 37) (m := 2) (xs := x.enc.toArray) (ys := y.enc.toArray) (by kernel_rfl) sh_37 fs_37
  (EqF.cons rfl (QU p_33 rfl) (QU p_33 rfl) ((eqs_int ui_33).monoM (by decide)) (EqF.cons rfl (QU p_3 rfl) (QU p_3 rfl) ((eqs_int JF).monoM (by decide)) (EqF.cons rfl (QU p_3 rfl) (QU p_3 rfl) ((eqs_int JF).monoM (by decide)) (EqF.cons rfl (part_s s_35) (part_s s_35) hm .nil))))
 rw [show decide (x = y) = (decide (x.err = y.err) && (decide (x.a = y.a) && (decide (x.b = y.b) && (decide (x.msg = y.msg) && true)))) from ?_]
 ·exact h
 ·obtain ⟨a, b, c, d⟩ := x; obtain ⟨a', b', c', d'⟩ := y
  by_cases h1 : a = a' <;> by_cases h2 : b = b' <;> by_cases h3 : c = c' <;> by_cases h4 : d = d' <;> simp [h1, h2, h3, h4]
set_option maxHeartbeats 1600000 in
theorem awake_w (w : World)  : Fn Tryz.prog 5 #[] w fun u w' => u = .bool true := by
 obtain ⟨t, ca, cb, hex, hlog, hban, hca, hcb⟩ := aw_ex
 have hX := Ext.refl Non w
 refine Zfw (args := []) Tryz.func5 rfl rfl ?_
 refine Zs (Za ?_)
 refine Zc (Zs (Zw zE rfl (cnew_w w 1 1 (by decide) (by decide) (by decide)) ?_)); intro v4 w1 E1 R1
 replace hX := hX.tr E1
 have hNew := R1
 obtain ⟨cB, hcB⟩ : ∃ c, v4 = pt c := by obtain ⟨ep, pn, pc, psp, pl, gp, lk, rt, c, lv, rv, po, ro, ps, rg, N1, N2, N3, N4, N5, N6, h, _⟩ := hNew; exact ⟨c, h⟩
 subst hcB
 obtain ⟨wN, hwN⟩ : ∃ x, x = w1 := ⟨_, rfl⟩
 rw [← hwN] at hNew
 have hXN : Ext Non wN w1 := by rw [hwN]; exact Ext.refl _ _
 refine Zb (Z2 b_42 rfl rfl (cs := awO1.enc) rfl) (Zb (Z2 b_42 rfl rfl (cs := awO2.enc) rfl) (wl_lit sl_56 (rows := [awO1, awO2].map OpD.enc) rfl (by decide) (by decide) rfl rfl (by intro r hr; obtain ⟨x, _, rfl⟩ := List.mem_map.1 hr; rfl) (by intro p hp; simp at hp; rcases hp with rfl | rfl <;> exact ⟨rfl, Nat.le_of_ble_eq_true rfl⟩) rfl ?_)); intro v7 w2 b7 hb7 E2 hO7
 have hN7 : wN.heap.size ≤ b7 := Zle hXN.size hb7
 obtain ⟨c7, rfl, hc7⟩ := id hO7.val
 obtain rfl : c7 = 2 := by simp only [List.length_map, List.length_cons, List.length_nil] at hc7; omega
 replace hX := hX.tr E2
 replace hXN := hXN.tr E2
 refine Xz (v := .slice (some ⟨b7, 0, none⟩) 2 2) (r := [.slice (some ⟨b7, 0, none⟩) 2 2]) sl_57 rfl rfl rfl rfl (by decide) ?_; intro v8 w3 b8 hb8 E3 hO8
 have hN8 : wN.heap.size ≤ b8 := Zle hXN.size hb8
 obtain ⟨c8, rfl, hc8⟩ := id hO8.val
 replace hX := hX.tr E3
 replace hXN := hXN.tr E3
 replace hO7 := hO7.ext E3 id
 have hXs := hX.size; have hXNs := hXN.size
 refine ZI zE rfl (played_w (Mc := (fun i => w.heap.size ≤ i ∧ i < wN.heap.size)) (cB := cB) (ths := [([awO1, awO2], .slice (some ⟨b7, 0, none⟩) 2 2)]) (picks := []) (s0 := st00 1 1) (Inv := OneI t) (μ := oneM) w3 (hO8.sl (M := (fun i => w.heap.size ≤ i ∧ i < wN.heap.size)) (fun h => by have := h.2; omega)) (fun p hp => ?_) (Sl.nil _ _ _) (by decide) (by simp) (by show 1 ≤ 1000; decide) (one_sched t) ⟨_, rfl, hex⟩ aw_moves fun w1 lg E1 hlg hLg => ?_) ?_
 ·rw [List.mem_singleton] at hp; subst hp
  exact ⟨_, 2, rfl, hO7.sl (fun h => by have := h.2; omega)⟩
 ·obtain ⟨L, G, k1, k2, k3, k4, k5⟩ := com_new (n := 1) (m := 1) (by decide) (by decide) hNew (hXN.trans E1) (by omega) hLg
  exact ⟨L, G, k1, k2, k3, k4, fun i hi hn => k5 i (by by_cases h : i < w.heap.size; exact .inl h; exact .inr ⟨Classical.byContradiction fun h2 => hn ⟨by omega, by omega⟩, by omega⟩)⟩
 intro v9 w4 E4 hR9
 replace hX := hX.own2 E4 (fun i hi => .inr hi.1)
 obtain ⟨u1, oo, cs, ps, s1, L1, G1, hv9, hO9, ho9, hTold, hInv, hdone, _⟩ := hR9
 obtain rfl := one_end hInv hdone
 rw [hlog] at hTold
 obtain ⟨q1, q2, rfl⟩ := told_two hTold
 have hany : ([{ ca with place := q1 }, { cb with place := q2 }] : List Z4).any (fun q => decide (q.to_ = 0)) = false := by simp [hca, hcb]
 rw [hany] at hv9
 subst hv9
 obtain ⟨a9, c9, rfl⟩ := id hO9.len
 obtain ⟨ab9, ao9, rfl⟩ := (hO9.sl (M := Non) (fun _ _ h => h)).base (by simp)
 refine Zm ?_
 refine Zb (ZM rfl rfl) (Zb (ZM rfl rfl) (Za (Za ?_)))
 refine Zc (Zs (Zm (Zm ?_)))
 refine Z3 (d := 13) rfl (fun hg13 => ?_) (fun hg13 => ?_)
 ·refine Zu rfl (Zcb hg13) (Zm ?_)
  refine Zu rfl (Zcb hg13) (Zb (Z1 Qu rfl) (Zu rfl (Zcb hg13) (Zb (Xc rfl rfl) (Zb (Z8 (Zcb hg13) (by conv => lhs; whnf)) ?_))))
  refine Zm ?_
  refine Z3 (d := 18) rfl (fun hg18 => ?_) (fun hg18 => ?_)
  ·refine Zu rfl (Zcb hg18) (Zm ?_)
   refine Zu rfl (Zcb hg18) (Zb (ZH Qu rfl rfl (⟨by decide, by show (1 : Int) < 2; decide⟩)) (Zu rfl (Zcb hg18) (Zb (Zf f_60_3 rfl) (Zu rfl (Zcb hg18) (Zb (XC s_37 (vs := cb.ans.enc) rfl rfl ((hO9.sl (M := Non) (fun _ _ h => h)).part1 (show (([{ ca with place := q1 }, { cb with place := q2 }] : List Z4).map Z4.enc)[1]? = some ({ cb with place := q2 } : Z4).enc from rfl) rfl Zbl)) ?_)))))
   refine Zu rfl (Zcb hg18) (Zb (Z2 b_37 rfl rfl (cs := (⟨0, 1, 0, JX⟩ : Xl).enc) rfl) (Zu rfl (Zcb hg18) (Zb (rn_eqlS rfl rfl eg_37 (by decide) (ansM_eqs _ _)) (Zb (Z8 (Zcb hg18) (by conv => lhs; whnf)) ?_))))
   refine Za ?_
   refine Zc (ZB ?_)
   exact ⟨_, ZD (Zh rfl), hX, congrArg Value.bool (decide_eq_true hban)⟩
  ·first | exact absurd hg18 (by decide) | exact absurd hg18 (fun h => by cases h)
 ·first | exact absurd hg13 (by decide) | exact absurd hg13 (fun h => by cases h)
theorem rep_next (i : Nat) : ((QN :: List.replicate i Q5).map OpD.enc) ++ [Q5.enc] = (QN :: List.replicate (i + 1) Q5).map OpD.enc := by
 rw [List.replicate_succ', ← List.cons_append, List.map_append]; rfl
theorem call_at {cs : List Z4} {i : Nat} {c : Z4} (h : cs[i]? = some c) : (cs.map Z4.enc)[i]? = some c.enc := by rw [List.getElem?_map, h]; rfl
set_option maxHeartbeats 16000000 in
theorem pubOnce_ok (w : World) (cq tq : Nat) (hcq : cq ≤ 255) (htq : tq ≤ 255) (picks : List Int) {v2 : Value} (hs2 : Sl Non w v2 1 (picks.map eI)) : Fn Tryz.prog 4 #[.int .u8 (cq : Nat), .int .u8 (tq : Nat), v2] w fun u w' => u = .bool true := by
 obtain ⟨pa, pc, rfl, _⟩ := hs2.len
 simp only [List.length_map] at hs2 ⊢
 obtain ⟨n, hn⟩ : ∃ n, n = 1 + tq % 16 := ⟨_, rfl⟩
 obtain ⟨room, hroom⟩ : ∃ n, n = 1 + cq % 16 := ⟨_, rfl⟩
 have hn1 : 1 ≤ n := by omega
 have hn16 : n ≤ 16 := by omega
 have hr1 : 1 ≤ room := by omega
 have hr16 : room ≤ 16 := by omega
 have hX := Ext.refl Non w
 refine Zfw (args := [_, _, _]) Tryz.func4 rfl rfl ?_
 refine Zs (Za ?_)
 refine Zc (ZC (Zs (Zw zE rfl (awake_w w) ?_))); intro v25 w1 E1 R1
 replace hX := hX.tr E1
 subst R1
 refine Zb (Xy rfl) (Zc ?_)
 refine ZE rfl (fun hc0 => ?_) (fun hc0 => ?_)
 ·exact absurd hc0 (by decide)
 ·refine ZF (ZC (Zs (Zm ?_)))
  refine Zb (Z1 Xe rfl) (Zb (Ja rfl rfl) (Zc ?_))
  refine ZE rfl (fun hc1 => ?_) (fun hc1 => ?_)
  ·refine Zs (Za ?_)
   refine Zc (ZB ?_)
   exact ⟨_, ZD (Zh rfl), hX, rfl⟩
  ·have hpl : picks.length ≤ 2000 := by have := of_decide_eq_false hc1; omega
   refine ZF (Zs (Zm ?_))
   refine Zb (XH ui_5 JF rfl (QE (by omega))) (Zb (rn_rem (a := tq) (b := 16) rfl rfl (by decide) (by omega)) (Zb (Rn.cast (ZX rfl rfl (by omega)) (show Value.int .i64 (1 + ((tq % 16 : Nat) : Int)) = Value.int .i64 (n : Nat) from congrArg (Value.int .i64) (by omega))) ?_))
   refine Za ?_
   refine Zc (Zs (Zm ?_))
   refine Zb (XH ui_5 JF rfl (QE (by omega))) (Zb (rn_rem (a := cq) (b := 16) rfl rfl (by decide) (by omega)) (Zb (Rn.cast (ZX rfl rfl (by omega)) (show Value.int .i64 (1 + ((cq % 16 : Nat) : Int)) = Value.int .i64 (room : Nat) from congrArg (Value.int .i64) (by omega))) ?_))
   refine Za ?_
   refine Zc (Zs (Zm ?_))
   obtain ⟨nB, hnB⟩ : ∃ k, k = (World.heap w1).size := ⟨_, rfl⟩
   have hnBw : w.heap.size ≤ nB := by rw [hnB]; exact hX.size
   refine Zw zE rfl (cnew_w w1 2 room (by decide) hr1 hr16) ?_; intro v39 w2 E2 R2
   replace hX := hX.tr E2
   have hNew := R2
   obtain ⟨cB, hcB⟩ : ∃ c, v39 = pt c := by obtain ⟨ep, pn, pc, psp, pl, gp, lk, rt, c, lv, rv, po, ro, ps, rg, N1, N2, N3, N4, N5, N6, h, _⟩ := hNew; exact ⟨c, h⟩
   subst hcB
   obtain ⟨wM, hwM⟩ : ∃ x, x = w2 := ⟨_, rfl⟩
   obtain ⟨wN, hwN⟩ : ∃ x, x = w2 := ⟨_, rfl⟩
   rw [← hwN] at hNew
   have hXN : Ext Non wN w2 := by rw [hwN]; exact Ext.refl _ _
   refine Za ?_
   refine Zc (ZC (Zs (Zm ?_)))
   refine Zb (Z2 b_42 rfl rfl (cs := subO.enc) rfl) (Xz (r := subO.enc) sl_56 rfl rfl rfl rfl (by decide) ?_); intro v43 w3 b43 hb43 E3 hO43
   have hN43 : wN.heap.size ≤ b43 := Zle hXN.size hb43
   obtain ⟨c43, rfl, hc43⟩ := id hO43.val
   replace hX := hX.tr E3
   replace hXN := hXN.tr E3
   refine Xz (v := .slice (some ⟨b43, 0, none⟩) 1 c43) (r := [.slice (some ⟨b43, 0, none⟩) 1 c43]) sl_57 rfl rfl rfl rfl (by decide) ?_; intro v44 w4 b44 hb44 E4 hO44
   have hN44 : wN.heap.size ≤ b44 := Zle hXN.size hb44
   obtain ⟨c44, rfl, hc44⟩ := id hO44.val
   replace hX := hX.tr E4
   replace hXN := hXN.tr E4
   replace hO43 := hO43.ext E4 id
   have hXs := hX.size; have hXNs := hXN.size
   refine ZI zE rfl (played_w (Mc := (fun i => nB ≤ i ∧ i < wN.heap.size)) (cB := cB) (ths := [([subO], .slice (some ⟨b43, 0, none⟩) 1 c43)]) (picks := []) (s0 := st00 2 room) (Inv := OneI (stE1 room)) (μ := oneM) w4 (hO44.sl (M := (fun i => nB ≤ i ∧ i < wN.heap.size)) (fun h => by have := h.2; omega)) (fun p hp => ?_) (Sl.nil _ _ _) (by decide) (by simp) (by show 1 ≤ 1000; decide) (one_sched (stE1 room)) ⟨_, rfl, sub_ex room⟩ (sub_moves room) fun w1 lg E1 hlg hLg => ?_) ?_
   ·rw [List.mem_singleton] at hp; subst hp
    exact ⟨_, c43, rfl, hO43.sl (fun h => by have := h.2; omega)⟩
   ·obtain ⟨L, G, k1, k2, k3, k4, k5⟩ := com_new (n := 2) (m := room) hr1 hr16 hNew (hXN.trans E1) (by omega) hLg
    exact ⟨L, G, k1, k2, k3, k4, fun i hi hn => k5 i (by by_cases h : i < nB; exact .inl (by omega); exact .inr ⟨Classical.byContradiction fun h2 => hn ⟨by omega, by omega⟩, by omega⟩)⟩
   intro v45 w5 E5 hR45
   have hXsn := E5.size
   replace hX := hX.own2 E5 (fun i hi => .inr (by have := hi.1; omega))
   obtain ⟨u1, o1, cs1, ps1, s1, L1, G1, hv45, _, _, hT1, hI1, hd1, _, hc1, hLO1, hM1, hG1⟩ := hR45
   obtain rfl := one_end hI1 hd1
   rw [told_any hT1 (fun i q hq => by
    rcases i with _ | i
    ·cases hq; show (2 : Int) ≠ 0; decide
    ·simp [stE1] at hq)] at hv45
   subst hv45
   obtain ⟨wP, hwP⟩ : ∃ x, x = w5 := ⟨_, rfl⟩
   rw [← hwP] at hM1 hXsn
   have hXP : Ext Non wP w5 := by rw [hwP]; exact Ext.refl _ _
   have hg1 : ∀ i, i < w.heap.size → G1 i = 0 := fun i hi => hG1 i (by omega) (fun h => by have := h.1; omega)
   have hwPs : w.heap.size ≤ wP.heap.size := by omega
   refine Zm ?_
   refine Zb (ZM rfl rfl) (Zb (ZM rfl rfl) (Za (Za ?_)))
   refine Zc (Zs (Zm ?_))
   refine Zb (Xy rfl) (Zc ?_)
   refine ZE rfl (fun hc2 => ?_) (fun hc2 => ?_)
   ·exact absurd hc2 (by decide)
   ·refine ZF (Zs (Za ?_))
    refine Zc (ZC (Zs (Za ?_)))
    refine Zc (ZO (Xt (S := Nat × List (List OpD × Value) × Value × Option Nat) [2, 7, 8, 9, 12, 13] (fun ⟨i, ths, av, ao⟩ => [.slice pa picks.length pc, .int .i64 (n : Nat), .int .i64 (room : Nat), pt cB, av, .int .i64 (i : Nat)]) (fun ⟨i, ths, av, ao⟩ A => (Ext Non w A) ∧ (i ≤ n ∧ ths.length = i ∧ OwO A av ao 1 (ths.map fun p => [p.2]) ∧ (∀ j, ao = some j → wP.heap.size ≤ j) ∧ ThsM A wP.heap.size ao ths ∧ Ext Non wP A)) (fun ⟨i, ths, av, ao⟩ => n - i) (0, [], XV, none) ⟨rfl, rfl, rfl, rfl, rfl, rfl, trivial⟩ ⟨hX, ⟨Nat.zero_le _, rfl, OwO.nil, fun j h => absurd h (by simp), ThsM.nil, hXP⟩⟩ ?_))
    rintro τ0 ⟨i, ths, av, ao⟩ A0 ⟨hX, I0⟩
    obtain ⟨hin, hil, hO, hao, hTs, hXP⟩ := I0
    subst hil
    obtain ⟨aa, ac, rfl⟩ := id hO.len
    refine ZC (Zs (Zm (Zm ?_)))
    refine Zb (Xj rfl rfl) (Zc ?_)
    refine ZE rfl (fun hc3 => ?_) (fun hc3 => ?_)
    ·have hlt : ths.length < n := by have := of_decide_eq_true hc3; omega
     refine ZF (ZC (ZO (ZJ (Zm (Zm ?_)))))
     refine Zb (ZX rfl rfl (by omega)) (Zb (Rn.cast (XH JF ui_5 rfl (wrapB (by omega))) (show _ = Value.int .u8 ((payO ths.length).toNat : Nat) from congrArg (Value.int .u8) (by rw [payO_nat (by omega)]; omega))) ?_)
     refine Xz (r := eC (payO ths.length)) sl_58 rfl rfl rfl rfl (by decide) ?_; intro v59 w6 b59 hb59 E6 hO59
     replace hX := hX.tr E6
     replace hO := hO.ext E6 (fun _ _ h => h)
     replace hTs := hTs.non E6
     replace hXP := hXP.tr E6
     refine Zb (rn_fromBytes (l := [payO ths.length]) sl_58.under Qj ui_5 rfl (hO59.sl (M := Non) id)) (Zb (Z2 b_42 rfl rfl (cs := (Xx ths.length).enc) rfl) (Xz (r := (Xx ths.length).enc) sl_56 rfl rfl rfl rfl (by decide) ?_)); intro v62 w7 b62 hb62 E7 hO62
     have hb62P : wP.heap.size ≤ b62 := Zle hXP.size hb62
     have hn62 : ao ≠ some b62 := fun e => by have := hO.lt e; omega
     obtain ⟨c62, rfl, hc62⟩ := id hO62.val
     replace hX := hX.tr E7
     replace hO := hO.ext E7 (fun _ _ h => h)
     replace hTs := hTs.non E7
     replace hXP := hXP.tr E7
     replace hO59 := hO59.ext E7 id
     refine Xz (v := .slice (some ⟨b62, 0, none⟩) 1 c62) (r := [.slice (some ⟨b62, 0, none⟩) 1 c62]) sl_57 rfl rfl rfl rfl (by decide) ?_; intro v63 w8 b63 hb63 E8 hO63
     replace hX := hX.tr E8
     replace hO := hO.ext E8 (fun _ _ h => h)
     replace hTs := hTs.non E8
     replace hXP := hXP.tr E8
     replace hO59 := hO59.ext E8 id
     replace hO62 := hO62.ext E8 id
     have hXo := hX; have hXPs := hXP.size
     refine Qm sl_57 rfl rfl rfl hO (hO63.sl (M := Non) id) (fun r hr => by simp only [List.mem_singleton] at hr; subst hr; exact J1 rfl) (by simp only [List.length_map, List.length_cons, List.length_nil]; omega) (by simp only [List.length_map, List.length_cons, List.length_nil, big]; omega) ?_; intro v64 w9 o64 E9 hO64 hf64
     obtain ⟨a64, c64, hv64⟩ := id hO64.len; subst hv64
     have ho64 : ∀ j, o64 = some j → wP.heap.size ≤ j := fun j hj => by rcases hf64 j hj with h | h; exact hao j h; omega
     replace hX := hX.mineO E9 (fun j hj => .inr (by have := hao j hj; omega))
     replace hXP := hXP.mineO E9 (fun j hj => .inr (hao j hj))
     have hTs64 := hTs.app hO62 hb62P hn62 E9 hf64
     refine Za ?_
     refine Zc (ZJ (Zm ?_))
     refine Zb (ZX rfl rfl (by omega)) (Za ?_)
     refine Zc ?_
     exact ⟨rfl, (ths.length + 1, ths ++ [([Xx ths.length], .slice (some ⟨b62, 0, none⟩) 1 c62)], _, o64), ⟨rfl, rfl, rfl, rfl, rfl, rfl, trivial⟩, ⟨hX, ⟨hlt, by simp, by rw [List.map_append]; exact hO64, ho64, hTs64, hXP⟩⟩, by show n - (ths.length + 1) < n - ths.length; omega⟩
    ·have hthl : ths.length = n := by have := of_decide_eq_false hc3; omega
     have hst0 := ths_start (room := room) hTs hthl ⟨hr1, hr16⟩ hn16
     refine XL ?_
     refine Zs (Zm (Zm (Zm ?_)))
     have hXs := hX.size; have hXPs := hXP.size
     refine ZI zE rfl (played_w (Mc := (fun i => ¬ G1 i = 0 ∧ i < wP.heap.size)) (cB := cB) (ths := ths) (picks := picks) (s0 := stS room) (Inv := InvO room n) (μ := muO) A0 (hO.sl (M := (fun i => ¬ G1 i = 0 ∧ i < wP.heap.size)) (fun j hj h => by have := hao j hj; omega)) (fun p hp => ?_) ((hs2.sub (M' := (fun i => ¬ G1 i = 0 ∧ i < wP.heap.size)) (fun i hi hlt => absurd (hg1 i hlt) hi.1)).ext hX (fun _ h => h.elim)) (by omega) (fun e => by rw [e] at hthl; simp at hthl; omega) (by omega) (once_sched room n) hst0.1 hst0.2 fun w1 lg E1 hlg hLg => ?_) ?_
     ·obtain ⟨j, hj, rfl⟩ := List.getElem_of_mem hp
      obtain ⟨h1, b, h2, h3, h4⟩ := hTs j _ (List.getElem?_eq_getElem hj)
      obtain ⟨c, h5, _⟩ := id h2.val
      refine ⟨_, c, by rw [h5, h1]; rfl, ?_⟩
      rw [h1]
      exact h2.sl (fun h => by omega)
     ·obtain ⟨L, G, k1, k2, k3, k4, k5, k6⟩ := com_again hLO1 hM1 (hXP.trans E1) (by omega) hLg
      refine ⟨L, G, by rw [← hc1]; exact k1, k2, k3, k4, fun i hi hn => ?_⟩
      by_cases h : i < wP.heap.size
      ·rw [k5 i h]
       exact Classical.byContradiction fun h2 => hn ⟨h2, h⟩
      ·exact k6 i (by omega) (by omega)
     intro v69 w10 E10 hR69
     have hXsn := E10.size
     replace hX := hX.own2 E10 (fun i hi => .inr (Classical.byContradiction fun h => hi.1 (hg1 i (by omega))))
     obtain ⟨u2, o2, cs2, ps2, s2, L2, G2, hv69, hO70, _, hT2, hI2, hd2, _, hc2, hLO2, hM2, hG2⟩ := hR69
     obtain ⟨q, msgs, hR⟩ := once_end hI2 hd2
     obtain ⟨hl2, hOE, hany2, hsA, hsB, hmin, hmr, hmn⟩ := once_told hR hT2
     rw [hany2] at hv69
     subst hv69
     obtain ⟨a70, c70, hu2⟩ := id hO70.len
     rw [List.length_map, hl2] at hu2
     subst hu2
     obtain ⟨ab70, ao70, rfl⟩ := (hO70.sl (M := Non) (fun _ _ h => h)).base (fun e => by have := congrArg List.length e; simp only [List.length_map, List.length_nil] at this; omega)
     obtain ⟨wR, hwR⟩ : ∃ x, x = w10 := ⟨_, rfl⟩
     rw [← hwR] at hM2 hXsn
     have hXR : Ext Non wR w10 := by rw [hwR]; exact Ext.refl _ _
     have hg2 : ∀ i, i < w.heap.size → G2 i = 0 := fun i hi => hG2 i (by omega) (fun h => h.1 (hg1 i hi))
     have hwRs : w.heap.size ≤ wR.heap.size := by omega
     refine Zm ?_
     refine Zb (ZM rfl rfl) (Zb (ZM rfl rfl) (Za (Za ?_)))
     refine Zc (ZC (Zs (Zm ?_)))
     refine Zb (Xy rfl) (Zm ?_)
     refine Z3 (d := 74) rfl (fun hg74 => ?_) (fun hg74 => ?_)
     ·exact absurd hg74 (by decide)
     ·refine Zu rfl (Zcb hg74) (Zm ?_)
      refine Zu rfl (Zcb hg74) (Zb (Z1 Qu rfl) (Zu rfl (Zcb hg74) (Zm ?_)))
      refine Zu rfl (Zcb hg74) (Zb (X2 rfl rfl) (Zb (ZQ (Zcb hg74) (by conv => lhs; whnf)) ?_))
      refine Zc ?_
      refine ZE rfl (fun hc4 => ?_) (fun hc4 => ?_)
      ·exact absurd (of_decide_eq_true hc4) (by simp)
      ·refine ZF (Zs (Za (Za ?_)))
       refine Zc (ZC (Zs (Za ?_)))
       refine Zc (ZO (Xt (S := Nat × Int × Int) [7, 8, 9, 14, 16, 17, 18] (fun ⟨i, sa, sb⟩ => [.int .i64 (n : Nat), .int .i64 (room : Nat), pt cB, .slice (some ⟨ab70, ao70, none⟩) n c70, .int .i64 sa, .int .i64 sb, .int .i64 (i : Nat)]) (fun ⟨i, sa, sb⟩ A => (Ext Non w A) ∧ (i ≤ n ∧ sa = smA cs2 i ∧ sb = smB cs2 i ∧ OwO A (.slice (some ⟨ab70, ao70, none⟩) n c70) o2 15 (cs2.map Z4.enc) ∧ Ext Non wR A)) (fun ⟨i, sa, sb⟩ => n - i) (0, 0, 0) ⟨rfl, rfl, rfl, rfl, rfl, rfl, rfl, trivial⟩ ⟨hX, ⟨Nat.zero_le _, rfl, rfl, hO70, hXR⟩⟩ ?_))
       rintro τ1 ⟨i, sa, sb⟩ A1 ⟨hX, hI1⟩
       obtain ⟨hin, hsa, hsb, hO70, hXR⟩ := hI1
       refine ZC (Zs (Zm (Zm ?_)))
       refine Zb (Xj rfl rfl) (Zc ?_)
       refine ZE rfl (fun hc5 => ?_) (fun hc5 => ?_)
       ·have hlt : i < n := by have := of_decide_eq_true hc5; omega
        obtain ⟨c, hc⟩ : ∃ c, cs2[i]? = some c := ⟨_, List.getElem?_eq_getElem (by omega)⟩
        obtain ⟨hab, ha0, hb0⟩ := hOE.ab hc
        obtain ⟨hs3, hs4, hs5⟩ := hOE.sums i (by omega)
        have hnA := smA_next hc
        have hnB := smB_next hc
        refine ZF (ZC (ZO (Zs (Zm (Zm (Zm ?_))))))
        refine Zb (ZH Qu rfl rfl (by omega)) (Zb (Zf f_60_3 rfl) (Zb (Zf f_37_1 rfl) (Zb (Xb p_3 rfl ((hO70.sl (M := Non) (fun _ _ h => h)).at2 (show (cs2.map Z4.enc)[((i : Nat) : Int).toNat]? = some c.enc from by rw [Int.toNat_natCast]; exact call_at hc) rfl)) ?_)))
        refine Zb (ZX rfl rfl (by omega)) (Za ?_)
        refine Zc (Zs (Zm (Zm (Zm ?_))))
        refine Zb (ZH Qu rfl rfl (by omega)) (Zb (Zf f_60_3 rfl) (Zb (Zf f_37_2 rfl) (Zb (Xb p_3 rfl ((hO70.sl (M := Non) (fun _ _ h => h)).at2 (show (cs2.map Z4.enc)[((i : Nat) : Int).toNat]? = some c.enc from by rw [Int.toNat_natCast]; exact call_at hc) rfl)) ?_)))
        refine Zb (ZX rfl rfl (by omega)) (Za ?_)
        refine Zc (ZC (Qq mixed ?_)); intro w11 E11
        replace hX := hX.tr E11
        replace hO70 := hO70.ext E11 (fun _ _ h => h)
        replace hXR := hXR.tr E11
        have hS := Ext.refl Non w11
        refine Zd 0 rfl hS Zy ?_
        refine Zd 1 rfl hS Zy ?_
        refine Zd 2 rfl hS (ZG fun A hA => ZH Qu rfl rfl (by omega)) (Zd 3 rfl hS (Zr (Zf f_60_3 rfl)) (Zd 4 rfl hS (Zr (Zf f_37_1 rfl)) (Zd 5 rfl hS (ZG fun A hA => Xb p_3 rfl (((hO70.sl (M := Non) (fun _ _ h => h)).ext hA (fun _ h => h.elim)).at2 (show (cs2.map Z4.enc)[((i : Nat) : Int).toNat]? = some c.enc from by rw [Int.toNat_natCast]; exact call_at hc) rfl)) ?_)))
        refine Zd 6 rfl hS Zy ?_
        refine Zd 7 rfl hS Zy ?_
        refine Zd 8 rfl hS (ZG fun A hA => ZH Qu rfl rfl (by omega)) (Zd 9 rfl hS (Zr (Zf f_60_3 rfl)) (Zd 10 rfl hS (Zr (Zf f_37_2 rfl)) (Zd 11 rfl hS (ZG fun A hA => Xb p_3 rfl (((hO70.sl (M := Non) (fun _ _ h => h)).ext hA (fun _ h => h.elim)).at2 (show (cs2.map Z4.enc)[((i : Nat) : Int).toNat]? = some c.enc from by rw [Int.toNat_natCast]; exact call_at hc) rfl)) ?_)))
        refine Zd 12 rfl hS (Zr (ZX rfl rfl (by omega))) (Zd 13 rfl hS (Zr (X2 rfl rfl)) ?_)
        refine Xw (by kernel_rfl) ?_ _
        replace hX := hX.tr hS
        replace hO70 := hO70.ext hS (fun _ _ h => h)
        replace hXR := hXR.tr hS
        refine ZE rfl (fun hc6 => ?_) (fun hc6 => ?_)
        ·exact absurd (of_decide_eq_true hc6) (by omega)
        ·refine ZF (ZJ (Zm ?_))
         refine Zb (ZX rfl rfl (by omega)) (Za ?_)
         refine Zc ?_
         exact ⟨rfl, (i + 1, sa + c.ans.a, sb + c.ans.b), ⟨rfl, rfl, rfl, rfl, rfl, rfl, rfl, trivial⟩, ⟨hX, ⟨hlt, by rw [hnA, hsa], by rw [hnB, hsb], hO70, hXR⟩⟩, by show n - (i + 1) < n - i; omega⟩
       ·have hie : i = n := by have := of_decide_eq_false hc5; omega
        rw [hie] at hsa hsb
        obtain rfl : sa = ((msgs.length : Nat) : Int) := hsa.trans hsA
        obtain rfl : sb = q.drops := hsb.trans hsB
        obtain ⟨hsum, _, hsd⟩ := hOE.sums n (by omega)
        rw [hsA, hsB] at hsum; rw [hsB] at hsd
        refine XL ?_
        refine Zs (Zb (Z2 b_42 rfl rfl (cs := QN.enc) rfl) (Xz (r := QN.enc) sl_56 rfl rfl rfl rfl (by decide) ?_)); intro v116 w12 b116 hb116 E12 hO116
        have hR116 : wR.heap.size ≤ b116 := Zle hXR.size hb116
        have hl116 := hO116.box.lt
        obtain ⟨c116, rfl, hc116⟩ := id hO116.val
        replace hX := hX.tr E12
        replace hO70 := hO70.ext E12 (fun _ _ h => h)
        replace hXR := hXR.tr E12
        refine Xz (v := .slice (some ⟨b116, 0, none⟩) 1 c116) (r := [.slice (some ⟨b116, 0, none⟩) 1 c116]) sl_57 rfl rfl rfl rfl (by decide) ?_; intro v117 w13 b117 hb117 E13 hQ
        have hR117 : wR.heap.size ≤ b117 := Zle hXR.size hb117
        obtain ⟨c117, rfl, hc117⟩ := id hQ.val
        obtain rfl : c117 = 1 := by simp only [List.length_cons, List.length_nil] at hc117; omega
        replace hX := hX.tr E13
        replace hO70 := hO70.ext E13 (fun _ _ h => h)
        replace hXR := hXR.tr E13
        replace hO116 := hO116.ext E13 id
        refine Za ?_
        refine Zc (ZC (Zs (Za ?_)))
        refine Zc (ZO (Xt (S := Nat × Option Addr × Nat × Option Nat) [7, 8, 9, 16, 17, 19, 20] (fun ⟨i, pa4, pc4, po⟩ => [.int .i64 (n : Nat), .int .i64 (room : Nat), pt cB, .int .i64 (msgs.length : Nat), .int .i64 q.drops, .slice (some ⟨b117, 0, none⟩) 1 1, .int .i64 (i : Nat)]) (fun ⟨i, pa4, pc4, po⟩ A => (Ext Non w A) ∧ (i ≤ room + 1 ∧ OwO A (.slice pa4 (i + 1) pc4) po 5 ((QN :: List.replicate i Q5).map OpD.enc) ∧ (∀ j, po = some j → wR.heap.size ≤ j ∧ j ≠ b117) ∧ Ow A (.slice (some ⟨b117, 0, none⟩) 1 1) b117 1 [[.slice pa4 (i + 1) pc4]] [] ∧ Ext Non wR A)) (fun ⟨i, pa4, pc4, po⟩ => room + 1 - i) (0, some ⟨b116, 0, none⟩, c116, some b116) ⟨rfl, rfl, rfl, rfl, rfl, rfl, rfl, trivial⟩ ⟨hX, ⟨Nat.zero_le _, .inr ⟨b116, [], rfl, hO116⟩, fun j hj => (by cases hj; exact ⟨hR116, by omega⟩), hQ, hXR⟩⟩ ?_))
        rintro τ2 ⟨i, pa4, pc4, po⟩ A2 ⟨hX, hI2⟩
        obtain ⟨hin, hP4, hpo, hQ, hXR⟩ := hI2
        refine ZC (Zs (Zm (Zm ?_)))
        refine Zb (rn_leq rfl rfl) (Zc ?_)
        refine ZE rfl (fun hc7 => ?_) (fun hc7 => ?_)
        ·have hlt : i ≤ room := by have := of_decide_eq_true hc7; omega
         refine ZF (ZC (ZO (ZJ (Zm (Zm ?_)))))
         refine Zb (ZH sl_57 rfl rfl (by decide)) (Zb (Xb p_56 rfl ((hQ.sl (M := Non) id).at0 (show ([[Value.slice pa4 (i + 1) pc4]] : List (List Value))[0]? = some [.slice pa4 (i + 1) pc4] from rfl) rfl)) ?_)
         refine Zb (Z2 b_42 rfl rfl (cs := Q5.enc) rfl) (Xz (r := Q5.enc) sl_56 rfl rfl rfl rfl (by decide) ?_); intro v128 w14 b128 hb128 E14 hO128
         replace hX := hX.tr E14
         replace hP4 := hP4.ext E14 (fun _ _ h => h)
         replace hQ := hQ.ext E14 id
         replace hXR := hXR.tr E14
         have hXo := hX; have hXRs := hXR.size
         refine Qm sl_56 rfl rfl rfl hP4 (hO128.sl (M := Non) id) (fun r hr => by simp only [List.mem_singleton] at hr; subst hr; exact OpD.one Q5) (by simp only [List.length_map, List.length_cons, List.length_replicate, List.length_nil]; omega) (by simp only [List.length_map, List.length_cons, List.length_replicate, List.length_nil, big]; omega) ?_; intro v129 w15 o129 E15 hO129 hf129
         obtain ⟨a129, c129, hv129⟩ := id hO129.len
         rw [show List.length (((QN :: List.replicate i Q5).map OpD.enc) ++ [Q5.enc]) = i + 1 + 1 from by simp] at hv129
         subst hv129
         rw [rep_next] at hO129
         have ho129 : ∀ j, o129 = some j → wR.heap.size ≤ j ∧ j ≠ b117 := fun j hj => by rcases hf129 j hj with h | h; exact hpo j h; have := hQ.box.lt; exact ⟨by omega, by omega⟩
         replace hX := hX.mineO E15 (fun j hj => .inr (by have := hpo j hj; omega))
         replace hXR := hXR.mineO E15 (fun j hj => .inr (hpo j hj).1)
         replace hQ := hQ.ext E15 (fun e => (hpo _ e).2 rfl)
         refine Zb (ZH sl_57 rfl rfl (by decide)) (X6 (u := .slice a129 (i + 1 + 1) c129) (d := 0) (i := 0) p_56.2 rfl (by simp only [XF, Nat.zero_add, Nat.add_zero]; rfl) rfl (J1 rfl) hQ (show ([[Value.slice pa4 (i + 1) pc4]] : List (List Value))[0]? = some [.slice pa4 (i + 1) pc4] from rfl) Zbl ?_); intro w16 E16 hz16 hQ
         replace hX := hX.own2 E16 (fun j hj => .inr (by rw [hj]; omega))
         replace hXR := hXR.own2 E16 (fun j hj => .inr (by rw [hj]; exact hR117))
         replace hO129 := hO129.ext E16 (fun j hj e => (ho129 j hj).2 e)
         refine Zc (ZJ (Zm ?_))
         refine Zb (ZX rfl rfl (by omega)) (Za ?_)
         refine Zc ?_
         exact ⟨rfl, (i + 1, a129, c129, o129), ⟨rfl, rfl, rfl, rfl, rfl, rfl, rfl, trivial⟩, ⟨hX, ⟨by omega, by simpa using hO129, ho129, hQ, hXR⟩⟩, by show room + 1 - (i + 1) < room + 1 - i; omega⟩
        ·obtain rfl : i = room + 1 := by have := of_decide_eq_false hc7; omega
         obtain ⟨rq0, hrq0⟩ := hR.rgs
         obtain ⟨t3, hex3, hmv3, hlen3, hz3, hp3⟩ := drops_polls (s := { s2 with log := [], lnow := 0 }) hR.own hrq0 hR.rg rfl rfl
         refine XL ?_
         refine Zs (Zm (Zm ?_))
         have hXs := hX.size; have hXRs := hXR.size
         refine ZI zE rfl (played_w (Mc := (fun i => ¬ G2 i = 0 ∧ i < wR.heap.size)) (cB := cB) (ths := [(QN :: List.replicate (room + 1) Q5, .slice pa4 (room + 2) pc4)]) (picks := []) (s0 := { s2 with log := [], lnow := 0 }) (Inv := OneI t3) (μ := oneM) A2 (hQ.sl (M := (fun i => ¬ G2 i = 0 ∧ i < wR.heap.size)) (fun h => by have := h.2; omega)) (fun p hp => ?_) (Sl.nil _ _ _) (by decide) (by simp) (by show 1 ≤ 1000; decide) (one_sched t3) ⟨_, rfl, hex3⟩ hmv3 fun w1 lg E1 hlg hLg => ?_) ?_
         ·rw [List.mem_singleton] at hp; subst hp
          refine ⟨pa4, pc4, by show Value.slice pa4 (room + 2) pc4 = .slice pa4 (QN :: List.replicate (room + 1) Q5).length pc4; rw [List.length_cons, List.length_replicate], ?_⟩
          exact hP4.sl (fun j hj h => by have := hpo j hj; omega)
         ·obtain ⟨L, G, k1, k2, k3, k4, k5, k6⟩ := com_again hLO2 hM2 (hXR.trans E1) (by omega) hLg
          refine ⟨L, G, by rw [← hc2]; exact k1, k2, k3, k4, fun i hi hn => ?_⟩
          by_cases h : i < wR.heap.size
          ·rw [k5 i h]
           exact Classical.byContradiction fun h2 => hn ⟨h2, h⟩
          ·exact k6 i (by omega) (by omega)
         intro v134 w17 hE17 hR134
         replace hX := hX.own2 hE17 (fun i hi => .inr (Classical.byContradiction fun h => hi.1 (hg2 i (by omega))))
         obtain ⟨u3, o3, cs3, ps3, s3, L3, G3, hv134, hO135, ho135, hT3, hI3, hd3, _⟩ := hR134
         obtain rfl := one_end hI3 hd3
         have hl3 : cs3.length = room + 2 := hT3.1.trans hlen3
         rw [told_any hT3 (fun i q hq => by
          rcases i with _ | i
          ·obtain ⟨c, h1, h2, _⟩ := hz3; rw [h1] at hq; cases hq; exact h2
          ·have hi := (List.getElem?_eq_some_iff.1 hq).1
           obtain ⟨c, h1, h2, _⟩ := hp3 i (by omega)
           rw [Nat.add_comm] at h1; rw [h1] at hq; cases hq; exact h2)] at hv134
         subst hv134
         obtain ⟨a135, c135, hu3⟩ := id hO135.len
         rw [List.length_map, hl3] at hu3
         subst hu3
         obtain ⟨ab135, ao135, rfl⟩ := (hO135.sl (M := Non) (fun _ _ h => h)).base (fun e => by have := congrArg List.length e; simp only [List.length_map, List.length_nil] at this; omega)
         have hat3 : ∀ j, j ≤ room → ∃ c : Z4, cs3[1 + j]? = some c ∧ c.ans = polA msgs j := fun j hj => by
          obtain ⟨c, h1, _, h3⟩ := hp3 j (by omega)
          obtain ⟨p, hp⟩ := hT3.2 _ _ h1
          exact ⟨_, hp, h3⟩
         obtain ⟨cz, hcz, hcza⟩ : ∃ c : Z4, cs3[0]? = some c ∧ c.ans = ⟨0, q.drops, 0, JX⟩ := by
          obtain ⟨c, h1, _, h3⟩ := hz3
          obtain ⟨p, hp⟩ := hT3.2 _ _ h1
          exact ⟨_, hp, h3⟩
         refine Zm ?_
         refine Zb (ZM rfl rfl) (Zb (ZM rfl rfl) (Za (Za ?_)))
         refine Zc (ZC (Zs (Zm ?_)))
         refine Zb (Xy rfl) (Zm ?_)
         refine Z3 (d := 139) rfl (fun hg139 => ?_) (fun hg139 => ?_)
         ·exact absurd hg139 (by decide)
         ·refine Zu rfl (Zcb hg139) (Zm ?_)
          refine Zu rfl (Zcb hg139) (Zb (Z1 Qu rfl) (Zu rfl (Zcb hg139) (Zm ?_)))
          refine Zu rfl (Zcb hg139) (Zb (ZX rfl rfl (by omega)) (Zu rfl (Zcb hg139) (Zb (X2 rfl rfl) (Zb (ZQ (Zcb hg139) (by conv => lhs; whnf)) ?_))))
          refine Zm ?_
          refine Z3 (d := 146) rfl (fun hg146 => ?_) (fun hg146 => ?_)
          ·exact absurd (of_decide_eq_true hg146) (by omega)
          ·refine Zu rfl (Zcb hg146) (Zm ?_)
           refine Zu rfl (Zcb hg146) (Zm ?_)
           refine Zu rfl (Zcb hg146) (Zm ?_)
           refine Zu rfl (Zcb hg146) (Zb (Rn.cast (J8 rfl rfl) (show _ = Value.int .i64 (msgs.length : Nat) from congrArg (Value.int .i64) (by by_cases h : room < n; (rw [if_pos h] at hmin; rw [if_pos (by omega)]; omega); (rw [if_neg h] at hmin; rw [if_neg (by omega)]; omega)))) ?_)
           refine Zu rfl (Zcb hg146) (Zb (X2 rfl rfl) (Zb (ZQ (Zcb hg146) (by conv => lhs; whnf)) ?_))
           refine Zm ?_
           refine Z3 (d := 153) rfl (fun hg153 => ?_) (fun hg153 => ?_)
           ·exact absurd (of_decide_eq_true hg153) (by simp)
           ·refine Zu rfl (Zcb hg153) (Zm ?_)
            refine Zu rfl (Zcb hg153) (Zm ?_)
            refine Zu rfl (Zcb hg153) (Zm ?_)
            refine Zu rfl (Zcb hg153) (Zb (QS rfl rfl (by omega)) (Zu rfl (Zcb hg153) (Zb (X2 rfl rfl) (Zb (ZQ (Zcb hg153) (by conv => lhs; whnf)) ?_))))
            refine Zm ?_
            refine Z3 (d := 160) rfl (fun hg160 => ?_) (fun hg160 => ?_)
            ·exact absurd (of_decide_eq_true hg160) (by omega)
            ·refine Zu rfl (Zcb hg160) (Zm ?_)
             refine Zu rfl (Zcb hg160) (Zb (ZH Qu rfl rfl (by omega)) (Zu rfl (Zcb hg160) (Zb (Zf f_60_3 rfl) (Zu rfl (Zcb hg160) (Zb (Zf f_37_1 rfl) (Zu rfl (Zcb hg160) (Zb (Xb p_3 rfl ((hO135.sl (M := Non) (fun _ _ h => h)).at2 (show (cs3.map Z4.enc)[0]? = some cz.enc from call_at hcz) rfl)) ?_)))))))
             refine Zu rfl (Zcb hg160) (Zm ?_)
             refine Zu rfl (Zcb hg160) (Zb (X2 rfl rfl) (Zb (ZQ (Zcb hg160) (by conv => lhs; whnf)) ?_))
             refine Zc ?_
             refine ZE rfl (fun hc8 => ?_) (fun hc8 => ?_)
             ·exact absurd (of_decide_eq_true hc8) (by rw [hcza]; simp)
             ·refine ZF (Zs (Zm ?_))
              refine JR sl_61 rfl (m := n) rfl rfl (by omega) (by simp only [big]; omega) ?_; intro w18 b170 hb170 hE18 hSn
              have hq170 := Zq hX hb170
              rw [show List.replicate n [Value.bool false] = (List.replicate n false).map eB from by rw [List.map_replicate]; rfl] at hSn
              have ho3n : ∀ j, o3 = some j → j ≠ b170 := fun j hj => by have := hO135.lt hj; omega
              replace hX := hX.tr hE18
              replace hO135 := hO135.ext hE18 (fun _ _ h => h)
              refine Za ?_
              refine Zc (ZC (Zs (Za ?_)))
              refine Zc (ZO (Xt (S := Nat × List Bool) [7, 16, 21, 22, 23] (fun ⟨i, sb⟩ => [.int .i64 (n : Nat), .int .i64 (msgs.length : Nat), .slice (some ⟨ab135, ao135, none⟩) (room + 2) c135, .slice (some ⟨b170, 0, none⟩) n n, .int .i64 (i : Nat)]) (fun ⟨i, sb⟩ A => (Ext Non w A) ∧ (i ≤ msgs.length ∧ SeenI msgs n i sb ∧ Ow A (.slice (some ⟨b170, 0, none⟩) n n) b170 1 (sb.map eB) [] ∧ OwO A (.slice (some ⟨ab135, ao135, none⟩) (room + 2) c135) o3 15 (cs3.map Z4.enc))) (fun ⟨i, sb⟩ => msgs.length - i) (0, List.replicate n false) ⟨rfl, rfl, rfl, rfl, rfl, trivial⟩ ⟨hX, ⟨Nat.zero_le _, SeenI.zero, hSn, hO135⟩⟩ ?_))
              rintro τ3 ⟨i, sb⟩ A3 ⟨hX, hI3⟩
              obtain ⟨him, SI, hSn, hO135⟩ := hI3
              refine ZC (Zs (Zm (Zm ?_)))
              refine Zb (Xj rfl rfl) (Zc ?_)
              refine ZE rfl (fun hc9 => ?_) (fun hc9 => ?_)
              ·have hlt : i < msgs.length := by have := of_decide_eq_true hc9; omega
               obtain ⟨j, hjn, hmj⟩ := msgO_at hR.mem hlt
               obtain ⟨c, hc, hca⟩ := hat3 i (by omega)
               have hcp : c.ans.msg.payload = [payO j] := by rw [hca]; unfold polA; rw [hmj]; rfl
               have hpn := payO_nat (j := j) (by omega)
               have hsj := SI.fresh hn16 hR.nd hjn hmj
               refine ZF (ZC (ZO (Zs (Zm (Zm ?_)))))
               refine Zb (ZX rfl rfl (by omega)) (Zb (ZH Qu rfl rfl (by omega)) (Zb (Zf f_60_3 rfl) (Zb (Zf f_37_3 rfl) (Zb (Zf f_35_1 rfl) (Zb (Rn.cast (Xb p_9 rfl ((hO135.sl (M := Non) (fun _ _ h => h)).at3 (show (cs3.map Z4.enc)[(1 + ((i : Nat) : Int)).toNat]? = some c.enc from by rw [show (1 + ((i : Nat) : Int)).toNat = 1 + i from by omega]; exact call_at hc) rfl)) (show Sv c.ans.msg.payload = Sv [payO j] from by rw [hcp])) ?_)))))
               refine Za ?_
               refine Zc (ZC (Zs (Zm ?_)))
               refine Zb (Qe Qj rfl) (Zb (X2 rfl rfl) (Zm ?_))
               refine Z3 (d := 187) rfl (fun hg187 => ?_) (fun hg187 => ?_)
               ·exact absurd (of_decide_eq_true hg187) (by simp)
               ·refine Zu rfl (Zcb hg187) (Zm ?_)
                refine Zu rfl (Zcb hg187) (Zb (Qh Qj rfl rfl (by omega) rfl) (Zu rfl (Zcb hg187) (Zb (XH ui_5 JF rfl (QE (by omega))) (Zu rfl (Zcb hg187) (Zb (Xj rfl rfl) (Zb (ZQ (Zcb hg187) (by conv => lhs; whnf)) ?_))))))
                refine Zm ?_
                refine Z3 (d := 193) rfl (fun hg193 => ?_) (fun hg193 => ?_)
                ·exact absurd (of_decide_eq_true hg193) (by omega)
                ·refine Zu rfl (Zcb hg193) (Zm ?_)
                 refine Zu rfl (Zcb hg193) (Zb (Qh Qj rfl rfl (by omega) rfl) (Zu rfl (Zcb hg193) (Zb (XH ui_5 JF rfl (QE (by omega))) (Zu rfl (Zcb hg193) (Zb (QS rfl rfl (by omega)) (Zu rfl (Zcb hg193) (Zm ?_)))))))
                 refine Zu rfl (Zcb hg193) (Zb (X8 rfl rfl) (Zb (ZQ (Zcb hg193) (by conv => lhs; whnf)) ?_))
                 refine Zm ?_
                 refine Z3 (d := 201) rfl (fun hg201 => ?_) (fun hg201 => ?_)
                 ·exact absurd (of_decide_eq_true hg201) (by omega)
                 ·refine Zu rfl (Zcb hg201) (Zm ?_)
                  refine Zu rfl (Zcb hg201) (Zm ?_)
                  refine Zu rfl (Zcb hg201) (Zb (Qh Qj rfl rfl (by omega) rfl) (Zu rfl (Zcb hg201) (Zb (XH ui_5 JF rfl (QE (by omega))) (Zu rfl (Zcb hg201) (Zb (QS rfl rfl (by omega)) (Zu rfl (Zcb hg201) (Zb (ZH sl_61 rfl rfl (by omega)) (Zu rfl (Zcb hg201) ?_))))))))
                  refine Zb (Xb p_4 rfl ((hSn.sl (M := Non) id).at0 (show (sb.map eB)[(((payO j).toNat : Nat) - 65 : Int).toNat]? = some [.bool false] from by rw [hpn, show (((65 + j : Nat) : Int) - 65).toNat = j from by omega, List.getElem?_map, hsj]; rfl) rfl)) ?_
                  refine Zb (ZQ (Zcb hg201) (by conv => lhs; whnf)) ?_
                  refine Zc ?_
                  refine ZE rfl (fun hc10 => ?_) (fun hc10 => ?_)
                  ·cases hc10
                  ·refine ZF (ZJ (Zm (Zm ?_)))
                   refine Zb (Qh Qj rfl rfl (by omega) rfl) (Zb (XH ui_5 JF rfl (QE (by omega))) (Zb (QS rfl rfl (by omega)) (Zb (ZH sl_61 rfl rfl (by omega)) ?_)))
                   refine X6 (u := .bool true) (d := 0) (i := j) p_4.2 rfl (by simp only [XF, Nat.zero_add, Nat.add_zero, Nat.mul_one, hpn, show (((65 + j : Nat) : Int) - 65).toNat = j from by omega]) rfl (J1 rfl) hSn (show (sb.map eB)[j]? = some [.bool false] from by rw [List.getElem?_map, hsj]; rfl) Zbl ?_; intro w19 hE19 hz19 hSn
                   replace hX := hX.own2 hE19 (fun k hk => .inr (by rw [hk]; exact hq170))
                   replace hO135 := hO135.ext hE19 (fun k hk e => ho3n k hk e)
                   replace hSn : Ow w19 (.slice (some ⟨b170, 0, none⟩) n n) b170 1 ((sb.set j true).map eB) [] := by rw [List.map_set]; exact hSn
                   refine Zc (ZJ (Zm ?_))
                   refine Zb (ZX rfl rfl (by omega)) (Za ?_)
                   refine Zc ?_
                   exact ⟨rfl, (i + 1, sb.set j true), ⟨rfl, rfl, rfl, rfl, rfl, trivial⟩, ⟨hX, ⟨hlt, SI.next hmj, hSn, hO135⟩⟩, by show msgs.length - (i + 1) < msgs.length - i; omega⟩
              ·obtain rfl : i = msgs.length := by have := of_decide_eq_false hc9; omega
               obtain ⟨c, hc, hca⟩ := hat3 msgs.length (by omega)
               have hce : c.ans.err = 7 := by rw [hca]; unfold polA; rw [List.getElem?_eq_none (Nat.le_refl _)]
               refine XL ?_
               refine Zs (Zm (Zm ?_))
               refine Zb (ZX rfl rfl (by omega)) (Zb (ZH Qu rfl rfl (by omega)) (Zb (Zf f_60_3 rfl) (Zb (Zf f_37_0 rfl) (Zb (Xb p_33 rfl ((hO135.sl (M := Non) (fun _ _ h => h)).at2 (show (cs3.map Z4.enc)[(1 + ((msgs.length : Nat) : Int)).toNat]? = some c.enc from by rw [show (1 + ((msgs.length : Nat) : Int)).toNat = 1 + msgs.length from by omega]; exact call_at hc) rfl)) ?_))))
               refine Zb (Xc rfl rfl) (Za ?_)
               refine Zc (ZB ?_)
               exact ⟨_, ZD (Zh rfl), hX, congrArg Value.bool (decide_eq_true hce)⟩
end Go.Proofs.YtjklgohpminefaaGreatDoorC
namespace Go.Proofs.YtjklgohpminefaaGreatDoorC
open Go.ChangeShapes Go.WideShapes Go.ChangeAt Go.RowKit
theorem law_liftedL {laidL : List (String × DataW Unit)} {a : Assume} {C : Checked} {os : Os} {f : FuncId} {fn : Func} {s : ChangeSpec} {conds : List PathCond} {apart fresh handsOn : Bool} {H : Type} {enc : TypeId × Value → H} {tb : TypeId}
  (own : ownKnob C.prog.godebug = none) (started : os.Started) (noInit : C.prog.inits.idxOf? f = none) (hfn : C.prog.funcs[f]? = some fn)
  (witness : ∃ (w : World) (tape : Tape) (i : Input), w.os = os ∧ (w.forCall tape i).Shaped C.prog ∧ i.vars = [] ∧ Input.okWide C.prog (w.forCall tape i) .any w.heap.size f i ∧
   ((s.pre enc C.prog fn conds apart (w.forCall tape i).memory i.args ∧ laidMetH C.prog laidL (w.forCall tape i).memory) ∧ sizedMet enc C.prog fn (OpenSpec.ofChange s) apart (w.forCall tape i).memory i.args) ∧ a.holds C.prog (lone (Frame.enter C.prog f i.args .normal) [] (w.forCall tape i)))
  (laid : laidOutB C.prog = true) (hts : (fn.params.toList.all fun t => C.prog.readableRec t && decide (t < C.prog.types.size)) = true) (hres : fn.resultTypes.toList = [tb]) (htb : C.prog.underlying tb = some .bool) (hvars : s.vars = [])
  (hs : ∀ ds : List (DataW H), ds.length = fn.params.toList.length → s.fn H ds = { results := [.lit (.bool true)], args := ds })
  (contract : ∀ (W : World) (base : Nat) (args : Array Value) (ds : List (DataW H)) (ps : List MemPlace), (∀ (j : Nat) t v, fn.params[j]? = some t → args[j]? = some v → Value.okWide C.prog W .any base t v) →
   DataW.TrodAll enc C.prog W 0 (fun _ => true) true fn.params.toList args.toList ds ps → laidMetH C.prog laidL W → Fn C.prog f args W fun v _ => v = .bool true) :
  ReturnsInHanded a C os f .any (fun w args => (s.pre enc C.prog fn conds apart w args ∧ laidMetH C.prog laidL w) ∧ sizedMet enc C.prog fn (OpenSpec.ofChange s) apart w args) (s.post enc C.prog fn apart fresh handsOn false) := by
 refine returnsInHanded_of_change_and (X := fun w _ => laidMetH C.prog laidL w) (fun _ _ _ hh h => h.of_heap hh) own started noInit hfn witness ?_
 intro W base args ds gs before hval hW _ _ hL _
 have hW' := hW
 obtain ⟨p, q, hA, hV, rfl, _, _⟩ := hW
 rw [hvars] at hV
 obtain ⟨rfl, rfl⟩ := trodVars_none hV
 refine Calls.mono (contract W base args ds p hval hA hL) fun e W' ⟨v, he, hE, hv⟩ => ?_
 subst hv
 refine ⟨_, he, ?_⟩
 have hlen : ∀ (ts : List TypeId) (vs : List Value) (ds : List (DataW H)) (ps : List MemPlace), DataW.TrodAll enc C.prog W 0 (fun _ => true) true ts vs ds ps → ds.length = ts.length := by
  intro ts
  induction ts with
  | nil => intro vs ds ps h; cases vs <;> cases ds <;> first | rfl | exact h.elim
  | cons t ts ih =>
   intro vs ds ps h
   cases vs with
   | nil => exact h.elim
   | cons v vs =>
    cases ds with
    | nil => exact h.elim
    | cons d ds => obtain ⟨p, q, _, h2, _⟩ := h; simp [ih _ _ _ h2]
 have hfn' : s.fn H (ds ++ []) = { results := [.lit (.bool true)], args := ds } := by rw [List.append_nil]; exact hs ds (hlen _ _ _ _ hA)
 refine ⟨ds, [], p ++ [], [], p, [], hW', ?_, ?_, ?_, hE.below.frame _, fun h => by cases h⟩
 ·rw [hfn', hres]
  have : fn.resultTypes.size = 1 := by rw [← Array.length_toList, hres]; rfl
  rw [this]
  exact trodAll_mk1 (shut_bool htb true)
 ·rw [hfn']
  exact trodAll_stays laid hE.below _ _ _ _ hts hA (fun x hx => by simpa using hW'.lt x (by simp [hx]))
 ·rw [hfn', hvars]; rfl
end Go.Proofs.YtjklgohpminefaaGreatDoorC
namespace Go.Proofs.YtjklgohpminefaaGreatDoor
open Go.RowKit Go.Proofs.YtjklgohpminefaaGreatDoorC Go.ChangeShapes
theorem own3 : ownKnob Tryz.prog.godebug = none := by kernel_rfl
theorem laidOut3 : laidOutB Tryz.prog = true := by kernel_rfl
theorem u8_rng {n : Int} (h : (Lit.int .u8 n).wf = true) : 0 ≤ n ∧ n ≤ 255 := by
 have h1 : IntKind.u8.min = 0 := rfl
 have h2 : IntKind.u8.max = 255 := rfl
 have h : (decide (IntKind.u8.min ≤ n) && decide (n ≤ IntKind.u8.max)) = true := h
 rw [h1, h2, Bool.and_eq_true] at h
 exact ⟨of_decide_eq_true h.1, of_decide_eq_true h.2⟩
end Go.Proofs.YtjklgohpminefaaGreatDoor
namespace Go.Proofs.YtjklgohpminefaaGreatDoor
open Go.RowKit Go.Proofs.YtjklgohpminefaaGreatDoorC Go.ChangeShapes
theorem int_flat : flatT Tryz.prog 1 3 = some [.int .i64] := by kernel_rfl
theorem ints_of : ∀ (rows : List (List Value)), (∀ r ∈ rows, X0 [.int .i64] r) → ∃ l : List Int, rows = l.map eI
 | [], _ => ⟨[], rfl⟩
 | r :: rows, h => by
  obtain ⟨l, hl⟩ := ints_of rows (fun x hx => h x (by simp [hx]))
  obtain ⟨_, r1, e1, ⟨a1, rfl, _⟩, h1⟩ := (h r (by simp)).cons
  have e2 := h1.nil
  exact ⟨a1 :: l, by rw [hl, e1, e2]; rfl⟩
end Go.Proofs.YtjklgohpminefaaGreatDoor
