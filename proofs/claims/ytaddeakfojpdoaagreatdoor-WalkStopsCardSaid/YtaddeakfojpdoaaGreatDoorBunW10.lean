/- Tries: pairs may be gone through as far as one likes, and begin anew. -/
import Derived.Test.YtaddeakfojpdoaaGreatDoorBunW9
import Derived.Test.YtaddeakfojpdoaaGreatDoorBunW7
import Derived.Test.YtaddeakfojpdoaaGreatDoorBunW5
import Derived.Test.YtaddeakfojpdoaaGreatDoorBunW2
import Derived.LaidMore
import Derived.Lay
import Derived.OpenShut
import Derived.Stop.Joined
import Derived.Test.YtaddeakfojpdoaaGreatDoorBunW4
import Derived.Test.YtaddeakfojpdoaaGreatDoorRows
set_option linter.unusedVariables false
set_option linter.unusedSimpArgs false
set_option maxRecDepth 100000
namespace Go.Proofs.YtaddeakfojpdoaaGreatDoorC
open Go.RowKit
def great14 (ks : List Str) : Bool := (ks.any fun t => decide (t.length > 100)) || decide (ks.length > 100)
theorem great14_no {ks : List Str} (h : great14 ks = false) : (∀ k ∈ ks, k.length ≤ 100) ∧ ks.length ≤ 100 := by
  unfold great14 at h
  rw [Bool.or_eq_false_iff] at h
  refine ⟨fun k hk => ?_, by have := of_decide_eq_false h.2; omega⟩
  have h1 := h.1
  rw [List.any_eq_false] at h1
  have := h1 k hk
  simp only [decide_eq_true_eq] at this; omega
/-- What the pairs of a tree of pairs lean on. -/
structure Mild (xs : List (Str × Int)) : Prop where
  txt : ∀ q ∈ xs, q.1.length ≤ 100
  len : xs.length ≤ 100
theorem Mild.ok {xs : List (Str × Int)} (h : Mild xs) : (ofT xs).Ok xs.length 101 := ofT_ok xs fun q hq => by have := h.txt q hq; omega
theorem Mild.told {xs : List (Str × Int)} (h : Mild xs) : (ofT xs).told [] = tsOf xs := told_ofT (m := 101) fun q hq => by have := h.txt q hq; omega
theorem Mild.again {xs : List (Str × Int)} (h : Mild xs) : Mild (tsOf xs) := ⟨fun q hq => h.txt q ((tsOf_mem xs q).1 hq).1, Nat.le_trans (tsOf_len xs) h.len⟩
theorem Mild.zip {ks : List Str} {ys : List Int} (h1 : ∀ k ∈ ks, k.length ≤ 100) (h2 : ks.length ≤ 100) : Mild (ks.zip ys) := ⟨fun q hq => h1 _ (List.of_mem_zip (show (q.1, q.2) ∈ ks.zip ys from hq)).1, by rw [List.length_zip]; omega⟩
theorem Mild.all {xs : List (Str × Int)} (h : Mild xs) (f : Str) : toldU false f (ofT xs) = tsOf xs := by unfold toldU; rw [if_neg (by simp)]; exact h.told
theorem Mild.txts {xs : List (Str × Int)} (h : Mild xs) : ∀ k ∈ (tsOf xs).map Prod.fst, k.length ≤ 100 := fun k hk => by obtain ⟨q, hq, rfl⟩ := List.mem_map.1 hk; exact h.again.txt q hq
section
variable {P : Program} {σ : Env} {w : World} {dst : Option Nat} {ty : TypeId} {pos : String} {g}
/-- A function that isn't there is nil. -/
theorem rn_nilf_eql {t u : TypeId} {af} (ht : (match P.underlying t with | some (.func ..) => true | _ => false) = true) {x y : Operand} (hx : ev σ x = .nilFunc) (hy : ev σ y = .nilFunc) :
    Rn P σ w ⟨dst, .binOp .eql t x y u, ty, pos, af, g⟩ (.bool true) := by
  show (execOp (ev σ) _).run P w = _
  have h1' : ∀ d, (Op.equalIn (d + 1) t .nilFunc .nilFunc).run P w = .ok true w := by
    intro d
    cases hu : P.underlying t with
    | none => simp [hu] at ht
    | some d => cases d <;> simp [hu] at ht; simp only [Op.equalIn, Sem.run_bind, run_underlying hu, Result.andThen_ok, Sem.run_pure]
  have h1 := h1' 9999
  have h2 : (binOp .eql t .nilFunc .nilFunc).run P w = .ok (.bool true) w := by
    show (do pure (Value.bool (← Op.equal t .nilFunc .nilFunc))).run P w = _
    rw [Sem.run_bind]
    rw [show Op.equal t .nilFunc .nilFunc = Op.equalIn (9999 + 1) t .nilFunc .nilFunc from rfl, h1]
    rfl
  have h3 : (eqGuard .eql t x y .nilFunc .nilFunc).run P w = .ok () w := rfl
  simp only [execOp, hx, hy]
  rw [Sem.run_bind, Sem.run_bind, h3, Result.andThen_ok, h2]
  rfl
end
-- bellman/bellmanlaw14.great
theorem great14_ok (w : World) (ks : List Str) {v : Value} (hs : Sl Non w v 1 (ks.map eS1)) : Fn Tryz.prog 7 #[v] w fun u w' => u = .bool (great14 ks) := by
  obtain ⟨a, c, rfl, hbg⟩ := hs.len
  simp only [List.length_map] at hs hbg ⊢
  have hbig2 : big = 9223372036854775807 := rfl
  have hX := Ext.refl Non w
  refine fn_of_W (args := [_]) Tryz.func7 rfl (by kernel_rfl) rfl ?_
  refine W_seq ?_
  refine W_region ?_
  refine wl_val (rn_assign (by conv => lhs; whnf)) ?_
  refine wl_nil ?_
  refine W_seq ?_
  refine W_seq ?_
  refine W_region ?_
  refine wl_val (rn_assign (by conv => lhs; whnf)) ?_
  refine wl_nil ?_
  refine W_block ?_   -- block 0
  refine W_loopS (S := Nat) [0, 3] (fun i => [.slice a ks.length c, .int .i64 (i : Nat)]) (fun i A => (Ext Non w A) ∧ (i ≤ ks.length ∧ ((ks.take i).any fun t => decide (t.length > 100)) = false)) (fun i => ks.length - i) 0 ⟨rfl, rfl, trivial⟩ ⟨hX, ⟨Nat.zero_le _, by simp⟩⟩ ?_
  rintro τ0 i A0 ⟨hX, hI0⟩
  obtain ⟨hil, hno⟩ := hI0
  refine W_seq ?_
  refine W_seq ?_
  refine W_region ?_
  refine wl_val (rn_move (by conv => lhs; whnf)) ?_
  refine wl_val (rn_move (by conv => lhs; whnf)) ?_
  refine wl_val (rn_len sl_22 rfl) ?_
  refine wl_val (rn_lss rfl rfl) ?_
  refine wl_nil ?_
  refine W_cond rfl (fun hc0 => ?_) (fun hc0 => ?_)
  · have hlt := of_decide_eq_true hc0; simp only [Int.ofNat_lt] at hlt
    obtain ⟨x, hi⟩ : ∃ x, (ks)[i]? = some x := ⟨_, List.getElem?_eq_getElem hlt⟩
    obtain ⟨bb, oo, ea⟩ := hs.base (by intro e; have := congrArg List.length e; simp only [List.length_map, List.length_nil] at this; omega); subst ea
    refine W_skip ?_
    refine W_seq ?_
    refine W_block ?_   -- block 1
    refine W_seq ?_
    refine W_region ?_
    refine wl_val (rn_move (by conv => lhs; whnf)) ?_
    refine wl_val (rn_move (by conv => lhs; whnf)) ?_
    refine wl_val (rn_indexAddr sl_22 rfl rfl (by omega)) ?_
    refine wl_val (rn_load p_9 rfl ((hs.ext hX (fun _ h => h)).at0 (eS_at hi) rfl)) ?_
    refine wl_val (rn_slen us_9 rfl) ?_
    refine wl_val (rn_gtr rfl rfl) ?_
    refine wl_nil ?_
    refine W_cond rfl (fun hc1 => ?_) (fun hc1 => ?_)
    · have hR : great14 ks = true := by unfold great14; rw [List.any_eq_true.2 ⟨x, List.mem_of_getElem? hi, decide_eq_true (by have := of_decide_eq_true hc1; omega)⟩]; rfl
      refine W_seq ?_
      refine W_region ?_
      refine wl_val (rn_assign (by conv => lhs; whnf)) ?_
      refine wl_nil ?_
      refine W_ret ?_
      exact ⟨_, resR1 (res1_tmp rfl), hX, by rw [hR]; rfl⟩
    · refine W_skip ?_
      refine W_region ?_
      refine wl_val (rn_move (by conv => lhs; whnf)) ?_
      refine wl_val (rn_add rfl rfl (by omega)) ?_
      refine wl_val (rn_assign (by conv => lhs; whnf)) ?_
      refine wl_nil ?_
      exact ⟨rfl, i + 1, ⟨rfl, rfl, trivial⟩, ⟨hX, ⟨hlt, by rw [List.take_add_one, hi]; simp only [Option.toList_some, List.any_append, List.any_cons, List.any_nil, Bool.or_false, hno, Bool.false_or]; have := of_decide_eq_false hc1; exact decide_eq_false (by omega)⟩⟩, by omega⟩
  · have hge := of_decide_eq_false hc0; simp only [Int.ofNat_lt, Nat.not_lt] at hge
    rw [List.take_of_length_le hge] at hno
    refine W_exit ?_   -- exit 0
    refine W_seq ?_
    refine W_region ?_
    refine wl_val (rn_move (by conv => lhs; whnf)) ?_
    refine wl_val (rn_len sl_22 rfl) ?_
    refine wl_val (rn_gtr rfl rfl) ?_
    refine wl_val (rn_assign (by conv => lhs; whnf)) ?_
    refine wl_nil ?_
    refine W_ret ?_
    exact ⟨_, resR1 (res1_tmp rfl), hX, (by unfold great14; rw [hno, Bool.false_or]; exact congrArg Value.bool (decide_eq_decide.2 (by omega)))⟩
theorem awake_mild : Mild (([[97], [97, 47, 98], [97]] : List Str).zip ([2, 1, 1] : List Int)) := Mild.zip (by decide) (by decide)
theorem awake_ts2 : toldU false [] (ofT (([[97], [97, 47, 98], [97]] : List Str).zip ([2, 1, 1] : List Int))) = ([([97], 1), ([97], 2), ([97, 47, 98], 1)] : List (Str × Int)) := by rw [awake_mild.all, awake_ts]
-- bellman/bellmanlaw14.awake
theorem awake14_ok (w : World)  : Fn Tryz.prog 6 #[] w fun u w' => u = .bool true := by
  have hX := Ext.refl Non w
  refine fn_of_W (args := []) Tryz.func6 rfl (by kernel_rfl) rfl ?_
  refine W_seq ?_
  refine W_region ?_
  refine wl_val (rn_assign (by conv => lhs; whnf)) ?_
  refine wl_nil ?_
  refine W_seq ?_
  refine W_region ?_
  refine wl_lit sl_22 (rows := ([[97], [97, 47, 98], [97]] : List Str).map eS1) rfl (by decide) (by decide) rfl rfl (by intro r hr; obtain ⟨x, _, rfl⟩ := List.mem_map.1 hr; rfl) (by intro p hp; simp at hp; rcases hp with rfl | rfl | rfl <;> exact ⟨rfl, Nat.le_of_ble_eq_true rfl⟩) rfl ?_; intro v5 w1 b5 hb5 hE1 hO5
  replace hX := hX.tr hE1
  refine wl_lit sl_23 (rows := ([2, 1, 1] : List Int).map eI1) rfl (by decide) (by decide) rfl rfl (by intro r hr; obtain ⟨x, _, rfl⟩ := List.mem_map.1 hr; rfl) (by intro p hp; simp at hp; rcases hp with rfl | rfl | rfl <;> exact ⟨rfl, Nat.le_of_ble_eq_true rfl⟩) rfl ?_; intro v6 w2 b6 hb6 hE2 hO6
  replace hX := hX.tr hE2
  replace hO5 := hO5.ext hE2 id
  refine wl_call e_8 rfl (lof_ok w2 ([[97], [97, 47, 98], [97]] : List Str) ([2, 1, 1] : List Int) (hO5.sl (M := Non) id) (hO6.sl (M := Non) id) (by decide) (by decide)) ?_; intro v7 w3 hE3 hR3
  replace hX := hX.tr hE3
  replace hO5 := hO5.ext hE3 id
  replace hO6 := hO6.ext hE3 id
  have hT7 := hR3
  refine wl_call e_9 rfl (lpairs_ok w3 _ awake_mild.ok (by decide) [] (by decide) (fun q hq => by rw [awake_mild.told] at hq; have := awake_mild.again.txt q hq; omega) false (by rw [awake_mild.told]; have := awake_mild.again.len; omega) hT7) ?_; intro v8 w4 hE4 hR4
  replace hX := hX.tr hE4
  replace hO5 := hO5.ext hE4 id
  replace hO6 := hO6.ext hE4 id
  obtain ⟨va, vb, rfl, hSa, hSb⟩ := hR4
  rw [awake_ts2] at hSa hSb
  refine wl_val (rn_move (by conv => lhs; whnf)) ?_
  refine wl_val (rn_extract rfl rfl) ?_
  refine wl_val (rn_extract rfl rfl) ?_
  refine wl_val (rn_extract rfl rfl) ?_
  refine wl_val (rn_assign (by conv => lhs; whnf)) ?_
  refine wl_val (rn_assign (by conv => lhs; whnf)) ?_
  refine wl_val (rn_assign (by conv => lhs; whnf)) ?_
  refine wl_nil ?_
  refine W_seq ?_
  refine W_region ?_
  refine wl_val (rn_move (by conv => lhs; whnf)) ?_
  refine wl_lit sl_22 (rows := ([[97], [97], [97, 47, 98]] : List Str).map eS1) rfl (by decide) (by decide) rfl rfl (by intro r hr; obtain ⟨x, _, rfl⟩ := List.mem_map.1 hr; rfl) (by intro p hp; simp at hp; rcases hp with rfl | rfl | rfl <;> exact ⟨rfl, Nat.le_of_ble_eq_true rfl⟩) rfl ?_; intro v13 w5 b13 hb13 hE5 hO13
  replace hX := hX.tr hE5
  replace hO5 := hO5.ext hE5 id
  replace hO6 := hO6.ext hE5 id
  replace hSa := hSa.ext hE5 (fun _ h => h)
  replace hSb := hSb.ext hE5 (fun _ h => h)
  refine wl_call e_12 rfl (texts_ok w5 ([[97], [97], [97, 47, 98]] : List Str) ([[97], [97], [97, 47, 98]] : List Str) hSa (hO13.sl (M := Non) id) (by decide)) ?_; intro v14 w6 hE6 hR6
  replace hX := hX.tr hE6
  replace hO5 := hO5.ext hE6 id
  replace hO6 := hO6.ext hE6 id
  replace hSa := hSa.ext hE6 (fun _ h => h)
  replace hSb := hSb.ext hE6 (fun _ h => h)
  replace hO13 := hO13.ext hE6 id
  subst hR6
  refine wl_val (rn_move (by conv => lhs; whnf)) ?_
  refine wl_yes rfl (congrArg Value.bool (decide_eq_true rfl)) ?_
  refine wl_val (rn_move (by conv => lhs; whnf)) ?_
  refine wl_yes rfl (congrArg Value.bool (decide_eq_true rfl)) ?_
  refine wl_lit sl_23 (rows := ([1, 2, 1] : List Int).map eI1) rfl (by decide) (by decide) rfl rfl (by intro r hr; obtain ⟨x, _, rfl⟩ := List.mem_map.1 hr; rfl) (by intro p hp; simp at hp; rcases hp with rfl | rfl | rfl <;> exact ⟨rfl, Nat.le_of_ble_eq_true rfl⟩) rfl ?_; intro v17 w7 b17 hb17 hE7 hO17
  replace hX := hX.tr hE7
  replace hO5 := hO5.ext hE7 id
  replace hO6 := hO6.ext hE7 id
  replace hSa := hSa.ext hE7 (fun _ h => h)
  replace hSb := hSb.ext hE7 (fun _ h => h)
  replace hO13 := hO13.ext hE7 id
  refine wl_yes rfl (congrArg Value.bool (decide_eq_true rfl)) ?_
  refine wl_call e_13 rfl (ints_ok w7 ([1, 2, 1] : List Int) ([1, 2, 1] : List Int) hSb (hO17.sl (M := Non) id) (by decide)) ?_; intro v18 w8 hE8 hR8
  replace hX := hX.tr hE8
  replace hO5 := hO5.ext hE8 id
  replace hO6 := hO6.ext hE8 id
  replace hSa := hSa.ext hE8 (fun _ h => h)
  replace hSb := hSb.ext hE8 (fun _ h => h)
  replace hO13 := hO13.ext hE8 id
  replace hO17 := hO17.ext hE8 id
  subst hR8
  refine wl_val (rn_pickT (congrArg Value.bool (decide_eq_true rfl)) (by conv => lhs; whnf)) ?_
  refine wl_val (rn_assign (by conv => lhs; whnf)) ?_
  refine wl_nil ?_
  refine W_ret ?_
  exact ⟨_, resR1 (res1_tmp rfl), hX, congrArg Value.bool (decide_eq_true rfl)⟩
-- bellman/walk.Of
theorem wof_nil (w : World)  : Fn Tryz.prog 11 #[.nilFunc] w fun u w' => u = .pointer none := by
  have hX := Ext.refl Non w
  refine fn_of_W (args := [_]) Tryz.func11 rfl (by kernel_rfl) rfl ?_
  refine W_seq ?_
  refine W_region ?_
  refine wl_val (rn_assign (by conv => lhs; whnf)) ?_
  refine wl_nil ?_
  refine W_seq ?_
  refine W_region ?_
  refine wl_alloc z_26 ?_; intro b3 w1 hb3 hE1 hB3
  have hq3 : w.heap.size ≤ b3 := Nat.le_trans hX.size hb3
  have hl3 : Mine Non w b3 := .inr hq3
  replace hX := hX.tr hE1
  refine wl_nil ?_
  refine W_seq ?_
  refine W_seq ?_
  refine W_region ?_
  refine wl_val (rn_move (by conv => lhs; whnf)) ?_
  refine wl_val (rn_nilf_eql uf_31 rfl rfl) ?_
  refine wl_nil ?_
  refine W_condT rfl ?_
  refine W_seq ?_
  refine W_region ?_
  refine wl_val (rn_load1 p_26 rfl hB3 rfl) ?_
  refine wl_val (rn_assign (by conv => lhs; whnf)) ?_
  refine wl_nil ?_
  refine W_ret ?_
  exact ⟨_, resR1 (res1_tmp rfl), hX, rfl⟩
-- bellman/bellmanlaw14.WalkStops
set_option maxHeartbeats 3200000 in
theorem walkStops_ok (w : World) (ks : List Str) (ys : List Int) (few : Int) (hf0 : 0 ≤ few) (hf1 : few < 256) {v1 v2 : Value} (hk : Sl Non w v1 1 (ks.map eS1)) (hv : Sl Non w v2 1 (ys.map eI1)) : Fn Tryz.prog 3 #[v1, v2, .int .u8 few] w fun u w' => u = .bool true := by
  obtain ⟨p1, n1, k1, rfl⟩ := hk.shape; obtain ⟨p2, n2, k2, rfl⟩ := hv.shape
  have hX := Ext.refl Non w
  refine fn_of_W (args := [_, _, _]) Tryz.func3 rfl (by kernel_rfl) rfl ?_
  refine W_seq ?_
  refine W_region ?_
  refine wl_box1 (by conv => lhs; whnf) rfl ?_; intro b5 w1 hb5 hE1 hB5
  have hq5 : w.heap.size ≤ b5 := Nat.le_trans hX.size hb5
  have hl5 : Mine Non w b5 := .inr hq5
  replace hX := hX.tr hE1
  refine wl_alloc z_4 ?_; intro b6 w2 hb6 hE2 hB6
  have hn5_6 : b5 < b6 := Nat.lt_of_lt_of_le hB5.lt hb6
  have hq6 : w.heap.size ≤ b6 := Nat.le_trans hX.size hb6
  have hl6 : Mine Non w b6 := .inr hq6
  replace hX := hX.tr hE2
  replace hB5 := hB5.ext hE2 id
  refine wl_nil ?_
  refine W_seq ?_
  refine W_seq ?_
  refine W_region ?_
  refine wl_call e_6 rfl (awake14_ok w2) ?_; intro v20 w3 hE3 hR3
  replace hX := hX.tr hE3
  replace hB5 := hB5.ext hE3 id; replace hB6 := hB6.ext hE3 id
  subst hR3
  refine wl_val (rn_not rfl) ?_
  refine wl_nil ?_
  refine W_cond rfl (fun hc0 => ?_) (fun hc0 => ?_)
  · exact absurd hc0 (by decide)
  · refine W_skip ?_
    refine W_seq ?_
    refine W_seq ?_
    refine W_region ?_
    refine wl_val (rn_move (by conv => lhs; whnf)) ?_
    refine wl_call e_7 rfl (great14_ok w3 ks (hk.ext hX (fun _ h => h))) ?_; intro v23 w4 hE4 hR4
    replace hX := hX.tr hE4
    replace hB5 := hB5.ext hE4 id; replace hB6 := hB6.ext hE4 id
    subst hR4
    refine wl_nil ?_
    refine W_cond rfl (fun hc1 => ?_) (fun hc1 => ?_)
    · refine W_seq ?_
      refine W_region ?_
      refine wl_store1 (b := b6) p_4 rfl (by conv => lhs; whnf) rfl rfl hB6 (Nat.le_of_ble_eq_true rfl) ?_; intro w5 hE5 hB6 hz5
      replace hX := hX.mine hE5 hl6
      replace hB5 := hB5.ext hE5 (fun h => by omega)
      refine wl_nil ?_
      refine W_ret ?_
      exact ⟨_, resR1 (res1_cell p_4 rfl hB6), hX, rfl⟩
    · obtain ⟨hkl, hkn⟩ := great14_no hc1
      have hMi : Mild (ks.zip ys) := Mild.zip hkl hkn
      have hM0 : Mild [] := ⟨by simp, by simp⟩
      refine W_skip ?_
      refine W_seq ?_
      refine W_region ?_
      refine wl_val (rn_move (by conv => lhs; whnf)) ?_
      refine wl_val (rn_move (by conv => lhs; whnf)) ?_
      refine wl_call e_8 rfl (lof_ok w4 ks ys (hk.ext hX (fun _ h => h)) (hv.ext hX (fun _ h => h)) (fun k h => by have := hkl k h; omega) (by omega)) ?_; intro v26 w6 hE6 hR6
      replace hX := hX.tr hE6
      replace hB5 := hB5.ext hE6 id; replace hB6 := hB6.ext hE6 id
      have hT0 := hR6; obtain ⟨pt, rfl⟩ := hT0.ptr
      refine wl_val (rn_assign (by conv => lhs; whnf)) ?_
      refine wl_nil ?_
      refine W_seq ?_
      refine W_region ?_
      refine wl_val (rn_move (by conv => lhs; whnf)) ?_
      refine wl_call e_9 rfl (lpairs_ok w6 _ hMi.ok (by decide) [] (by decide) (fun q hq => by rw [hMi.told] at hq; have := hMi.again.txt q hq; omega) false (by rw [hMi.told]; have := hMi.again.len; have := hMi.len; omega) hT0) ?_; intro v29 w7 hE7 hR7
      replace hX := hX.tr hE7
      replace hB5 := hB5.ext hE7 id; replace hB6 := hB6.ext hE7 id
      replace hT0 := hT0.ext hE7 (fun _ h => h)
      obtain ⟨va, vb, rfl, hSa, hSb⟩ := hR7
      rw [hMi.all] at hSa hSb
      obtain ⟨aA, cA, hvA, _⟩ := id hSa.len; rw [List.length_map, List.length_map] at hvA; subst hvA
      obtain ⟨aB, cB, hvB, _⟩ := id hSb.len; rw [List.length_map, List.length_map] at hvB; subst hvB
      obtain ⟨wl, hwl⟩ : ∃ x, x = w7 := ⟨_, rfl⟩
      have hTr := hT0.sub (M' := fun i => wl.heap.size ≤ i) (fun i h hlt => by rw [hwl] at h; omega)
      replace hSa := hSa.sub (M' := fun i => wl.heap.size ≤ i) (fun i h hlt => by rw [hwl] at h; omega)
      replace hSb := hSb.sub (M' := fun i => wl.heap.size ≤ i) (fun i h hlt => by rw [hwl] at h; omega)
      have hVl := Ext.refl (fun i => wl.heap.size ≤ i) w7
      rw [← hwl] at hTr hSa hSb
      conv at hVl => arg 2; rw [← hwl]
      refine wl_val (rn_move (by conv => lhs; whnf)) ?_
      refine wl_val (rn_extract rfl rfl) ?_
      refine wl_val (rn_extract rfl rfl) ?_
      refine wl_val (rn_extract rfl rfl) ?_
      refine wl_alloc z_22 ?_; intro b8 w8 hb8 hE8 hB8
      have hn5_8 : b5 < b8 := Nat.lt_of_lt_of_le hB5.lt hb8
      have hn6_8 : b6 < b8 := Nat.lt_of_lt_of_le hB6.lt hb8
      have hq8 : w.heap.size ≤ b8 := Nat.le_trans hX.size hb8
      have hl8 : Mine Non w b8 := .inr hq8
      have ht8 : wl.heap.size ≤ b8 := Nat.le_trans hVl.size hb8
      replace hX := hX.tr hE8
      replace hB5 := hB5.ext hE8 id; replace hB6 := hB6.ext hE8 id
      replace hVl := hVl.tr hE8
      refine wl_alloc z_23 ?_; intro b9 w9 hb9 hE9 hB9
      have hn5_9 : b5 < b9 := Nat.lt_of_lt_of_le hB5.lt hb9
      have hn6_9 : b6 < b9 := Nat.lt_of_lt_of_le hB6.lt hb9
      have hn8_9 : b8 < b9 := Nat.lt_of_lt_of_le hB8.lt hb9
      have hq9 : w.heap.size ≤ b9 := Nat.le_trans hX.size hb9
      have hl9 : Mine Non w b9 := .inr hq9
      have ht9 : wl.heap.size ≤ b9 := Nat.le_trans hVl.size hb9
      replace hX := hX.tr hE9
      replace hB5 := hB5.ext hE9 id; replace hB6 := hB6.ext hE9 id; replace hB8 := hB8.ext hE9 id
      replace hVl := hVl.tr hE9
      have hBo := hB8
      refine wl_store1 (b := b8) p_22 rfl (by conv => lhs; whnf) rfl rfl hB8 (Nat.le_of_ble_eq_true rfl) ?_; intro w10 hE10 hB8 hz10
      replace hX := hX.mine hE10 hl8
      replace hB5 := hB5.ext hE10 (fun h => by omega); replace hB6 := hB6.ext hE10 (fun h => by omega); replace hB9 := hB9.ext hE10 (fun h => by omega)
      replace hVl := hVl.mine hE10 (.inl ht8)
      have hBo := hB9
      refine wl_store1 (b := b9) p_23 rfl (by conv => lhs; whnf) rfl rfl hB9 (Nat.le_of_ble_eq_true rfl) ?_; intro w11 hE11 hB9 hz11
      replace hX := hX.mine hE11 hl9
      replace hB5 := hB5.ext hE11 (fun h => by omega); replace hB6 := hB6.ext hE11 (fun h => by omega); replace hB8 := hB8.ext hE11 (fun h => by omega)
      replace hVl := hVl.mine hE11 (.inl ht9)
      refine wl_val (rn_assign (by conv => lhs; whnf)) ?_
      refine wl_nil ?_
      refine W_seq ?_
      refine W_seq ?_
      refine W_region ?_
      refine wl_val (rn_move (by conv => lhs; whnf)) ?_
      refine wl_val (rn_not rfl) ?_
      refine wl_val (rn_move (by conv => lhs; whnf)) ?_
      refine wl_yes rfl rfl ?_
      refine wl_val (rn_move (by conv => lhs; whnf)) ?_
      refine wl_yes rfl rfl ?_
      refine wl_call e_10 rfl (pairs_ok w11 _ hMi.ok (by decide) Non (fun _ h => h.elim) ((hTr.ext hVl (fun i h => h)).sub (M' := Non) (fun _ h _ => h.elim))) ?_; intro v37 w12 hE12 hR12
      replace hX := hX.tr hE12
      replace hB5 := hB5.ext hE12 id; replace hB6 := hB6.ext hE12 id; replace hB8 := hB8.ext hE12 id; replace hB9 := hB9.ext hE12 id
      replace hVl := hVl.tr hE12
      obtain ⟨_, fp, cp, rfl⟩ := hR12
      refine wl_yes rfl rfl ?_
      refine wl_val (rn_func_eql uf_31 rfl rfl) ?_
      refine wl_val (rn_pickF rfl (by conv => lhs; whnf)) ?_
      refine wl_nil ?_
      refine W_condF rfl ?_
      refine W_skip ?_
      refine W_seq ?_
      refine W_region ?_
      refine wl_alloc z_3 ?_; intro b11 w13 hb11 hE13 hB11
      have hn5_11 : b5 < b11 := Nat.lt_of_lt_of_le hB5.lt hb11
      have hn6_11 : b6 < b11 := Nat.lt_of_lt_of_le hB6.lt hb11
      have hn8_11 : b8 < b11 := Nat.lt_of_lt_of_le hB8.lt hb11
      have hn9_11 : b9 < b11 := Nat.lt_of_lt_of_le hB9.lt hb11
      have hq11 : w.heap.size ≤ b11 := Nat.le_trans hX.size hb11
      have hl11 : Mine Non w b11 := .inr hq11
      have ht11 : wl.heap.size ≤ b11 := Nat.le_trans hVl.size hb11
      replace hX := hX.tr hE13
      replace hB5 := hB5.ext hE13 id; replace hB6 := hB6.ext hE13 id; replace hB8 := hB8.ext hE13 id; replace hB9 := hB9.ext hE13 id
      replace hVl := hVl.tr hE13
      have hBo := hB11
      refine wl_store1 (b := b11) p_3 rfl (by conv => lhs; whnf) rfl rfl hB11 (Nat.le_of_ble_eq_true rfl) ?_; intro w14 hE14 hB11 hz14
      replace hX := hX.mine hE14 hl11
      replace hB5 := hB5.ext hE14 (fun h => by omega); replace hB6 := hB6.ext hE14 (fun h => by omega); replace hB8 := hB8.ext hE14 (fun h => by omega); replace hB9 := hB9.ext hE14 (fun h => by omega)
      replace hVl := hVl.mine hE14 (.inl ht11)
      refine wl_nil ?_
      refine W_seq ?_
      refine W_seq ?_
      refine W_region ?_
      refine wl_val (rn_move (by conv => lhs; whnf)) ?_
      refine wl_call e_10 rfl (pairs_ok w14 _ hMi.ok (by decide) (fun i => i = b11) (fun i e => by rw [e]; exact hB11.lt) ((hTr.ext hVl (fun i h => h)).sub (M' := fun i => i = b11) (fun i e _ => by rw [e]; exact ht11))) ?_; intro v41 w15 hE15 hR15
      replace hX := hX.tr hE15
      replace hB5 := hB5.ext hE15 id; replace hB6 := hB6.ext hE15 id; replace hB8 := hB8.ext hE15 id; replace hB9 := hB9.ext hE15 id; replace hB11 := hB11.ext hE15 id
      replace hVl := hVl.tr hE15
      have hIt := (hR15).1; obtain ⟨fk, ck, hfk, _⟩ := id hIt; subst hfk
      obtain ⟨wz, hwz⟩ : ∃ x, x = w15 := ⟨_, rfl⟩
      rw [← hwz] at hIt
      have he0 : Ext (fun i => i = b11) wz w15 := by rw [hwz]; exact Ext.refl _ _
      rw [hMi.told] at hIt
      refine wl_nil ?_
      refine W_block ?_   -- block 0
      have hszr := hX.size
      have hsz_hVl := hVl.size
      have ho5 : w.heap.size ≤ b5 := by rcases hl5 with h | h; exact h.elim; exact h
      have ho6 : w.heap.size ≤ b6 := by rcases hl6 with h | h; exact h.elim; exact h
      have ho8 : w.heap.size ≤ b8 := by rcases hl8 with h | h; exact h.elim; exact h
      have ho9 : w.heap.size ≤ b9 := by rcases hl9 with h | h; exact h.elim; exact h
      have ho11 : w.heap.size ≤ b11 := by rcases hl11 with h | h; exact h.elim; exact h
      refine W_rangeFunc (M := fun i => i = b11) (w0 := wz) (I := fun pre N A => Box N A b5 [.int .u8 few] ∧ Box N A b6 [.bool false] ∧ Box N A b8 [.slice aA (tsOf (ks.zip ys)).length cA] ∧ Box N A b9 [.slice aB (tsOf (ks.zip ys)).length cB] ∧ Box N A b11 [.int .i64 (pre.length : Nat)] ∧ Ext Non w A ∧ Ext (fun i => wl.heap.size ≤ i) wl A ∧ MkN w [] N A ∧ (True)) (X := fun c N A => c = .exit 0 ∧ Box N A b6 [.bool false] ∧ Box N A b8 [.slice aA (tsOf (ks.zip ys)).length cA] ∧ Box N A b9 [.slice aB (tsOf (ks.zip ys)).length cB] ∧ Ext Non w A ∧ Ext (fun i => wl.heap.size ≤ i) wl A ∧ MkN w [] N A ∧ (True)) (encs := fun q : Str × Int => [Sv q.1, .int .i64 q.2]) (xs := (tsOf (ks.zip ys))) rfl (hIt) (he0) (fun _ => rfl) (fun pre => (Stab.box _ _).and ((Stab.box _ _).and ((Stab.box _ _).and ((Stab.box _ _).and ((Stab.box _ _).and ((Stab.old hX.size).and ((Stab.oldM hVl.size).and ((Stab.mk _ _).and ((Stab.pure _)))))))))) (fun c => (Stab.pure _).and ((Stab.box _ _).and ((Stab.box _ _).and ((Stab.box _ _).and ((Stab.old hX.size).and ((Stab.oldM hVl.size).and ((Stab.mk _ _).and ((Stab.pure _))))))))) ⟨⟨hB5, id⟩, ⟨hB6, id⟩, ⟨hB8, id⟩, ⟨hB9, id⟩, ⟨hB11, id⟩, hX, hVl, (Mk.nil : Mk w [] _).toN, trivial⟩ ?_ ?_ ?_
      · rintro l N pre x A hl hN hA hst ⟨hK5, hK6, hK8, hK9, hK11, hXo, hVl, hDk, hIr⟩ ⟨post, hpre⟩
        have hB5 := hK5.1
        have hB6 := hK6.1
        have hB8 := hK8.1
        have hB9 := hK9.1
        have hB11 := hK11.1; have hl11 : Mine (Yc (fun i => i = b11) wz N) A b11 := .inl ⟨hK11.2, .inl rfl⟩
        have hX := Ext.refl (Yc (fun i => i = b11) wz N) A
        refine W_seq ?_
        refine W_region ?_
        refine wl_val (rn_assign (by conv => lhs; whnf)) ?_
        refine wl_nil ?_
        refine W_region ?_
        refine wl_val (rn_assign (by conv => lhs; whnf)) ?_
        refine wl_nil ?_
        refine ⟨rfl, hX, fun A2 hE2r hz2r hst2 => ?_⟩
        have hNl := (hN l hl).2
        replace hB5 := hB5.ext hE2r (fun e => hK5.2 (by rw [e]; exact hl))
        replace hB6 := hB6.ext hE2r (fun e => hK6.2 (by rw [e]; exact hl))
        replace hB8 := hB8.ext hE2r (fun e => hK8.2 (by rw [e]; exact hl))
        replace hB9 := hB9.ext hE2r (fun e => hK9.2 (by rw [e]; exact hl))
        replace hB11 := hB11.ext hE2r (fun e => hK11.2 (by rw [e]; exact hl))
        replace hXo := hXo.mine hE2r (.inr (Nat.le_trans hszr (hN l hl).1)); replace hDk := hDk.lp hE2r hl
        replace hVl := hVl.mine hE2r (.inr (Nat.le_trans hsz_hVl (hN l hl).1))
        have hl11 : Mine (Yc (fun i => i = b11) wz N) A2 b11 := .inl ⟨hK11.2, .inl rfl⟩
        have hX := Ext.refl (Yc (fun i => i = b11) wz N) A2
        refine W_block ?_   -- block 1
        refine W_seq ?_
        refine W_seq ?_
        refine W_region ?_
        have hLz : (tsOf (ks.zip ys))[pre.length]? = some x := by rw [hpre]; simp
        have hLl : pre.length < (tsOf (ks.zip ys)).length := (List.getElem?_eq_some_iff.1 hLz).1
        have hLn := hMi.again.len
        have hi : ((tsOf (ks.zip ys)).map Prod.fst)[pre.length]? = some x.1 := by simp [hLz]
        have hj : ((tsOf (ks.zip ys)).map Prod.snd)[pre.length]? = some x.2 := by simp [hLz]
        obtain ⟨bbA, ooA, eaA⟩ := hSa.base (by intro e; have := congrArg List.length e; simp only [List.length_map, List.length_nil] at this; omega); subst eaA
        obtain ⟨bbB, ooB, eaB⟩ := hSb.base (by intro e; have := congrArg List.length e; simp only [List.length_map, List.length_nil] at this; omega); subst eaB
        refine wl_val (rn_load1 p_3 rfl hB11 rfl) ?_
        refine wl_val (rn_load1 p_22 rfl hB8 rfl) ?_
        refine wl_val (rn_len sl_22 rfl) ?_
        refine wl_val (rn_geq rfl rfl) ?_
        refine wl_val (rn_move (by conv => lhs; whnf)) ?_
        refine wl_split (d := 48) rfl (fun hg48 => ?_) (fun hg48 => ?_)
        · exact absurd (of_decide_eq_true hg48) (by omega)
        · refine wl_yes rfl (congrArg Value.bool hg48) ?_
          refine wl_val (rn_move (by conv => lhs; whnf)) ?_
          refine wl_yes rfl (congrArg Value.bool hg48) ?_
          refine wl_val (rn_load1 p_22 rfl hB8 rfl) ?_
          refine wl_yes rfl (congrArg Value.bool hg48) ?_
          refine wl_val (rn_load1 p_3 rfl hB11 rfl) ?_
          refine wl_yes rfl (congrArg Value.bool hg48) ?_
          refine wl_val (rn_indexAddr sl_22 rfl rfl (by omega)) ?_
          refine wl_yes rfl (congrArg Value.bool hg48) ?_
          refine wl_val (rn_load p_9 rfl ((hSa.ext hVl (fun i h => h)).at0 (eS_at hi) rfl)) ?_
          refine wl_yes rfl (congrArg Value.bool hg48) ?_
          refine wl_val (rn_sneq rfl rfl) ?_
          refine wl_val (rn_pickF (congrArg Value.bool hg48) (by conv => lhs; whnf)) ?_
          refine wl_val (rn_move (by conv => lhs; whnf)) ?_
          refine wl_split (d := 56) rfl (fun hg56 => ?_) (fun hg56 => ?_)
          · exact absurd (of_decide_eq_true hg56) (by simp)
          · refine wl_yes rfl (congrArg Value.bool hg56) ?_
            refine wl_val (rn_move (by conv => lhs; whnf)) ?_
            refine wl_yes rfl (congrArg Value.bool hg56) ?_
            refine wl_val (rn_load1 p_23 rfl hB9 rfl) ?_
            refine wl_yes rfl (congrArg Value.bool hg56) ?_
            refine wl_val (rn_load1 p_3 rfl hB11 rfl) ?_
            refine wl_yes rfl (congrArg Value.bool hg56) ?_
            refine wl_val (rn_indexAddr sl_23 rfl rfl (by omega)) ?_
            refine wl_yes rfl (congrArg Value.bool hg56) ?_
            refine wl_val (rn_load p_3 rfl ((hSb.ext hVl (fun i h => h)).at0 (eI_at hj) rfl)) ?_
            refine wl_yes rfl (congrArg Value.bool hg56) ?_
            refine wl_val (rn_neq rfl rfl) ?_
            refine wl_val (rn_pickF (congrArg Value.bool hg56) (by conv => lhs; whnf)) ?_
            refine wl_nil ?_
            refine W_cond rfl (fun hc3 => ?_) (fun hc3 => ?_)
            · exact absurd (of_decide_eq_true hc3) (by simp)
            · refine W_skip ?_
              refine W_seq ?_
              refine W_region ?_
              refine wl_val (rn_load1 p_3 rfl hB11 rfl) ?_
              refine wl_val (rn_add rfl rfl (by omega)) ?_
              have hBo := hB11
              refine wl_store1 (b := b11) p_3 rfl (by conv => lhs; whnf) rfl rfl hB11 (Nat.le_of_ble_eq_true rfl) ?_; intro w16 hE16 hB11 hz16
              replace hX := hX.mine hE16 hl11
              replace hB5 := hB5.ext hE16 (fun h => by omega); replace hB6 := hB6.ext hE16 (fun h => by omega); replace hB8 := hB8.ext hE16 (fun h => by omega); replace hB9 := hB9.ext hE16 (fun h => by omega)
              replace hXo := hXo.mine hE16 (.inr ho11)
              replace hDk := hDk.box hE16 hBo
              replace hVl := hVl.mine hE16 (.inl ht11)
              refine wl_nil ?_
              refine W_seq ?_
              refine W_region ?_
              refine wl_val (rn_load1 p_3 rfl hB11 rfl) ?_
              refine wl_val (rn_load1 p_5 rfl hB5 rfl) ?_
              refine wl_val (rn_convert ui_5 ui_3 rfl (wrap_id (by omega))) ?_
              refine wl_val (rn_gtr rfl rfl) ?_
              refine wl_nil ?_
              refine W_cond rfl (fun hc4 => ?_) (fun hc4 => ?_)
              · refine W_exit ?_   -- exit 0
                exact ⟨hX, rfl, ⟨hB6, hK6.2⟩, ⟨hB8, hK8.2⟩, ⟨hB9, hK9.2⟩, hXo, hVl, hDk, trivial⟩
              · refine W_skip ?_
                replace hB11 := hB11.cast (show [Value.int .i64 ((pre.length : Int) + 1)] = [.int .i64 ((pre ++ [x]).length : Nat)] by simp)
                exact ⟨hX, ⟨hB5, hK5.2⟩, ⟨hB6, hK6.2⟩, ⟨hB8, hK8.2⟩, ⟨hB9, hK9.2⟩, ⟨hB11, hK11.2⟩, hXo, hVl, hDk, trivial⟩
      · rintro N rk w' ⟨hK5, hK6, hK8, hK9, hK11, hXo, hVl, hDk, hIr⟩ hN hA hr hrd
        have hB5 := hK5.1
        have hB6 := hK6.1
        have hB8 := hK8.1
        have hB9 := hK9.1
        have hB11 := hK11.1
        have hX := hXo; have hD := hDk.add hrd (Nat.le_trans hszr (hN rk hr).1) hr
        refine W_seq ?_
        refine W_region ?_
        refine wl_val (rn_load1 p_22 rfl hB8 rfl) ?_
        refine wl_val (rn_load1 p_23 rfl hB9 rfl) ?_
        refine wl_call e_8 rfl (lof_ok w' ((tsOf (ks.zip ys)).map Prod.fst) ((tsOf (ks.zip ys)).map Prod.snd) ((hSa.ext hVl (fun i h => h)).sub (M' := Non) (fun _ h _ => h.elim)) ((hSb.ext hVl (fun i h => h)).sub (M' := Non) (fun _ h _ => h.elim)) (fun k h => by have := hMi.txts k h; omega) (by rw [List.length_map]; have := hMi.again.len; omega)) ?_; intro v73 w17 hE17 hR17
        replace hX := hX.tr hE17
        replace hB5 := hB5.ext hE17 id; replace hB6 := hB6.ext hE17 id; replace hB8 := hB8.ext hE17 id; replace hB9 := hB9.ext hE17 id; replace hB11 := hB11.ext hE17 id
        replace hVl := hVl.tr hE17
        replace hD := hD.non hE17
        have hT2 := hR17; rw [zip_fst_snd] at hT2; obtain ⟨pt2, rfl⟩ := hT2.ptr
        refine wl_call e_9 rfl (lpairs_ok w17 _ hMi.again.ok (by decide) [] (by decide) (fun q hq => by rw [hMi.again.told] at hq; have := hMi.again.again.txt q hq; omega) false (by rw [hMi.again.told]; have := hMi.again.again.len; have := hMi.again.len; omega) hT2) ?_; intro v74 w18 hE18 hR18
        replace hX := hX.tr hE18
        replace hB5 := hB5.ext hE18 id; replace hB6 := hB6.ext hE18 id; replace hB8 := hB8.ext hE18 id; replace hB9 := hB9.ext hE18 id; replace hB11 := hB11.ext hE18 id
        replace hVl := hVl.tr hE18
        replace hD := hD.non hE18
        replace hT2 := hT2.ext hE18 (fun _ h => h)
        obtain ⟨vc, vd, rfl, hSc, hSd⟩ := hR18
        rw [hMi.again.all] at hSc hSd
        obtain ⟨aC, cC, hvC, _⟩ := id hSc.len; rw [List.length_map, List.length_map] at hvC; subst hvC
        obtain ⟨aD, cD, hvD, _⟩ := id hSd.len; rw [List.length_map, List.length_map] at hvD; subst hvD
        refine wl_val (rn_move (by conv => lhs; whnf)) ?_
        refine wl_val (rn_extract rfl rfl) ?_
        refine wl_val (rn_extract rfl rfl) ?_
        refine wl_val (rn_extract rfl rfl) ?_
        refine wl_val (rn_assign (by conv => lhs; whnf)) ?_
        refine wl_val (rn_assign (by conv => lhs; whnf)) ?_
        refine wl_val (rn_assign (by conv => lhs; whnf)) ?_
        refine wl_nil ?_
        refine W_seq ?_
        refine W_region ?_
        refine wl_call e_11 rfl (wof_nil w18) ?_; intro v79 w19 hE19 hR19
        replace hX := hX.tr hE19
        replace hB5 := hB5.ext hE19 id; replace hB6 := hB6.ext hE19 id; replace hB8 := hB8.ext hE19 id; replace hB9 := hB9.ext hE19 id; replace hB11 := hB11.ext hE19 id
        replace hVl := hVl.tr hE19
        replace hD := hD.non hE19
        replace hSc := hSc.ext hE19 (fun _ h => h)
        replace hSd := hSd.ext hE19 (fun _ h => h)
        subst hR19
        refine wl_call e_9 rfl (lpairs_ok w19 _ hM0.ok (by decide) [] (by decide) (fun q hq => by rw [hM0.told] at hq; have := hM0.again.txt q hq; omega) false (by rw [hM0.told]; have := hM0.again.len; have := hM0.len; omega) (TrM.nil (M := Non))) ?_; intro v80 w20 hE20 hR20
        replace hX := hX.tr hE20
        replace hB5 := hB5.ext hE20 id; replace hB6 := hB6.ext hE20 id; replace hB8 := hB8.ext hE20 id; replace hB9 := hB9.ext hE20 id; replace hB11 := hB11.ext hE20 id
        replace hVl := hVl.tr hE20
        replace hD := hD.non hE20
        replace hSc := hSc.ext hE20 (fun _ h => h)
        replace hSd := hSd.ext hE20 (fun _ h => h)
        obtain ⟨ve, vf, rfl, hSe, hSf⟩ := hR20
        rw [hM0.all] at hSe hSf
        obtain ⟨aE, cE, hvE, _⟩ := id hSe.len; rw [List.length_map, List.length_map] at hvE; subst hvE
        obtain ⟨aF, cF, hvF, _⟩ := id hSf.len; rw [List.length_map, List.length_map] at hvF; subst hvF
        refine wl_val (rn_move (by conv => lhs; whnf)) ?_
        refine wl_val (rn_extract rfl rfl) ?_
        refine wl_val (rn_extract rfl rfl) ?_
        refine wl_val (rn_extract rfl rfl) ?_
        refine wl_val (rn_assign (by conv => lhs; whnf)) ?_
        refine wl_val (rn_assign (by conv => lhs; whnf)) ?_
        refine wl_val (rn_assign (by conv => lhs; whnf)) ?_
        refine wl_nil ?_
        refine W_seq ?_
        refine W_region ?_
        refine wl_val (rn_move (by conv => lhs; whnf)) ?_
        refine wl_val (rn_move (by conv => lhs; whnf)) ?_
        refine wl_yes rfl rfl ?_
        refine wl_val (rn_move (by conv => lhs; whnf)) ?_
        refine wl_val (rn_pickT rfl (by conv => lhs; whnf)) ?_
        refine wl_val (rn_move (by conv => lhs; whnf)) ?_
        refine wl_yes rfl rfl ?_
        refine wl_val (rn_move (by conv => lhs; whnf)) ?_
        refine wl_yes rfl rfl ?_
        refine wl_val (rn_len sl_22 rfl) ?_
        refine wl_yes rfl rfl ?_
        refine wl_val (rn_eql rfl rfl) ?_
        refine wl_val (rn_pickT rfl (by conv => lhs; whnf)) ?_
        refine wl_val (rn_move (by conv => lhs; whnf)) ?_
        refine wl_yes rfl (congrArg Value.bool (by rfl)) ?_
        refine wl_val (rn_load1 p_22 rfl hB8 rfl) ?_
        refine wl_yes rfl (congrArg Value.bool (by rfl)) ?_
        refine wl_val (rn_move (by conv => lhs; whnf)) ?_
        refine wl_yes rfl (congrArg Value.bool (by rfl)) ?_
        refine wl_call e_12 rfl (texts_ok w20 ((tsOf (ks.zip ys)).map Prod.fst) ((tsOf (tsOf (ks.zip ys))).map Prod.fst) ((hSa.ext hVl (fun i h => h)).sub (M' := Non) (fun _ h _ => h.elim)) hSc (by rw [List.length_map]; have := hMi.again.len; omega)) ?_; intro v96 w21 hE21 hR21
        replace hX := hX.tr hE21
        replace hB5 := hB5.ext hE21 id; replace hB6 := hB6.ext hE21 id; replace hB8 := hB8.ext hE21 id; replace hB9 := hB9.ext hE21 id; replace hB11 := hB11.ext hE21 id
        replace hVl := hVl.tr hE21
        replace hD := hD.non hE21
        replace hSc := hSc.ext hE21 (fun _ h => h)
        replace hSd := hSd.ext hE21 (fun _ h => h)
        subst hR21
        refine wl_val (rn_pickT (congrArg Value.bool (by rfl)) (by conv => lhs; whnf)) ?_
        refine wl_val (rn_move (by conv => lhs; whnf)) ?_
        refine wl_yes rfl (congrArg Value.bool (decide_eq_true (by rw [tsOf_again]))) ?_
        refine wl_val (rn_load1 p_23 rfl hB9 rfl) ?_
        refine wl_yes rfl (congrArg Value.bool (decide_eq_true (by rw [tsOf_again]))) ?_
        refine wl_val (rn_move (by conv => lhs; whnf)) ?_
        refine wl_yes rfl (congrArg Value.bool (decide_eq_true (by rw [tsOf_again]))) ?_
        refine wl_call e_13 rfl (ints_ok w21 ((tsOf (ks.zip ys)).map Prod.snd) ((tsOf (tsOf (ks.zip ys))).map Prod.snd) ((hSb.ext hVl (fun i h => h)).sub (M' := Non) (fun _ h _ => h.elim)) hSd (by rw [List.length_map]; have := hMi.again.len; omega)) ?_; intro v101 w22 hE22 hR22
        replace hX := hX.tr hE22
        replace hB5 := hB5.ext hE22 id; replace hB6 := hB6.ext hE22 id; replace hB8 := hB8.ext hE22 id; replace hB9 := hB9.ext hE22 id; replace hB11 := hB11.ext hE22 id
        replace hVl := hVl.tr hE22
        replace hD := hD.non hE22
        replace hSc := hSc.ext hE22 (fun _ h => h)
        replace hSd := hSd.ext hE22 (fun _ h => h)
        subst hR22
        refine wl_val (rn_pickT (congrArg Value.bool (decide_eq_true (by rw [tsOf_again]))) (by conv => lhs; whnf)) ?_
        have hBo := hB6
        refine wl_store1 (b := b6) p_4 rfl (by conv => lhs; whnf) rfl rfl hB6 (Nat.le_of_ble_eq_true rfl) ?_; intro w23 hE23 hB6 hz23
        replace hX := hX.mine hE23 hl6
        replace hB5 := hB5.ext hE23 (fun h => by omega); replace hB8 := hB8.ext hE23 (fun h => by omega); replace hB9 := hB9.ext hE23 (fun h => by omega); replace hB11 := hB11.ext hE23 (fun h => by omega)
        replace hD := hD.box hE23 hBo
        replace hSc := True.intro
        replace hSd := True.intro
        refine wl_nil ?_
        refine W_ret ?_
        refine hD.leave fun B hB => ?_
        have hB5 := hB5.ext hB (hD.ne hB5)
        have hB6 := hB6.ext hB (hD.ne hB6)
        have hB8 := hB8.ext hB (hD.ne hB8)
        have hB9 := hB9.ext hB (hD.ne hB9)
        have hB11 := hB11.ext hB (hD.ne hB11)
        have hX := hD.out hX hB
        exact ⟨_, resR1 (res1_cell p_4 rfl hB6), hX, congrArg Value.bool (decide_eq_true (by rw [tsOf_again]))⟩
      · rintro c N rk w' ⟨rfl, hK6, hK8, hK9, hXo, hVl, hDk, hIr⟩ hN hA hr hrd
        have hB6 := hK6.1
        have hB8 := hK8.1
        have hB9 := hK9.1
        have hX := hXo; have hD := hDk.add hrd (Nat.le_trans hszr (hN rk hr).1) hr
        refine W_exit ?_   -- exit 0
        refine W_seq ?_
        refine W_region ?_
        refine wl_val (rn_load1 p_22 rfl hB8 rfl) ?_
        refine wl_val (rn_load1 p_23 rfl hB9 rfl) ?_
        refine wl_call e_8 rfl (lof_ok w' ((tsOf (ks.zip ys)).map Prod.fst) ((tsOf (ks.zip ys)).map Prod.snd) ((hSa.ext hVl (fun i h => h)).sub (M' := Non) (fun _ h _ => h.elim)) ((hSb.ext hVl (fun i h => h)).sub (M' := Non) (fun _ h _ => h.elim)) (fun k h => by have := hMi.txts k h; omega) (by rw [List.length_map]; have := hMi.again.len; omega)) ?_; intro v73 w24 hE24 hR24
        replace hX := hX.tr hE24
        replace hB6 := hB6.ext hE24 id; replace hB8 := hB8.ext hE24 id; replace hB9 := hB9.ext hE24 id
        replace hVl := hVl.tr hE24
        replace hD := hD.non hE24
        have hT2 := hR24; rw [zip_fst_snd] at hT2; obtain ⟨pt2, rfl⟩ := hT2.ptr
        refine wl_call e_9 rfl (lpairs_ok w24 _ hMi.again.ok (by decide) [] (by decide) (fun q hq => by rw [hMi.again.told] at hq; have := hMi.again.again.txt q hq; omega) false (by rw [hMi.again.told]; have := hMi.again.again.len; have := hMi.again.len; omega) hT2) ?_; intro v74 w25 hE25 hR25
        replace hX := hX.tr hE25
        replace hB6 := hB6.ext hE25 id; replace hB8 := hB8.ext hE25 id; replace hB9 := hB9.ext hE25 id
        replace hVl := hVl.tr hE25
        replace hD := hD.non hE25
        replace hT2 := hT2.ext hE25 (fun _ h => h)
        obtain ⟨vc, vd, rfl, hSc, hSd⟩ := hR25
        rw [hMi.again.all] at hSc hSd
        obtain ⟨aC, cC, hvC, _⟩ := id hSc.len; rw [List.length_map, List.length_map] at hvC; subst hvC
        obtain ⟨aD, cD, hvD, _⟩ := id hSd.len; rw [List.length_map, List.length_map] at hvD; subst hvD
        refine wl_val (rn_move (by conv => lhs; whnf)) ?_
        refine wl_val (rn_extract rfl rfl) ?_
        refine wl_val (rn_extract rfl rfl) ?_
        refine wl_val (rn_extract rfl rfl) ?_
        refine wl_val (rn_assign (by conv => lhs; whnf)) ?_
        refine wl_val (rn_assign (by conv => lhs; whnf)) ?_
        refine wl_val (rn_assign (by conv => lhs; whnf)) ?_
        refine wl_nil ?_
        refine W_seq ?_
        refine W_region ?_
        refine wl_call e_11 rfl (wof_nil w25) ?_; intro v79 w26 hE26 hR26
        replace hX := hX.tr hE26
        replace hB6 := hB6.ext hE26 id; replace hB8 := hB8.ext hE26 id; replace hB9 := hB9.ext hE26 id
        replace hVl := hVl.tr hE26
        replace hD := hD.non hE26
        replace hSc := hSc.ext hE26 (fun _ h => h)
        replace hSd := hSd.ext hE26 (fun _ h => h)
        subst hR26
        refine wl_call e_9 rfl (lpairs_ok w26 _ hM0.ok (by decide) [] (by decide) (fun q hq => by rw [hM0.told] at hq; have := hM0.again.txt q hq; omega) false (by rw [hM0.told]; have := hM0.again.len; have := hM0.len; omega) (TrM.nil (M := Non))) ?_; intro v80 w27 hE27 hR27
        replace hX := hX.tr hE27
        replace hB6 := hB6.ext hE27 id; replace hB8 := hB8.ext hE27 id; replace hB9 := hB9.ext hE27 id
        replace hVl := hVl.tr hE27
        replace hD := hD.non hE27
        replace hSc := hSc.ext hE27 (fun _ h => h)
        replace hSd := hSd.ext hE27 (fun _ h => h)
        obtain ⟨ve, vf, rfl, hSe, hSf⟩ := hR27
        rw [hM0.all] at hSe hSf
        obtain ⟨aE, cE, hvE, _⟩ := id hSe.len; rw [List.length_map, List.length_map] at hvE; subst hvE
        obtain ⟨aF, cF, hvF, _⟩ := id hSf.len; rw [List.length_map, List.length_map] at hvF; subst hvF
        refine wl_val (rn_move (by conv => lhs; whnf)) ?_
        refine wl_val (rn_extract rfl rfl) ?_
        refine wl_val (rn_extract rfl rfl) ?_
        refine wl_val (rn_extract rfl rfl) ?_
        refine wl_val (rn_assign (by conv => lhs; whnf)) ?_
        refine wl_val (rn_assign (by conv => lhs; whnf)) ?_
        refine wl_val (rn_assign (by conv => lhs; whnf)) ?_
        refine wl_nil ?_
        refine W_seq ?_
        refine W_region ?_
        refine wl_val (rn_move (by conv => lhs; whnf)) ?_
        refine wl_val (rn_move (by conv => lhs; whnf)) ?_
        refine wl_yes rfl rfl ?_
        refine wl_val (rn_move (by conv => lhs; whnf)) ?_
        refine wl_val (rn_pickT rfl (by conv => lhs; whnf)) ?_
        refine wl_val (rn_move (by conv => lhs; whnf)) ?_
        refine wl_yes rfl rfl ?_
        refine wl_val (rn_move (by conv => lhs; whnf)) ?_
        refine wl_yes rfl rfl ?_
        refine wl_val (rn_len sl_22 rfl) ?_
        refine wl_yes rfl rfl ?_
        refine wl_val (rn_eql rfl rfl) ?_
        refine wl_val (rn_pickT rfl (by conv => lhs; whnf)) ?_
        refine wl_val (rn_move (by conv => lhs; whnf)) ?_
        refine wl_yes rfl (congrArg Value.bool (by rfl)) ?_
        refine wl_val (rn_load1 p_22 rfl hB8 rfl) ?_
        refine wl_yes rfl (congrArg Value.bool (by rfl)) ?_
        refine wl_val (rn_move (by conv => lhs; whnf)) ?_
        refine wl_yes rfl (congrArg Value.bool (by rfl)) ?_
        refine wl_call e_12 rfl (texts_ok w27 ((tsOf (ks.zip ys)).map Prod.fst) ((tsOf (tsOf (ks.zip ys))).map Prod.fst) ((hSa.ext hVl (fun i h => h)).sub (M' := Non) (fun _ h _ => h.elim)) hSc (by rw [List.length_map]; have := hMi.again.len; omega)) ?_; intro v96 w28 hE28 hR28
        replace hX := hX.tr hE28
        replace hB6 := hB6.ext hE28 id; replace hB8 := hB8.ext hE28 id; replace hB9 := hB9.ext hE28 id
        replace hVl := hVl.tr hE28
        replace hD := hD.non hE28
        replace hSc := hSc.ext hE28 (fun _ h => h)
        replace hSd := hSd.ext hE28 (fun _ h => h)
        subst hR28
        refine wl_val (rn_pickT (congrArg Value.bool (by rfl)) (by conv => lhs; whnf)) ?_
        refine wl_val (rn_move (by conv => lhs; whnf)) ?_
        refine wl_yes rfl (congrArg Value.bool (decide_eq_true (by rw [tsOf_again]))) ?_
        refine wl_val (rn_load1 p_23 rfl hB9 rfl) ?_
        refine wl_yes rfl (congrArg Value.bool (decide_eq_true (by rw [tsOf_again]))) ?_
        refine wl_val (rn_move (by conv => lhs; whnf)) ?_
        refine wl_yes rfl (congrArg Value.bool (decide_eq_true (by rw [tsOf_again]))) ?_
        refine wl_call e_13 rfl (ints_ok w28 ((tsOf (ks.zip ys)).map Prod.snd) ((tsOf (tsOf (ks.zip ys))).map Prod.snd) ((hSb.ext hVl (fun i h => h)).sub (M' := Non) (fun _ h _ => h.elim)) hSd (by rw [List.length_map]; have := hMi.again.len; omega)) ?_; intro v101 w29 hE29 hR29
        replace hX := hX.tr hE29
        replace hB6 := hB6.ext hE29 id; replace hB8 := hB8.ext hE29 id; replace hB9 := hB9.ext hE29 id
        replace hVl := hVl.tr hE29
        replace hD := hD.non hE29
        replace hSc := hSc.ext hE29 (fun _ h => h)
        replace hSd := hSd.ext hE29 (fun _ h => h)
        subst hR29
        refine wl_val (rn_pickT (congrArg Value.bool (decide_eq_true (by rw [tsOf_again]))) (by conv => lhs; whnf)) ?_
        have hBo := hB6
        refine wl_store1 (b := b6) p_4 rfl (by conv => lhs; whnf) rfl rfl hB6 (Nat.le_of_ble_eq_true rfl) ?_; intro w30 hE30 hB6 hz30
        replace hX := hX.mine hE30 hl6
        replace hB8 := hB8.ext hE30 (fun h => by omega); replace hB9 := hB9.ext hE30 (fun h => by omega)
        replace hD := hD.box hE30 hBo
        replace hSc := True.intro
        replace hSd := True.intro
        refine wl_nil ?_
        refine W_ret ?_
        refine hD.leave fun B hB => ?_
        have hB6 := hB6.ext hB (hD.ne hB6)
        have hB8 := hB8.ext hB (hD.ne hB8)
        have hB9 := hB9.ext hB (hD.ne hB9)
        have hX := hD.out hX hB
        exact ⟨_, resR1 (res1_cell p_4 rfl hB6), hX, congrArg Value.bool (decide_eq_true (by rw [tsOf_again]))⟩
end Go.Proofs.YtaddeakfojpdoaaGreatDoorC

/- The row of a law that lists variables; each rule holds of whatever program. -/
set_option linter.unusedVariables false
set_option linter.unusedSimpArgs false
namespace Go.Proofs.YtaddeakfojpdoaaGreatDoorC
open Go.ChangeShapes Go.WideShapes Go.ChangeAt Go.RowKit
/-- A law that returns true, and leaves what was as it was: its row, where variables are laid. -/
theorem law_liftedL {laidL : List (String × DataW Unit)} {a : Assume} {C : Checked} {os : Os} {f : FuncId} {fn : Func} {s : ChangeSpec} {conds : List PathCond} {apart fresh handsOn : Bool} {H : Type} {enc : TypeId × Value → H} {tb : TypeId}
    (own : ownKnob C.prog.godebug = none) (started : os.Started) (noInit : C.prog.inits.idxOf? f = none) (hfn : C.prog.funcs[f]? = some fn)
    (witness : ∃ (w : World) (tape : Tape) (i : Input), w.os = os ∧ (w.forCall tape i).Shaped C.prog ∧ i.vars = [] ∧ Input.okWide C.prog (w.forCall tape i) .any w.heap.size f i ∧
      ((s.pre enc C.prog fn conds apart (w.forCall tape i).memory i.args ∧ laidMetH C.prog laidL (w.forCall tape i).memory) ∧ sizedMet enc C.prog fn (OpenSpec.ofChange s) apart (w.forCall tape i).memory i.args) ∧ a.holds C.prog (lone (Frame.enter C.prog f i.args .normal) [] (w.forCall tape i)))
    (laid : laidOutB C.prog = true) (hts : (fn.params.toList.all fun t => C.prog.readableRec t && decide (t < C.prog.types.size)) = true) (hres : fn.resultTypes.toList = [tb]) (htb : C.prog.underlying tb = some .bool) (hvars : s.vars = [])
    (hs : ∀ ds : List (DataW H), ds.length = fn.params.toList.length → s.fn H ds = { results := [.lit (.bool true)], args := ds })
    (contract : ∀ (W : World) (base : Nat) (args : Array Value) (ds : List (DataW H)) (ps : List MemPlace), (∀ (j : Nat) t v, fn.params[j]? = some t → args[j]? = some v → Value.okWide C.prog W .any base t v) →
      DataW.TrodAll enc C.prog W 0 (fun _ => true) true fn.params.toList args.toList ds ps → laidMetH C.prog laidL W → Fn C.prog f args W fun v _ => v = .bool true) :
    ReturnsInHanded a C os f .any (fun w args => (s.pre enc C.prog fn conds apart w args ∧ laidMetH C.prog laidL w) ∧ sizedMet enc C.prog fn (OpenSpec.ofChange s) apart w args) (s.post enc C.prog fn apart fresh handsOn false) := by
  refine returnsInHanded_of_change_and (X := fun w _ => laidMetH C.prog laidL w) (fun _ _ _ hh h => h.of_heap hh) own started noInit hfn witness ?_
  intro W base args ds gs before hval hW _ _ hL _
  have hW' := hW
  obtain ⟨p, q, hA, hV, rfl, _, _⟩ := hW
  rw [hvars] at hV
  obtain ⟨rfl, rfl⟩ := trodVars_none hV
  refine Calls.mono (contract W base args ds p hval hA hL) fun e W' ⟨v, he, hE, hv⟩ => ?_
  subst hv
  refine ⟨_, he, ?_⟩
  have hlen : ∀ (ts : List TypeId) (vs : List Value) (ds : List (DataW H)) (ps : List MemPlace), DataW.TrodAll enc C.prog W 0 (fun _ => true) true ts vs ds ps → ds.length = ts.length := by
    intro ts
    induction ts with
    | nil => intro vs ds ps h; cases vs <;> cases ds <;> first | rfl | exact h.elim
    | cons t ts ih =>
      intro vs ds ps h
      cases vs with
      | nil => exact h.elim
      | cons v vs =>
        cases ds with
        | nil => exact h.elim
        | cons d ds => obtain ⟨p, q, _, h2, _⟩ := h; simp [ih _ _ _ h2]
  have hfn' : s.fn H (ds ++ []) = { results := [.lit (.bool true)], args := ds } := by rw [List.append_nil]; exact hs ds (hlen _ _ _ _ hA)
  refine ⟨ds, [], p ++ [], [], p, [], hW', ?_, ?_, ?_, hE.below.frame _, fun h => by cases h⟩
  · rw [hfn', hres]
    have : fn.resultTypes.size = 1 := by rw [← Array.length_toList, hres]; rfl
    rw [this]
    exact trodAll_mk1 (shut_bool htb true)
  · rw [hfn']
    exact trodAll_stays laid hE.below _ _ _ _ hts hA (fun x hx => by simpa using hW'.lt x (by simp [hx]))
  · rw [hfn', hvars]; rfl
end Go.Proofs.YtaddeakfojpdoaaGreatDoorC

/- What the rows of the laws on texts share: how their arguments read. -/
set_option linter.unusedVariables false
set_option linter.unusedSimpArgs false
namespace Go.Proofs.YtaddeakfojpdoaaGreatDoor
open Go.RowKit Go.Proofs.YtaddeakfojpdoaaGreatDoorC Go.ChangeShapes
theorem own3 : ownKnob Tryz.prog.godebug = none := by kernel_rfl
theorem laidOut3 : laidOutB Tryz.prog = true := by kernel_rfl
theorem u8_rng {n : Int} (h : (Lit.int .u8 n).wf = true) : 0 ≤ n ∧ n ≤ 255 := by
  have h1 : IntKind.u8.min = 0 := rfl
  have h2 : IntKind.u8.max = 255 := rfl
  have h : (decide (IntKind.u8.min ≤ n) && decide (n ≤ IntKind.u8.max)) = true := h
  rw [h1, h2, Bool.and_eq_true] at h
  exact ⟨of_decide_eq_true h.1, of_decide_eq_true h.2⟩
end Go.Proofs.YtaddeakfojpdoaaGreatDoor

/- How arguments of many texts, numbers, signs read. -/
set_option linter.unusedVariables false
set_option linter.unusedSimpArgs false
namespace Go.Proofs.YtaddeakfojpdoaaGreatDoor
open Go.RowKit Go.Proofs.YtaddeakfojpdoaaGreatDoorC Go.ChangeShapes
theorem str_flat : flatT Tryz.prog 1 9 = some [.str] := by kernel_rfl
theorem strs_of : ∀ (rows : List (List Value)), (∀ r ∈ rows, flatOk [.str] r) → ∃ l : List Str, rows = l.map eS1 ∧ ∀ x ∈ l, x.length ≤ maxLen
  | [], _ => ⟨[], rfl, by simp⟩
  | r :: rows, h => by
    obtain ⟨l, hl, hm⟩ := strs_of rows (fun x hx => h x (by simp [hx]))
    obtain ⟨_, r1, e1, ⟨a1, rfl, ha⟩, h1⟩ := (h r (by simp)).cons
    have e2 := h1.nil
    exact ⟨a1 :: l, by rw [hl, e1, e2]; rfl, fun x hx => by rcases List.mem_cons.1 hx with rfl | hx; exact ha; exact hm x hx⟩
end Go.Proofs.YtaddeakfojpdoaaGreatDoor

/- How arguments of many numbers read. -/
set_option linter.unusedVariables false
set_option linter.unusedSimpArgs false
namespace Go.Proofs.YtaddeakfojpdoaaGreatDoor
open Go.RowKit Go.Proofs.YtaddeakfojpdoaaGreatDoorC Go.ChangeShapes
theorem int_flat : flatT Tryz.prog 1 3 = some [.int .i64] := by kernel_rfl
theorem ints_of : ∀ (rows : List (List Value)), (∀ r ∈ rows, flatOk [.int .i64] r) → ∃ l : List Int, rows = l.map eI1
  | [], _ => ⟨[], rfl⟩
  | r :: rows, h => by
    obtain ⟨l, hl⟩ := ints_of rows (fun x hx => h x (by simp [hx]))
    obtain ⟨_, r1, e1, ⟨a1, rfl, _⟩, h1⟩ := (h r (by simp)).cons
    have e2 := h1.nil
    exact ⟨a1 :: l, by rw [hl, e1, e2]; rfl⟩
end Go.Proofs.YtaddeakfojpdoaaGreatDoor
