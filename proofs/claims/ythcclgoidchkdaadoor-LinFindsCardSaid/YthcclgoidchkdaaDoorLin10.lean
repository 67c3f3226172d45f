/- Layer 8: the law LinFinds. -/
import Derived.Test.YthcclgoidchkdaaDoorLin9
set_option linter.unusedVariables false
set_option linter.unusedSimpArgs false
set_option maxRecDepth 100000
namespace Go.Proofs.YthcclgoidchkdaaDoorC
open Go.RowKit
section
variable {P : Program} {σ : Env} {w : World} {dst : Option Nat} {ty : TypeId} {pos : String} {af : Array Edge} {g : Option (Nat × Bool)}
theorem rn_remK {k : IntKind} {t u : TypeId} {x y : Operand} {a b : Nat} (hx : ev σ x = .int k (a : Int)) (hy : ev σ y = .int k (b : Int)) (hb : 0 < b) : Rn P σ w ⟨dst, .binOp .rem t x y u, ty, pos, af, g⟩ (.int k ((a % b : Nat) : Int)) := by
  show (execOp (ev σ) _).run P w = _
  have h1 : ¬ ((b : Int) = 0) := by omega
  have h5 : Op.intDiv .rem k (a : Int) (b : Int) = pure (.int k ((a % b : Nat) : Int)) := by unfold Op.intDiv; rw [if_neg h1]; simp only [Int.ofNat_tmod]
  simp [execOp, hx, hy, eqGuard, binOp, h5, Sem.run_bind, Result.andThen, Sem.run]
theorem rn_quoK {k : IntKind} {t u : TypeId} {x y : Operand} {a b : Nat} (hx : ev σ x = .int k (a : Int)) (hy : ev σ y = .int k (b : Int)) (hb : 0 < b) (hw : k.wrap ((a / b : Nat) : Int) = ((a / b : Nat) : Int)) : Rn P σ w ⟨dst, .binOp .quo t x y u, ty, pos, af, g⟩ (.int k ((a / b : Nat) : Int)) := by
  show (execOp (ev σ) _).run P w = _
  have h1 : ¬ ((b : Int) = 0) := by omega
  have h5 : Op.intDiv .quo k (a : Int) (b : Int) = pure (.int k ((a / b : Nat) : Int)) := by unfold Op.intDiv; rw [if_neg h1]; simp only [← Int.ofNat_tdiv, hw]
  simp [execOp, hx, hy, eqGuard, binOp, h5, Sem.run_bind, Result.andThen, Sem.run]
end
theorem wrap_u8' {a : Int} (h : 0 ≤ a ∧ a ≤ 255) : IntKind.u8.wrap a = a := by
  have hm : a % 256 = a := by omega
  unfold IntKind.wrap; simp [IntKind.bits, IntKind.signed, hm]
def eU (n : Nat) : List Value := [.int .u8 (n : Nat)]
theorem eU_at {l : List Nat} {i x : Nat} (h : l[i]? = some x) : (l.map eU)[i]? = some (eU x) := by simp [h]
def fromF (i sp : Nat) : Int := ((100 * ((i : Int) + 1) - 10 * ((sp % 20 : Nat) : Int)) + 2000) - (i : Int)
def toF (i sp : Nat) : Int := ((100 * ((i : Int) + 1) + 10 * ((sp / 20 : Nat) : Int)) + 2050) + (i : Int)
def op0 : OpD := ⟨0, 0, [], [], false⟩
def stF (ops : List OpD) : Nat → StD
  | 0 => st0
  | i + 1 => (doS (stF ops i) (ops.getD i op0)).1
def callF (ops : List OpD) (spans : List Nat) (i : Nat) : CallD := ⟨i, 0, ops.getD i op0, (doS (stF ops i) (ops.getD i op0)).2, fromF i (spans.getD i 0), toF i (spans.getD i 0)⟩
def lF (ops : List OpD) (spans : List Nat) (n : Nat) : List CallD := (List.range n).map (callF ops spans)
theorem lF_len (ops : List OpD) (spans : List Nat) (n : Nat) : (lF ops spans n).length = n := by simp [lF]
theorem lF_succ (ops : List OpD) (spans : List Nat) (n : Nat) : (lF ops spans n).map CallD.enc ++ [(callF ops spans n).enc] = (lF ops spans (n + 1)).map CallD.enc := by simp [lF, List.range_succ]
theorem callF_at {ops : List OpD} {spans : List Nat} {i sp : Nat} {x : OpD} (hx : ops[i]? = some x) (hp : spans[i]? = some sp) : callF ops spans i = ⟨i, 0, x, (doS (stF ops i) x).2, fromF i sp, toF i sp⟩ := by
  unfold callF; simp [List.getD_eq_getElem?_getD, hx, hp]
theorem stF_succ {ops : List OpD} {i : Nat} {x : OpD} (hx : ops[i]? = some x) : stF ops (i + 1) = (doS (stF ops i) x).1 := by simp [stF, List.getD_eq_getElem?_getD, hx]
theorem stF_bound (ops : List OpD) : ∀ i : Nat, -(99 * i : Int) ≤ (stF ops i).n ∧ (stF ops i).n ≤ 99 * i
  | 0 => by simp [stF, st0]
  | i + 1 => by
    have h := doS_bound (stF ops i) (ops.getD i op0) (k := 99 * i) (stF_bound ops i)
    simp only [stF]; push_cast; omega
theorem lF_orders {ops : List OpD} {spans : List Nat} {n : Nat} {L : List CallD} (hp : L.Perm (lF ops spans n)) : orders L ≠ [] := by
  refine perm_order (callF ops spans) (stF ops) hp (fun i j _ _ h => ?_) rfl (fun i j h1 h2 => ?_) (fun i hi => ?_)
  · have := congrArg CallD.thread h; simp only [callF] at this; omega
  · simp only [callF, fromF, toF]; omega
  · simp only [callF, stF]
theorem lF_ordB {L : List CallD} (hn : L.length ≤ 24) (ho : orders L ≠ []) : ordB L = true := by
  unfold ordB; rw [decide_eq_true hn]; cases h : orders L with
  | nil => exact absurd h ho
  | cons x t => rfl
theorem lF_chk {L : List CallD} (hn : L.length ≤ 24) (ho : orders L ≠ []) : chkR L ((ordR L).map fun i : Nat => (i : Int)) = true := by
  unfold ordR; rw [if_pos hn]
  cases h : orders L with
  | nil => exact absurd h ho
  | cons x t =>
    have hx := (mem_alls L L.length (none0 L) st0 x).1 (by unfold orders at h; rw [h]; simp)
    show chkR L (x.map fun i : Nat => (i : Int)) = true
    rw [chk_one hx.1]; exact hx.2
theorem swap_perm {L : List CallD} {k : Nat} {y z : CallD} (hy : L[k]? = some y) (hz : L[k + 1]? = some z) : ((L.set k z).set (k + 1) y).Perm L := by
  have e : L = L.take k ++ y :: z :: L.drop (k + 2) := by
    obtain ⟨h1, h2⟩ := List.getElem?_eq_some_iff.1 hy
    obtain ⟨h3, h4⟩ := List.getElem?_eq_some_iff.1 hz
    rw [← h4, List.getElem_cons_drop, ← h2, List.getElem_cons_drop, List.take_append_drop]
  have hk : (L.take k).length = k := by rw [List.length_take]; have := (List.getElem?_eq_some_iff.1 hy).1; omega
  have e2 : (L.set k z).set (k + 1) y = L.take k ++ z :: y :: L.drop (k + 2) := by
    conv => lhs; rw [e]
    rw [List.set_append_right _ _ (by omega), hk, Nat.sub_self, List.set_append_right _ _ (by omega), hk]
    simp
  rw [e2]; conv => rhs; rw [e]
  exact List.Perm.append_left _ (List.Perm.swap _ _ _)
theorem set_enc (L : List CallD) (i : Nat) (c : CallD) : (L.map CallD.enc).set i c.enc = (L.set i c).map CallD.enc := by rw [List.map_set]
theorem ordR_len24 {L : List CallD} (hn : L.length ≤ 24) : (ordR L).length ≤ 1000000 := by
  unfold ordR; rw [if_pos hn]
  cases h : orders L with
  | nil => simp
  | cons x t =>
    have hx := (mem_alls L L.length (none0 L) st0 x).1 (by unfold orders at h; rw [h]; simp)
    show x.length ≤ 1000000
    omega
-- bellman/bellmanlaw08.LinFinds
set_option maxHeartbeats 16000000 in
theorem linFinds_ok (w : World) (ops : List OpD) (spans : List Nat) (hsp : ∀ s ∈ spans, s < 256) {v0 v1 : Value} (h0 : Sl Non w v0 5 (ops.map OpD.enc)) (h1 : Sl Non w v1 1 (spans.map eU)) (hT : Tab w) : Fn Tryd.prog 3 #[v0, v1] w fun u w' => u = .bool true := by
  obtain ⟨a0, c0, rfl, hbl⟩ := h0.len; obtain ⟨a1, c1, rfl, hbo⟩ := h1.len
  simp only [List.length_map] at h0 h1 hbl hbo ⊢
  have hbig2 : big = 9223372036854775807 := rfl
  have hT0 := hT
  have hG := hT0.lt (Nat.le_refl w.heap.size)
  have hX := Ext.refl Non w
  refine fn_of_W (args := [_, _]) Tryd.func3 rfl (by kernel_rfl) rfl ?_
  refine W_seq ?_
  refine W_region ?_
  refine wl_val (rn_assign (by conv => lhs; whnf)) ?_
  refine wl_nil ?_
  refine W_seq ?_
  refine W_seq ?_
  refine W_region ?_
  refine wl_call e_14 rfl (awake08_ok w hT) ?_; intro v15 w1 hE1 hR1
  replace hX := hX.tr hE1
  replace hT := hT.non hE1
  subst hR1
  refine wl_val (rn_not rfl) ?_
  refine wl_nil ?_
  refine W_cond rfl (fun hc0 => ?_) (fun hc0 => ?_)
  · exact absurd hc0 (by decide)
  · refine W_skip ?_
    refine W_seq ?_
    refine W_seq ?_
    refine W_region ?_
    refine wl_val (rn_move (by conv => lhs; whnf)) ?_
    refine wl_val (rn_len sl_22 rfl) ?_
    refine wl_val (rn_gtr rfl rfl) ?_
    refine wl_val (rn_move (by conv => lhs; whnf)) ?_
    refine wl_split (d := 20) rfl (fun hg20 => ?_) (fun hg20 => ?_)
    · refine wl_no rfl (congrArg Value.bool hg20) ?_
      refine wl_no rfl (congrArg Value.bool hg20) ?_
      refine wl_no rfl (congrArg Value.bool hg20) ?_
      refine wl_no rfl (congrArg Value.bool hg20) ?_
      refine wl_no rfl (congrArg Value.bool hg20) ?_
      refine wl_val (rn_pickT (congrArg Value.bool hg20) (by conv => lhs; whnf)) ?_
      refine wl_nil ?_
      refine W_condT rfl ?_
      refine W_seq ?_
      refine W_region ?_
      refine wl_val (rn_assign (by conv => lhs; whnf)) ?_
      refine wl_nil ?_
      refine W_ret ?_
      exact ⟨_, resR1 (res1_tmp rfl), hX, rfl⟩
    · have hn14 : ops.length ≤ 14 := by have := of_decide_eq_false hg20; omega
      refine wl_yes rfl (congrArg Value.bool hg20) ?_
      refine wl_val (rn_move (by conv => lhs; whnf)) ?_
      refine wl_yes rfl (congrArg Value.bool hg20) ?_
      refine wl_val (rn_len sl_23 rfl) ?_
      refine wl_yes rfl (congrArg Value.bool hg20) ?_
      refine wl_val (rn_move (by conv => lhs; whnf)) ?_
      refine wl_yes rfl (congrArg Value.bool hg20) ?_
      refine wl_val (rn_len sl_22 rfl) ?_
      refine wl_yes rfl (congrArg Value.bool hg20) ?_
      refine wl_val (rn_lss rfl rfl) ?_
      refine wl_val (rn_pickF (congrArg Value.bool hg20) (by conv => lhs; whnf)) ?_
      refine wl_nil ?_
      refine W_cond rfl (fun hc1 => ?_) (fun hc1 => ?_)
      · refine W_seq ?_
        refine W_region ?_
        refine wl_val (rn_assign (by conv => lhs; whnf)) ?_
        refine wl_nil ?_
        refine W_ret ?_
        exact ⟨_, resR1 (res1_tmp rfl), hX, rfl⟩
      · have hle : ops.length ≤ spans.length := by have := of_decide_eq_false hc1; omega
        refine W_skip ?_
        refine W_seq ?_
        refine W_region ?_
        refine wl_val (rn_assign (by conv => lhs; whnf)) ?_
        refine wl_nil ?_
        refine W_seq ?_
        refine W_region ?_
        refine wl_val (rn_build' b_27 rfl rfl (cs := st0.enc) rfl) ?_
        refine wl_alloc z_27 ?_; intro b6 w2 hb6 hE2 hB6
        have hq6 : w.heap.size ≤ b6 := Nat.le_trans hX.size hb6
        have hl6 : Mine Non w b6 := .inr hq6
        replace hX := hX.tr hE2
        replace hT := hT.non hE2
        have hBo := hB6
        refine wl_storeB s_27 rfl rfl rfl (StD.one _) hB6 rfl ?_; intro w3 hE3 hB6 hz3
        replace hX := hX.mine hE3 hl6
        replace hT := hT.ext hE3 (B := w.heap.size) (fun j hj => by subst hj; exact hq6) hG
        refine wl_nil ?_
        refine W_seq ?_
        refine W_seq ?_
        refine W_region ?_
        refine wl_val (rn_assign (by conv => lhs; whnf)) ?_
        refine wl_nil ?_
        refine W_block ?_   -- block 0
        refine W_loopS (S := Nat × Value × Option Nat) [0, 1, 5, 6, 7] (fun ⟨i, v5, o5⟩ => [.slice a0 ops.length c0, .slice a1 spans.length c1, v5, .pointer (some ⟨b6, 0, none⟩), .int .i64 (i : Nat)]) (fun ⟨i, v5, o5⟩ A => (Ext Non w A) ∧ (IsBox A b6 (stF ops i).enc) ∧ (Mine Non w b6) ∧ (i ≤ ops.length ∧ OwO A v5 o5 15 ((lF ops spans i).map CallD.enc) ∧ (∀ j, o5 = some j → w.heap.size ≤ j ∧ j ≠ b6) ∧ Tab A ∧ ∀ c ∈ lF ops spans i, c.op.payload.length ≤ 100)) (fun ⟨i, v5, o5⟩ => ops.length - i) (0, .slice none 0 0, none) ⟨rfl, rfl, rfl, rfl, rfl, trivial⟩ ⟨hX, hB6, hl6, ⟨Nat.zero_le _, OwO.nil, (fun j h => by cases h), hT, by simp [lF]⟩⟩ ?_
        rintro τ0 ⟨i, v5, o5⟩ A0 ⟨hX, hB6, hl6, hI0⟩
        obtain ⟨hI, hO, ho, hT, hp⟩ := hI0
        have hOA : ∀ j, o5 = some j → j < A0.heap.size := fun j hj => hO.lt hj
        refine W_seq ?_
        refine W_seq ?_
        refine W_region ?_
        refine wl_val (rn_move (by conv => lhs; whnf)) ?_
        refine wl_val (rn_move (by conv => lhs; whnf)) ?_
        refine wl_val (rn_len sl_22 rfl) ?_
        refine wl_val (rn_lss rfl rfl) ?_
        refine wl_nil ?_
        refine W_cond rfl (fun hc2 => ?_) (fun hc2 => ?_)
        · have hlt := of_decide_eq_true hc2; simp only [Int.ofNat_lt] at hlt
          obtain ⟨x, hx⟩ : ∃ x, (ops)[i]? = some x := ⟨_, List.getElem?_eq_getElem hlt⟩
          obtain ⟨sp, hs⟩ : ∃ sp, spans[i]? = some sp := ⟨_, List.getElem?_eq_getElem (by omega)⟩
          have hsp2 := hsp sp (List.mem_of_getElem? hs)
          obtain ⟨bb0, oo0, ea0⟩ := h0.base (by intro e; have := congrArg List.length e; simp only [List.length_map, List.length_nil] at this; omega); subst ea0
          obtain ⟨bb1, oo1, ea1⟩ := h1.base (by intro e; have := congrArg List.length e; simp only [List.length_map, List.length_nil] at this; omega); subst ea1
          have hsb := stF_bound ops i
          refine W_skip ?_
          refine W_seq ?_
          refine W_block ?_   -- block 1
          refine W_seq ?_
          refine W_seq ?_
          refine W_region ?_
          refine wl_val (rn_move (by conv => lhs; whnf)) ?_
          refine wl_val (rn_move (by conv => lhs; whnf)) ?_
          refine wl_val (rn_indexAddr sl_22 rfl rfl (by omega)) ?_
          refine wl_val (rn_fieldAddr f_29_3 (by decide) rfl) ?_
          refine wl_val (rn_load p_9 rfl ((h0.ext hX (fun _ h => h)).at1 (map_at hx) rfl)) ?_
          refine wl_val (rn_slen us_9 rfl) ?_
          refine wl_val (rn_gtr rfl rfl) ?_
          refine wl_nil ?_
          refine W_cond rfl (fun hc3 => ?_) (fun hc3 => ?_)
          · refine W_seq ?_
            refine W_region ?_
            refine wl_val (rn_assign (by conv => lhs; whnf)) ?_
            refine wl_nil ?_
            refine W_ret ?_
            exact ⟨_, resR1 (res1_tmp rfl), hX, rfl⟩
          · have hpx : x.payload.length ≤ 100 := by have := of_decide_eq_false hc3; omega
            refine W_skip ?_
            refine W_seq ?_
            refine W_region ?_
            refine wl_alloc z_34 ?_; intro b8 w4 hb8 hE4 hB8
            have hn6_8 : b6 < b8 := Nat.lt_of_lt_of_le hB6.lt hb8
            have hq8 : w.heap.size ≤ b8 := Nat.le_trans hX.size hb8
            have hl8 : Mine Non w b8 := .inr hq8
            replace hX := hX.tr hE4
            replace hB6 := hB6.ext hE4 id
            replace hT := hT.non hE4
            replace hO := hO.ext hE4 (fun _ _ h => h)
            refine wl_nil ?_
            refine W_seq ?_
            refine W_drawX (fun j => j == 7 || j == 8 || j == 9 || j == 10) mixed ?_; intro w5 hE5
            replace hX := hX.tr hE5
            replace hB6 := hB6.ext hE5 id; replace hB8 := hB8.ext hE5 id
            replace hT := hT.non hE5
            replace hO := hO.ext hE5 (fun _ _ h => h)
            have hS := Ext.refl Non w5
            refine wx_take 0 [5, 6, 7, 8, 9, 10] _ _ rfl (by kernel_rfl) hS (yd_do fun A hA => rn_loadB s_27 rfl rfl (hB6.ext hA id)) ?_
            refine wx_take 1 [3, 4, 5, 6, 7, 8, 9, 10] _ _ rfl (by kernel_rfl) hS (yd_do fun A hA => rn_move (by conv => lhs; whnf)) ?_
            refine wx_take 2 [3, 4, 5, 6, 7, 8, 9, 10] _ _ rfl (by kernel_rfl) hS (yd_do fun A hA => rn_move (by conv => lhs; whnf)) ?_
            refine wx_take 3 [4, 5, 6, 7, 8, 9, 10] _ _ rfl (by kernel_rfl) hS (yd_do fun A hA => rn_indexAddr sl_22 rfl rfl (by omega)) ?_
            refine wx_take 4 [5, 6, 7, 8, 9, 10] _ _ rfl (by kernel_rfl) hS (yd_do fun A hA => rn_loadS s_29 rfl rfl (((h0.ext hX (fun _ h => h)).ext hA (fun _ h => h.elim)).all0 (map_at hx))) ?_
            refine wx_only 5 _ rfl (by kernel_rfl) ?_
            refine s1_do ?_
            refine wl_call e_15 rfl (do8_ok w5 (stF ops i) x (by have := stF_bound ops i; omega)) ?_; intro v47 w6 hE6 hR6
            replace hS := hS.tr hE6
            subst hR6
            refine wl_nil ⟨fun _ => hS, ?_⟩
            refine wx_take 6 [7, 8, 9, 10] _ _ rfl (by kernel_rfl) hS (yd_do fun A hA => rn_move (by conv => lhs; whnf)) ?_
            refine wx_takeP 7 _ _ rfl rfl (by kernel_rfl) (yd_do fun A _ => rn_extract rfl rfl) ?_
            refine wx_takeP 8 _ _ rfl rfl (by kernel_rfl) (yd_do fun A _ => rn_extract rfl rfl) ?_
            replace hX := hX.tr hS
            replace hB6 := hB6.ext hS id; replace hB8 := hB8.ext hS id
            replace hT := hT.non hS
            replace hO := hO.ext hS (fun _ _ h => h)
            refine wx_only 9 _ rfl (by kernel_rfl) ?_
            refine s1_do ?_
            have hBo := hB6
            refine wl_storeB s_27 rfl rfl rfl (StD.one _) hB6 rfl ?_; intro w7 hE7 hB6 hz7
            replace hX := hX.mine hE7 hl6
            replace hB8 := hB8.ext hE7 (fun h => by omega)
            replace hT := hT.ext hE7 (B := w.heap.size) (fun j hj => by subst hj; exact hq6) hG
            replace hO := hO.ext hE7 (fun j hj e => by have := ho j hj; have := hOA j hj; omega)
            refine wl_nil ⟨fun h => absurd h (by decide), ?_⟩
            refine wx_only 10 _ rfl (by kernel_rfl) ?_
            refine s1_do ?_
            have hBo := hB8
            refine wl_storeB s_34 rfl rfl rfl (AnsD.one _) hB8 rfl ?_; intro w8 hE8 hB8 hz8
            replace hX := hX.mine hE8 hl8
            replace hB6 := hB6.ext hE8 (fun h => by omega)
            replace hT := hT.ext hE8 (B := w.heap.size) (fun j hj => by subst hj; exact hq8) hG
            replace hO := hO.ext hE8 (fun j hj e => by have := ho j hj; have := hOA j hj; omega)
            refine wl_nil ⟨fun h => absurd h (by decide), ?_⟩
            refine wx_done (by kernel_rfl) ?_ _
            refine W_drawX (fun j => j == 37 || j == 38) mixed ?_; intro w9 hE9
            replace hX := hX.tr hE9
            replace hB6 := hB6.ext hE9 id; replace hB8 := hB8.ext hE9 id
            replace hT := hT.non hE9
            replace hO := hO.ext hE9 (fun _ _ h => h)
            have hS := Ext.refl Non w9
            refine wx_take 0 [37, 38] _ _ rfl (by kernel_rfl) hS (yd_do fun A hA => rn_move (by conv => lhs; whnf)) ?_
            refine wx_take 1 [35, 36, 37, 38] _ _ rfl (by kernel_rfl) hS (yd_do fun A hA => rn_move (by conv => lhs; whnf)) ?_
            refine wx_take 2 [4, 5, 35, 36, 37, 38] _ _ rfl (by kernel_rfl) hS (yd_do fun A hA => rn_move (by conv => lhs; whnf)) ?_
            refine wx_take 3 [4, 5, 35, 36, 37, 38] _ _ rfl (by kernel_rfl) hS (yd_do fun A hA => rn_move (by conv => lhs; whnf)) ?_
            refine wx_take 4 [5, 35, 36, 37, 38] _ _ rfl (by kernel_rfl) hS (yd_do fun A hA => rn_indexAddr sl_22 rfl rfl (by omega)) ?_
            refine wx_take 5 [35, 36, 37, 38] _ _ rfl (by kernel_rfl) hS (yd_do fun A hA => rn_loadS s_29 rfl rfl (((h0.ext hX (fun _ h => h)).ext hA (fun _ h => h.elim)).all0 (map_at hx))) ?_
            refine wx_take 6 [35, 36, 37, 38] _ _ rfl (by kernel_rfl) hS (yd_do fun A hA => rn_loadB s_34 rfl rfl (hB8.ext hA id)) ?_
            refine wx_take 7 [8, 9, 17, 18, 20, 35, 36, 37, 38] _ _ rfl (by kernel_rfl) hS (yd_do fun A hA => rn_move (by conv => lhs; whnf)) ?_
            refine wx_take 8 [9, 17, 18, 20, 35, 36, 37, 38] _ _ rfl (by kernel_rfl) hS (yd_do fun A hA => rn_add rfl rfl (by omega)) ?_
            refine wx_take 9 [17, 18, 20, 35, 36, 37, 38] _ _ rfl (by kernel_rfl) hS (yd_do fun A hA => rn_mul rfl rfl (by omega)) ?_
            refine wx_take 10 [12, 13, 14, 15, 16, 17, 18, 20, 35, 36, 37, 38] _ _ rfl (by kernel_rfl) hS (yd_do fun A hA => rn_move (by conv => lhs; whnf)) ?_
            refine wx_take 11 [12, 13, 14, 15, 16, 17, 18, 20, 35, 36, 37, 38] _ _ rfl (by kernel_rfl) hS (yd_do fun A hA => rn_move (by conv => lhs; whnf)) ?_
            refine wx_take 12 [13, 14, 15, 16, 17, 18, 20, 35, 36, 37, 38] _ _ rfl (by kernel_rfl) hS (yd_do fun A hA => rn_indexAddr sl_23 rfl rfl (by omega)) ?_
            refine wx_take 13 [14, 15, 16, 17, 18, 20, 35, 36, 37, 38] _ _ rfl (by kernel_rfl) hS (yd_do fun A hA => rn_load p_5 rfl (((h1.ext hX (fun _ h => h)).ext hA (fun _ h => h.elim)).at0 (eU_at hs) rfl)) ?_
            refine wx_take 14 [15, 16, 17, 18, 20, 35, 36, 37, 38] _ _ rfl (by kernel_rfl) hS (yd_do fun A hA => rn_remK (b := 20) rfl rfl (by decide)) ?_
            refine wx_take 15 [16, 17, 18, 20, 35, 36, 37, 38] _ _ rfl (by kernel_rfl) hS (yd_do fun A hA => rn_convert ui_5 ui_3 rfl (wrap_id (by omega))) ?_
            refine wx_take 16 [17, 18, 20, 35, 36, 37, 38] _ _ rfl (by kernel_rfl) hS (yd_do fun A hA => rn_mul rfl rfl (by omega)) ?_
            refine wx_take 17 [18, 20, 35, 36, 37, 38] _ _ rfl (by kernel_rfl) hS (yd_do fun A hA => rn_sub rfl rfl (by omega)) ?_
            refine wx_take 18 [20, 35, 36, 37, 38] _ _ rfl (by kernel_rfl) hS (yd_do fun A hA => rn_add rfl rfl (by omega)) ?_
            refine wx_take 19 [20, 35, 36, 37, 38] _ _ rfl (by kernel_rfl) hS (yd_do fun A hA => rn_move (by conv => lhs; whnf)) ?_
            refine wx_take 20 [35, 36, 37, 38] _ _ rfl (by kernel_rfl) hS (yd_do fun A hA => rn_sub rfl rfl (by omega)) ?_
            refine wx_take 21 [22, 23, 31, 32, 34, 35, 36, 37, 38] _ _ rfl (by kernel_rfl) hS (yd_do fun A hA => rn_move (by conv => lhs; whnf)) ?_
            refine wx_take 22 [23, 31, 32, 34, 35, 36, 37, 38] _ _ rfl (by kernel_rfl) hS (yd_do fun A hA => rn_add rfl rfl (by omega)) ?_
            refine wx_take 23 [31, 32, 34, 35, 36, 37, 38] _ _ rfl (by kernel_rfl) hS (yd_do fun A hA => rn_mul rfl rfl (by omega)) ?_
            refine wx_take 24 [26, 27, 28, 29, 30, 31, 32, 34, 35, 36, 37, 38] _ _ rfl (by kernel_rfl) hS (yd_do fun A hA => rn_move (by conv => lhs; whnf)) ?_
            refine wx_take 25 [26, 27, 28, 29, 30, 31, 32, 34, 35, 36, 37, 38] _ _ rfl (by kernel_rfl) hS (yd_do fun A hA => rn_move (by conv => lhs; whnf)) ?_
            refine wx_take 26 [27, 28, 29, 30, 31, 32, 34, 35, 36, 37, 38] _ _ rfl (by kernel_rfl) hS (yd_do fun A hA => rn_indexAddr sl_23 rfl rfl (by omega)) ?_
            refine wx_take 27 [28, 29, 30, 31, 32, 34, 35, 36, 37, 38] _ _ rfl (by kernel_rfl) hS (yd_do fun A hA => rn_load p_5 rfl (((h1.ext hX (fun _ h => h)).ext hA (fun _ h => h.elim)).at0 (eU_at hs) rfl)) ?_
            refine wx_take 28 [29, 30, 31, 32, 34, 35, 36, 37, 38] _ _ rfl (by kernel_rfl) hS (yd_do fun A hA => rn_quoK (b := 20) rfl rfl (by decide) (wrap_u8' (by omega))) ?_
            refine wx_take 29 [30, 31, 32, 34, 35, 36, 37, 38] _ _ rfl (by kernel_rfl) hS (yd_do fun A hA => rn_convert ui_5 ui_3 rfl (wrap_id (by omega))) ?_
            refine wx_take 30 [31, 32, 34, 35, 36, 37, 38] _ _ rfl (by kernel_rfl) hS (yd_do fun A hA => rn_mul rfl rfl (by omega)) ?_
            refine wx_take 31 [32, 34, 35, 36, 37, 38] _ _ rfl (by kernel_rfl) hS (yd_do fun A hA => rn_add rfl rfl (by omega)) ?_
            refine wx_take 32 [34, 35, 36, 37, 38] _ _ rfl (by kernel_rfl) hS (yd_do fun A hA => rn_add rfl rfl (by omega)) ?_
            refine wx_take 33 [34, 35, 36, 37, 38] _ _ rfl (by kernel_rfl) hS (yd_do fun A hA => rn_move (by conv => lhs; whnf)) ?_
            refine wx_take 34 [35, 36, 37, 38] _ _ rfl (by kernel_rfl) hS (yd_do fun A hA => rn_add rfl rfl (by omega)) ?_
            refine wx_take 35 [36, 37, 38] _ _ rfl (by kernel_rfl) hS (yd_do fun A hA => rn_build' b_38 rfl rfl (cs := (⟨(i : Nat), 0, x, (doS (stF ops i) x).2, fromF i sp, toF i sp⟩ : CallD).enc) rfl) ?_
            refine wx_only 36 _ rfl (by kernel_rfl) ?_
            refine s1_do ?_
            have hcf := callF_at hx hs
            refine wl_lit1 (r := (callF ops spans i).enc) sl_25 rfl rfl (by rw [hcf]; rfl) rfl (by decide) ?_; intro v86 w10 b86 hb86 hE10 hO86
            replace hS := hS.tr hE10
            refine wl_nil ⟨fun _ => hS, ?_⟩
            replace hX := hX.tr hS
            replace hB6 := hB6.ext hS id; replace hB8 := hB8.ext hS id
            replace hT := hT.non hS
            replace hO := hO.ext hS (fun _ _ h => h)
            refine wx_only 37 _ rfl (by kernel_rfl) ?_
            refine s1_do ?_
            have hXo := hX
            refine wl_app sl_25 rfl rfl rfl hO (hO86.sl (M := Non) id) (fun r hr => by simp only [List.mem_singleton] at hr; subst hr; exact CallD.one _) (by simp only [List.length_map, List.length_cons, List.length_nil, lF_len]; omega) (by simp only [List.length_map, List.length_cons, List.length_nil, lF_len, big]; omega) ?_; intro v87 w11 o87 hE11 hO87 hf87
            replace hX := hX.mineO hE11 (fun j hj => .inr (ho j hj).1); have ho87 : ∀ j, o87 = some j → w.heap.size ≤ j ∧ j ≠ b6 := fun j hj => by rcases hf87 j hj with h | h; exact ho j h; exact ⟨Nat.le_trans hXo.size h, by have := hB6.lt; omega⟩
            replace hT := hT.ext hE11 (B := w.heap.size) (fun j hj => (ho j hj).1) hG; replace hB6 := hB6.ext hE11 (fun e => (ho _ e).2 rfl)
            refine wl_nil ⟨fun h => absurd h (by decide), ?_⟩
            refine wx_only 38 _ rfl (by kernel_rfl) ?_
            refine s1_do ?_
            refine wl_val (rn_assign (by conv => lhs; whnf)) ?_
            refine wl_nil ⟨fun h => absurd h (by decide), ?_⟩
            refine wx_done (by kernel_rfl) ?_ _
            refine W_region ?_
            refine wl_val (rn_move (by conv => lhs; whnf)) ?_
            refine wl_val (rn_add rfl rfl (by omega)) ?_
            refine wl_val (rn_assign (by conv => lhs; whnf)) ?_
            refine wl_nil ?_
            rw [← stF_succ hx] at hB6
            exact ⟨rfl, (i + 1, v87, o87), ⟨rfl, rfl, rfl, rfl, rfl, trivial⟩, ⟨hX, hB6, hl6, ⟨hlt, by rw [← lF_succ]; exact hO87, ho87, hT, fun c hc => by rw [lF, List.range_succ, List.map_append] at hc; rcases List.mem_append.1 hc with hc | hc; exact hp c hc; simp at hc; subst hc; rw [hcf]; exact hpx⟩⟩, by show ops.length - (i + 1) < ops.length - i; omega⟩
        · have hge := of_decide_eq_false hc2; simp only [Int.ofNat_lt, Nat.not_lt] at hge
          have hie : i = ops.length := by omega
          rw [hie] at hO hp
          obtain ⟨a5, c5, hv5⟩ := id hO.len; subst hv5
          simp only [List.length_map, lF_len] at hO ⊢
          refine W_exit ?_   -- exit 0
          refine W_seq ?_
          refine W_seq ?_
          refine W_region ?_
          refine wl_val (rn_assign (by conv => lhs; whnf)) ?_
          refine wl_nil ?_
          refine W_block ?_   -- block 2
          refine W_loopS (S := Nat × List CallD) [0, 1, 5, 9] (fun ⟨r, L⟩ => [.slice a0 ops.length c0, .slice a1 spans.length c1, .slice a5 ops.length c5, .int .i64 (r : Nat)]) (fun ⟨r, L⟩ A => (Ext Non w A) ∧ (L.Perm (lF ops spans ops.length) ∧ OwO A (.slice a5 ops.length c5) o5 15 (L.map CallD.enc) ∧ Tab A)) (fun ⟨r, L⟩ => ops.length - r) (1, lF ops spans ops.length) ⟨rfl, rfl, rfl, rfl, trivial⟩ ⟨hX, ⟨List.Perm.refl _, hO, hT⟩⟩ ?_
          rintro τ1 ⟨r, L⟩ A1 ⟨hX, hI1⟩
          obtain ⟨hpm, hO, hT⟩ := hI1
          have hLn : L.length = ops.length := by rw [hpm.length_eq, lF_len]
          refine W_seq ?_
          refine W_seq ?_
          refine W_region ?_
          refine wl_val (rn_move (by conv => lhs; whnf)) ?_
          refine wl_val (rn_move (by conv => lhs; whnf)) ?_
          refine wl_val (rn_len sl_25 rfl) ?_
          refine wl_val (rn_lss rfl rfl) ?_
          refine wl_nil ?_
          refine W_cond rfl (fun hc4 => ?_) (fun hc4 => ?_)
          · have hlt4 := of_decide_eq_true hc4; simp only [Int.ofNat_lt] at hlt4
            rcases hO with ⟨_, h2, _⟩ | ⟨b, spare, hob, hOb⟩
            · have := congrArg List.length h2; simp only [List.length_map, List.length_nil] at this; omega
            obtain ⟨c, hv, _⟩ := id hOb.val; simp only [Value.slice.injEq] at hv; obtain ⟨ha5, _, hcc⟩ := hv; subst hcc; subst ha5; subst hob
            have hbw := (ho b rfl).1
            have hO := hOb
            refine W_skip ?_
            refine W_seq ?_
            refine W_block ?_   -- block 3
            refine W_seq ?_
            refine W_region ?_
            refine wl_val (rn_move (by conv => lhs; whnf)) ?_
            refine wl_val (rn_assign (by conv => lhs; whnf)) ?_
            refine wl_nil ?_
            refine W_block ?_   -- block 4
            refine W_loopS (S := Nat × List CallD) [0, 1, 5, 9, 10] (fun ⟨q, L2⟩ => [.slice a0 ops.length c0, .slice a1 spans.length c1, .slice (some ⟨b, 0, none⟩) ops.length c5, .int .i64 (r : Nat), .int .i64 (q : Nat)]) (fun ⟨q, L2⟩ A => (Ext Non w A) ∧ (q < ops.length ∧ L2.Perm (lF ops spans ops.length) ∧ Ow A (.slice (some ⟨b, 0, none⟩) ops.length c5) b 15 (L2.map CallD.enc) spare ∧ Tab A)) (fun ⟨q, L2⟩ => q) (r, L) ⟨rfl, rfl, rfl, rfl, rfl, trivial⟩ ⟨hX, ⟨hlt4, hpm, hO, hT⟩⟩ ?_
            rintro τ2 ⟨q, L2⟩ A2 ⟨hX, hI2⟩
            obtain ⟨hq, hpm2, hO, hT⟩ := hI2
            have hLn2 : L2.length = ops.length := by rw [hpm2.length_eq, lF_len]
            refine W_seq ?_
            refine W_seq ?_
            refine W_drawE mixed ?_; intro w12 hE12
            replace hX := hX.tr hE12
            replace hT := hT.non hE12
            replace hO := hO.ext hE12 id
            have hS := Ext.refl Non w12
            refine wd_take 0 _ _ rfl (by kernel_rfl) hS (yd_do fun A hA => rn_move (by conv => lhs; whnf)) ?_
            refine wd_take 1 _ _ rfl (by kernel_rfl) hS (yd_do fun A hA => rn_gtr rfl rfl) ?_
            refine wd_take 2 _ _ rfl (by kernel_rfl) hS (yd_do fun A hA => rn_move (by conv => lhs; whnf)) ?_
            refine wd_split (d := 97) rfl (fun hg97 => ?_) (fun hg97 => ?_)
            · have hq0 := of_decide_eq_true hg97
              obtain ⟨k, rfl⟩ : ∃ k, q = k + 1 := ⟨q - 1, by omega⟩
              obtain ⟨y, hy⟩ : ∃ y, L2[k]? = some y := ⟨_, List.getElem?_eq_getElem (by omega)⟩
              obtain ⟨z, hz⟩ : ∃ z, L2[k + 1]? = some z := ⟨_, List.getElem?_eq_getElem (by omega)⟩
              refine wd_take 3 _ _ rfl (by kernel_rfl) hS (yd_yes rfl (congrArg Value.bool hg97) fun A hA => rn_move (by conv => lhs; whnf)) ?_
              refine wd_take 4 _ _ rfl (by kernel_rfl) hS (yd_yes rfl (congrArg Value.bool hg97) fun A hA => rn_move (by conv => lhs; whnf)) ?_
              refine wd_take 5 _ _ rfl (by kernel_rfl) hS (yd_yes rfl (congrArg Value.bool hg97) fun A hA => Rn.cast (rn_sub rfl rfl (by omega)) (v' := .int .i64 (k : Nat)) (congrArg (Value.int .i64) (by omega))) ?_
              refine wd_take 6 _ _ rfl (by kernel_rfl) hS (yd_yes rfl (congrArg Value.bool hg97) fun A hA => rn_indexAddr sl_25 rfl rfl (by omega)) ?_
              refine wd_take 7 _ _ rfl (by kernel_rfl) hS (yd_yes rfl (congrArg Value.bool hg97) fun A hA => rn_fieldAddr f_38_4 (by decide) rfl) ?_
              refine wd_take 8 _ _ rfl (by kernel_rfl) hS (yd_yes rfl (congrArg Value.bool hg97) fun A hA => rn_load p_3 rfl (((hO.sl (M := Non) id).ext hA (fun _ h => h.elim)).at1 (map_at hy) rfl)) ?_
              refine wd_take 9 _ _ rfl (by kernel_rfl) hS (yd_yes rfl (congrArg Value.bool hg97) fun A hA => rn_move (by conv => lhs; whnf)) ?_
              refine wd_take 10 _ _ rfl (by kernel_rfl) hS (yd_yes rfl (congrArg Value.bool hg97) fun A hA => rn_move (by conv => lhs; whnf)) ?_
              refine wd_take 11 _ _ rfl (by kernel_rfl) hS (yd_yes rfl (congrArg Value.bool hg97) fun A hA => rn_indexAddr sl_25 rfl rfl (by omega)) ?_
              refine wd_take 12 _ _ rfl (by kernel_rfl) hS (yd_yes rfl (congrArg Value.bool hg97) fun A hA => rn_fieldAddr f_38_4 (by decide) rfl) ?_
              refine wd_take 13 _ _ rfl (by kernel_rfl) hS (yd_yes rfl (congrArg Value.bool hg97) fun A hA => rn_load p_3 rfl (((hO.sl (M := Non) id).ext hA (fun _ h => h.elim)).at1 (map_at hz) rfl)) ?_
              refine wd_take 14 _ _ rfl (by kernel_rfl) hS (yd_yes rfl (congrArg Value.bool hg97) fun A hA => rn_gtr rfl rfl) ?_
              refine wd_take 15 _ _ rfl (by kernel_rfl) hS (yd_do fun A hA => rn_pickT (congrArg Value.bool hg97) (by conv => lhs; whnf)) ?_
              refine wd_done (by kernel_rfl) ?_ _
              replace hX := hX.tr hS
              replace hT := hT.non hS
              replace hO := hO.ext hS id
              refine W_cond rfl (fun hc5 => ?_) (fun hc5 => ?_)
              · refine W_skip ?_
                refine W_seq ?_
                refine W_block ?_   -- block 5
                refine W_cut (T := Unit × Nat × Nat) [0, 1, 5, 9, 10, 11, 12] (fun ⟨_, b11, b12⟩ => [.slice a0 ops.length c0, .slice a1 spans.length c1, .slice (some ⟨b, 0, none⟩) ops.length c5, .int .i64 (r : Nat), .int .i64 ((k + 1 : Nat) : Int), .pointer (some ⟨b11, 0, none⟩), .pointer (some ⟨b12, 0, none⟩)]) (fun ⟨_, b11, b12⟩ A => (Ext Non w A) ∧ (IsBox A b11 y.enc) ∧ (IsBox A b12 z.enc) ∧ (Mine Non w b11) ∧ (Mine Non w b12) ∧ (Ow A (.slice (some ⟨b, 0, none⟩) ops.length c5) b 15 (L2.map CallD.enc) spare ∧ Tab A ∧ b < b11 ∧ b < b12)) ?_ ?_
                · refine W_drawX (fun j => false) mixed ?_; intro w13 hE13
                  replace hX := hX.tr hE13
                  replace hT := hT.non hE13
                  replace hO := hO.ext hE13 id
                  have hS := Ext.refl Non w13
                  refine wx_take 0 [3, 4, 11, 12] _ _ rfl (by kernel_rfl) hS (yd_do fun A hA => rn_move (by conv => lhs; whnf)) ?_
                  refine wx_take 1 [2, 3, 4, 11, 12] _ _ rfl (by kernel_rfl) hS (yd_do fun A hA => rn_move (by conv => lhs; whnf)) ?_
                  refine wx_take 2 [3, 4, 11, 12] _ _ rfl (by kernel_rfl) hS (yd_do fun A hA => Rn.cast (rn_sub rfl rfl (by omega)) (v' := .int .i64 (k : Nat)) (congrArg (Value.int .i64) (by omega))) ?_
                  refine wx_take 3 [4, 11, 12] _ _ rfl (by kernel_rfl) hS (yd_do fun A hA => rn_indexAddr sl_25 rfl rfl (by omega)) ?_
                  refine wx_take 4 [11, 12] _ _ rfl (by kernel_rfl) hS (yd_do fun A hA => rn_loadS s_38 rfl rfl (((hO.sl (M := Non) id).ext hA (fun _ h => h.elim)).all0 (map_at hy))) ?_
                  refine wx_take 5 [7, 8, 12] _ _ rfl (by kernel_rfl) hS (yd_do fun A hA => rn_move (by conv => lhs; whnf)) ?_
                  refine wx_take 6 [7, 8, 12] _ _ rfl (by kernel_rfl) hS (yd_do fun A hA => rn_move (by conv => lhs; whnf)) ?_
                  refine wx_take 7 [8, 12] _ _ rfl (by kernel_rfl) hS (yd_do fun A hA => rn_indexAddr sl_25 rfl rfl (by omega)) ?_
                  refine wx_take 8 [12] _ _ rfl (by kernel_rfl) hS (yd_do fun A hA => rn_loadS s_38 rfl rfl (((hO.sl (M := Non) id).ext hA (fun _ h => h.elim)).all0 (map_at hz))) ?_
                  refine wx_two 9 10 _ _ rfl rfl (by kernel_rfl) ?_ ?_
                  · refine s1_do ?_
                    refine wl_alloc z_38 ?_; intro b11 w14 hb11 hE14 hB11
                    have hq11 : w.heap.size ≤ b11 := Nat.le_trans (hX.tr hS).size hb11
                    have hl11 : Mine Non w b11 := .inr hq11
                    have hnb11 : b < b11 := Nat.lt_of_lt_of_le (Nat.lt_of_lt_of_le hO.box.lt hS.size) hb11
                    have hm11 : w13.heap.size ≤ b11 := Nat.le_trans hS.size hb11
                    replace hS := hS.tr hE14
                    refine wl_nil ⟨fun _ => hS, ?_⟩
                    refine wx_only 10 _ rfl (by kernel_rfl) ?_
                    refine s1_do ?_
                    refine wl_alloc z_38 ?_; intro b12 w15 hb12 hE15 hB12
                    have hn11_12 : b11 < b12 := Nat.lt_of_lt_of_le hB11.lt hb12
                    have hq12 : w.heap.size ≤ b12 := Nat.le_trans (hX.tr hS).size hb12
                    have hl12 : Mine Non w b12 := .inr hq12
                    have hnb12 : b < b12 := Nat.lt_of_lt_of_le (Nat.lt_of_lt_of_le hO.box.lt hS.size) hb12
                    have hm12 : w13.heap.size ≤ b12 := Nat.le_trans hS.size hb12
                    replace hB11 := hB11.ext hE15 id
                    replace hS := hS.tr hE15
                    refine wl_nil ⟨fun _ => hS, ?_⟩
                    refine wx_only 11 _ rfl (by kernel_rfl) ?_
                    refine s1_do ?_
                    refine wl_storeB s_38 rfl rfl rfl (CallD.one _) hB11 rfl ?_; intro w16 hE16 hB11 hz16
                    replace hB12 := hB12.ext hE16 (fun h => by omega)
                    replace hS := hS.mine hE16 (.inr (by omega))
                    refine wl_nil ⟨fun _ => hS, ?_⟩
                    refine wx_only 12 _ rfl (by kernel_rfl) ?_
                    refine s1_do ?_
                    refine wl_storeB s_38 rfl rfl rfl (CallD.one _) hB12 rfl ?_; intro w17 hE17 hB12 hz17
                    replace hB11 := hB11.ext hE17 (fun h => by omega)
                    replace hS := hS.mine hE17 (.inr (by omega))
                    refine wl_nil ⟨fun _ => hS, ?_⟩
                    refine wx_done (by kernel_rfl) ?_ _
                    replace hX := hX.tr hS
                    replace hT := hT.non hS
                    replace hO := hO.ext hS id
                    exact ⟨rfl, ((), b11, b12), ⟨rfl, rfl, rfl, rfl, rfl, rfl, rfl, trivial⟩, ⟨hX, hB11, hB12, hl11, hl12, ⟨hO, hT, hnb11, hnb12⟩⟩⟩
                  · refine s1_do ?_
                    refine wl_alloc z_38 ?_; intro b12 w18 hb12 hE18 hB12
                    have hq12 : w.heap.size ≤ b12 := Nat.le_trans (hX.tr hS).size hb12
                    have hl12 : Mine Non w b12 := .inr hq12
                    have hnb12 : b < b12 := Nat.lt_of_lt_of_le (Nat.lt_of_lt_of_le hO.box.lt hS.size) hb12
                    have hm12 : w13.heap.size ≤ b12 := Nat.le_trans hS.size hb12
                    replace hS := hS.tr hE18
                    refine wl_nil ⟨fun _ => hS, ?_⟩
                    refine wx_only 9 _ rfl (by kernel_rfl) ?_
                    refine s1_do ?_
                    refine wl_alloc z_38 ?_; intro b11 w19 hb11 hE19 hB11
                    have hn12_11 : b12 < b11 := Nat.lt_of_lt_of_le hB12.lt hb11
                    have hq11 : w.heap.size ≤ b11 := Nat.le_trans (hX.tr hS).size hb11
                    have hl11 : Mine Non w b11 := .inr hq11
                    have hnb11 : b < b11 := Nat.lt_of_lt_of_le (Nat.lt_of_lt_of_le hO.box.lt hS.size) hb11
                    have hm11 : w13.heap.size ≤ b11 := Nat.le_trans hS.size hb11
                    replace hB12 := hB12.ext hE19 id
                    replace hS := hS.tr hE19
                    refine wl_nil ⟨fun _ => hS, ?_⟩
                    refine wx_only 11 _ rfl (by kernel_rfl) ?_
                    refine s1_do ?_
                    refine wl_storeB s_38 rfl rfl rfl (CallD.one _) hB11 rfl ?_; intro w20 hE20 hB11 hz20
                    replace hB12 := hB12.ext hE20 (fun h => by omega)
                    replace hS := hS.mine hE20 (.inr (by omega))
                    refine wl_nil ⟨fun _ => hS, ?_⟩
                    refine wx_only 12 _ rfl (by kernel_rfl) ?_
                    refine s1_do ?_
                    refine wl_storeB s_38 rfl rfl rfl (CallD.one _) hB12 rfl ?_; intro w21 hE21 hB12 hz21
                    replace hB11 := hB11.ext hE21 (fun h => by omega)
                    replace hS := hS.mine hE21 (.inr (by omega))
                    refine wl_nil ⟨fun _ => hS, ?_⟩
                    refine wx_done (by kernel_rfl) ?_ _
                    replace hX := hX.tr hS
                    replace hT := hT.non hS
                    replace hO := hO.ext hS id
                    exact ⟨rfl, ((), b11, b12), ⟨rfl, rfl, rfl, rfl, rfl, rfl, rfl, trivial⟩, ⟨hX, hB11, hB12, hl11, hl12, ⟨hO, hT, hnb11, hnb12⟩⟩⟩
                · rintro τ921 ⟨_, b11, b12⟩ C21 ⟨hX, hB11, hB12, hl11, hl12, hI⟩
                  obtain ⟨hO, hT, hnb11, hnb12⟩ := hI
                  refine W_drawF (fun i => i = b) mixed ?_; intro w22 hE22
                  replace hX := hX.tr hE22
                  replace hB11 := hB11.ext hE22 id; replace hB12 := hB12.ext hE22 id
                  replace hT := hT.non hE22
                  replace hO := hO.ext hE22 id
                  have hS := Ext.refl (fun i => i = b) w22
                  refine wd_take 0 _ _ rfl (by kernel_rfl) hS (yd_do fun A hA => rn_move (by conv => lhs; whnf)) ?_
                  refine wd_take 1 _ _ rfl (by kernel_rfl) hS (yd_do fun A hA => rn_move (by conv => lhs; whnf)) ?_
                  refine wd_take 2 _ _ rfl (by kernel_rfl) hS (yd_do fun A hA => Rn.cast (rn_sub rfl rfl (by omega)) (v' := .int .i64 (k : Nat)) (congrArg (Value.int .i64) (by omega))) ?_
                  refine wd_take 3 _ _ rfl (by kernel_rfl) hS (yd_do fun A hA => rn_move (by conv => lhs; whnf)) ?_
                  refine wd_take 4 _ _ rfl (by kernel_rfl) hS (yd_do fun A hA => rn_move (by conv => lhs; whnf)) ?_
                  refine wd_take 5 _ _ rfl (by kernel_rfl) hS (yd_do fun A hA => rn_loadB s_38 rfl rfl (hB12.ext hA (fun e => by omega))) ?_
                  refine wd_take 6 _ _ rfl (by kernel_rfl) hS (yd_do fun A hA => rn_loadB s_38 rfl rfl (hB11.ext hA (fun e => by omega))) ?_
                  refine wd_take 7 _ _ rfl (by kernel_rfl) hS (yd_do fun A hA => rn_indexAddr sl_25 rfl rfl (by omega)) ?_
                  refine wd_only 8 _ rfl (by kernel_rfl) ?_
                  refine s1_do ?_
                  refine wl_storeES s_38 (us := z.enc) rfl rfl rfl (CallD.one z) hO (by simp only [List.length_map]; omega) ?_; intro w23 hE23 hO
                  replace hS := hS.trans hE23
                  rw [set_enc] at hO
                  refine wl_nil ⟨hS, ?_⟩
                  refine wd_take 9 _ _ rfl (by kernel_rfl) hS (yd_do fun A hA => rn_indexAddr sl_25 rfl rfl (by omega)) ?_
                  refine wd_only 10 _ rfl (by kernel_rfl) ?_
                  refine s1_do ?_
                  refine wl_storeES s_38 (us := y.enc) rfl rfl rfl (CallD.one y) hO (by simp only [List.length_map, List.length_set]; omega) ?_; intro w24 hE24 hO
                  replace hS := hS.trans hE24
                  rw [set_enc] at hO
                  refine wl_nil ⟨hS, ?_⟩
                  refine wd_done (by kernel_rfl) ?_ _
                  replace hX := hX.mine hS (.inr hbw)
                  replace hT := hT.ext hS (B := w.heap.size) (fun j hj => by subst hj; exact hbw) hG
                  refine W_region ?_
                  refine wl_val (rn_move (by conv => lhs; whnf)) ?_
                  refine wl_val (Rn.cast (rn_sub rfl rfl (by omega)) (v' := .int .i64 (k : Nat)) (congrArg (Value.int .i64) (by omega))) ?_
                  refine wl_val (rn_assign (by conv => lhs; whnf)) ?_
                  refine wl_nil ?_
                  exact ⟨rfl, (k, (L2.set k z).set (k + 1) y), ⟨rfl, rfl, rfl, rfl, rfl, trivial⟩, ⟨hX, ⟨by omega, (swap_perm hy hz).trans hpm2, hO, hT⟩⟩, by show k < k + 1; omega⟩
              · refine W_exit ?_   -- exit 4
                refine W_region ?_
                refine wl_val (rn_move (by conv => lhs; whnf)) ?_
                refine wl_val (rn_add rfl rfl (by omega)) ?_
                refine wl_val (rn_assign (by conv => lhs; whnf)) ?_
                refine wl_nil ?_
                exact ⟨rfl, (r + 1, L2), ⟨rfl, rfl, rfl, rfl, trivial⟩, ⟨hX, ⟨hpm2, .inr ⟨b, spare, rfl, hO⟩, hT⟩⟩, by show ops.length - (r + 1) < ops.length - r; omega⟩
            · refine wd_take 3 _ _ rfl (by kernel_rfl) hS (yd_no rfl (congrArg Value.bool hg97)) ?_
              refine wd_take 4 _ _ rfl (by kernel_rfl) hS (yd_no rfl (congrArg Value.bool hg97)) ?_
              refine wd_take 5 _ _ rfl (by kernel_rfl) hS (yd_no rfl (congrArg Value.bool hg97)) ?_
              refine wd_take 6 _ _ rfl (by kernel_rfl) hS (yd_no rfl (congrArg Value.bool hg97)) ?_
              refine wd_take 7 _ _ rfl (by kernel_rfl) hS (yd_no rfl (congrArg Value.bool hg97)) ?_
              refine wd_take 8 _ _ rfl (by kernel_rfl) hS (yd_no rfl (congrArg Value.bool hg97)) ?_
              refine wd_take 9 _ _ rfl (by kernel_rfl) hS (yd_no rfl (congrArg Value.bool hg97)) ?_
              refine wd_take 10 _ _ rfl (by kernel_rfl) hS (yd_no rfl (congrArg Value.bool hg97)) ?_
              refine wd_take 11 _ _ rfl (by kernel_rfl) hS (yd_no rfl (congrArg Value.bool hg97)) ?_
              refine wd_take 12 _ _ rfl (by kernel_rfl) hS (yd_no rfl (congrArg Value.bool hg97)) ?_
              refine wd_take 13 _ _ rfl (by kernel_rfl) hS (yd_no rfl (congrArg Value.bool hg97)) ?_
              refine wd_take 14 _ _ rfl (by kernel_rfl) hS (yd_no rfl (congrArg Value.bool hg97)) ?_
              refine wd_take 15 _ _ rfl (by kernel_rfl) hS (yd_do fun A hA => rn_pickF (congrArg Value.bool hg97) (by conv => lhs; whnf)) ?_
              refine wd_done (by kernel_rfl) ?_ _
              replace hX := hX.tr hS
              replace hT := hT.non hS
              replace hO := hO.ext hS id
              refine W_condF rfl ?_
              refine W_exit ?_   -- exit 4
              refine W_region ?_
              refine wl_val (rn_move (by conv => lhs; whnf)) ?_
              refine wl_val (rn_add rfl rfl (by omega)) ?_
              refine wl_val (rn_assign (by conv => lhs; whnf)) ?_
              refine wl_nil ?_
              exact ⟨rfl, (r + 1, L2), ⟨rfl, rfl, rfl, rfl, trivial⟩, ⟨hX, ⟨hpm2, .inr ⟨b, spare, rfl, hO⟩, hT⟩⟩, by show ops.length - (r + 1) < ops.length - r; omega⟩
          · refine W_exit ?_   -- exit 2
            refine W_seq ?_
            refine W_region ?_
            refine wl_call e_17 rfl (machine_ok A1) ?_; intro v132 w25 hE25 hR25
            replace hX := hX.tr hE25
            replace hT := hT.non hE25
            replace hO := hO.ext hE25 (fun _ _ h => h)
            subst hR25
            refine wl_val (rn_move (by conv => lhs; whnf)) ?_
            refine wl_call e_16 rfl (order_ok w25 L ((hO.sl (M := Non) (fun _ _ h => h))) (fun c hc => hp c (hpm.subset hc)) hT (by omega)) ?_; intro v134 w26 hE26 hR26
            replace hX := hX.tr hE26
            replace hT := hT.non hE26
            replace hO := hO.ext hE26 (fun _ _ h => h)
            obtain ⟨v134, rfl, hO134⟩ := hR26
            obtain ⟨a134, c134, hv134, hb134⟩ := id hO134.len; subst hv134
            have hne := lF_orders hpm; have hL24 : L.length ≤ 24 := by omega
            refine wl_val (rn_move (by conv => lhs; whnf)) ?_
            refine wl_val (rn_extract rfl rfl) ?_
            refine wl_val (rn_extract rfl rfl) ?_
            refine wl_val (rn_assign (by conv => lhs; whnf)) ?_
            refine wl_val (rn_assign (by conv => lhs; whnf)) ?_
            refine wl_nil ?_
            refine W_seq ?_
            refine W_region ?_
            refine wl_val (rn_move (by conv => lhs; whnf)) ?_
            refine wl_val (rn_move (by conv => lhs; whnf)) ?_
            refine wl_split (d := 138) rfl (fun hg138 => ?_) (fun hg138 => ?_)
            · refine wl_yes rfl (congrArg Value.bool hg138) ?_
              refine wl_val (rn_move (by conv => lhs; whnf)) ?_
              refine wl_yes rfl (congrArg Value.bool hg138) ?_
              refine wl_val (rn_move (by conv => lhs; whnf)) ?_
              refine wl_yes rfl (congrArg Value.bool hg138) ?_
              refine wl_call e_18 rfl (rcheck_ok w26 L _ (hO.sl (M := Non) (fun _ _ h => h)) (by rw [← eN_eI]; exact hO134) (by omega)) ?_; intro v141 w27 hE27 hR27
              replace hX := hX.tr hE27
              replace hT := hT.non hE27
              replace hO := hO.ext hE27 (fun _ _ h => h)
              replace hO134 := hO134.ext hE27 (fun _ h => h)
              subst hR27
              refine wl_val (rn_pickT (congrArg Value.bool hg138) (by conv => lhs; whnf)) ?_
              refine wl_val (rn_move (by conv => lhs; whnf)) ?_
              refine wl_split (d := 143) rfl (fun hg143 => ?_) (fun hg143 => ?_)
              · refine wl_yes rfl (congrArg Value.bool hg143) ?_
                refine wl_call e_17 rfl (machine_ok w27) ?_; intro v144 w28 hE28 hR28
                replace hX := hX.tr hE28
                replace hT := hT.non hE28
                replace hO := hO.ext hE28 (fun _ _ h => h)
                replace hO134 := hO134.ext hE28 (fun _ h => h)
                subst hR28
                refine wl_yes rfl (congrArg Value.bool hg143) ?_
                refine wl_val (rn_move (by conv => lhs; whnf)) ?_
                refine wl_yes rfl (congrArg Value.bool hg143) ?_
                refine wl_val (rn_move (by conv => lhs; whnf)) ?_
                refine wl_yes rfl (congrArg Value.bool hg143) ?_
                refine wl_call e_19 rfl (check_ok w28 L _ (hO.sl (M := Non) (fun _ _ h => h)) (by rw [← eN_eI]; exact hO134) (by omega)) ?_; intro v147 w29 hE29 hR29
                replace hX := hX.tr hE29
                replace hT := hT.non hE29
                replace hO := hO.ext hE29 (fun _ _ h => h)
                replace hO134 := hO134.ext hE29 (fun _ h => h)
                subst hR29
                refine wl_val (rn_pickT (congrArg Value.bool hg143) (by conv => lhs; whnf)) ?_
                refine wl_val (rn_assign (by conv => lhs; whnf)) ?_
                refine wl_nil ?_
                refine W_ret ?_
                exact ⟨_, resR1 (res1_tmp rfl), hX, congrArg Value.bool hg143⟩
              · exact absurd hg143 (by rw [lF_chk hL24 hne]; decide)
            · exact absurd hg138 (by rw [lF_ordB hL24 hne]; decide)
end Go.Proofs.YthcclgoidchkdaaDoorC
