/- Layer 8: the first order, and how many there are. -/
import Derived.Test.YthcclgoidchkdaaDoorLin5
set_option linter.unusedVariables false
set_option linter.unusedSimpArgs false
set_option maxRecDepth 100000
namespace Go.Proofs.YthcclgoidchkdaaDoorC
open Go.RowKit
/-- The order that is found, and whether one is. -/
def ordR (l : List CallD) : List Nat := if l.length ≤ 24 then (orders l).headD [] else []
def ordB (l : List CallD) : Bool := decide (l.length ≤ 24) && !(orders l).isEmpty
/-- How many orders are told. -/
def cntR (l : List CallD) : Int := if 7 < l.length then -1 else (orders l).length
theorem mcells_one : ∀ v ∈ mcells, v.oneCell' = true := by intro v hv; simp only [mcells, List.mem_cons, List.not_mem_nil, or_false] at hv; rcases hv with rfl | rfl | rfl | rfl <;> rfl
theorem Tab.lt {w : World} (h : Tab w) {B : Nat} (hB : w.heap.size ≤ B) : Gb B := by
  unfold Tab Lib.TabIs World.var? at h
  cases hg : Tryd.prog.globalNamed "internal/strconv.uint64pow10" with
  | none => rw [hg] at h; simp at h
  | some g =>
    rw [hg] at h
    simp only [Option.bind_some] at h
    refine ⟨g, hg, ?_⟩
    rcases Nat.lt_or_ge g w.heap.size with h' | h'
    · omega
    · rw [Array.getElem?_eq_none h'] at h; cases h
theorem dead_nil (l : List CallD) : DeadOk l [] := fun k hk => by cases hk
/-- A search begins. -/
theorem FH.begin {w : World} {B : Nat} {l : List CallD} {vl : Value} {b bd bm : Nat} (hS : Srch w b bd bm vl (none0 l) [] (.slice none 0 0) none) (hl : Sl (fun i => B ≤ i) w vl 15 (l.map CallD.enc)) (hn : l.length ≤ 24) (hp : ∀ c ∈ l, c.op.payload.length ≤ 100) (h1 : B ≤ b) (h2 : B ≤ bd) (h3 : B ≤ bm) (h4 : bm < w.heap.size) :
    FH w B l (none0 l) [] st0 vl (.slice none 0 0) none b bd bm l.length :=
  ⟨hS, hl, hn, by simp [none0], by simp, by rw [undone0]; simp, by simp [st0], hp, by simp [st0], fun i hi => by
    rcases hi with h | h | h | h
    · rw [h]; exact ⟨h1, hS.box.lt⟩
    · rw [h]; exact ⟨h2, hS.dn.box.lt⟩
    · cases h
    · rw [h]; exact ⟨h3, h4⟩⟩
-- bellman/lin.begin[bellman/bellmanref08.State]
set_option maxHeartbeats 1000000 in
theorem begin_ok (w : World) (l : List CallD) {vl : Value} (hs : Sl Non w vl 15 (l.map CallD.enc)) (hn : l.length ≤ 100000) : Fn Tryd.prog 64 #[.agg mcells.toArray, vl] w fun u w' => ∃ b bd bm, u = .pointer (some ⟨b, 0, none⟩) ∧ Srch w' b bd bm vl (none0 l) [] (.slice none 0 0) none ∧ IsMp w' bm (kv []) ∧ w.heap.size ≤ b ∧ w.heap.size ≤ bd ∧ w.heap.size ≤ bm ∧ bm < w'.heap.size := by
  obtain ⟨al, cl, rfl, _⟩ := hs.len
  simp only [List.length_map] at hs ⊢
  have hbig2 : big = 9223372036854775807 := rfl
  have hX := Ext.refl Non w
  refine fn_of_W (args := [_, _]) Tryd.func64 rfl (by kernel_rfl) rfl ?_
  refine W_seq ?_
  refine W_region ?_
  refine wl_boxS rfl ?_; intro b2 w1 hb2 hE1 hB2
  have hq2 : w.heap.size ≤ b2 := Nat.le_trans hX.size hb2
  have hl2 : Mine Non w b2 := .inr hq2
  replace hX := hX.tr hE1
  refine wl_val (rn_assign (by conv => lhs; whnf)) ?_
  refine wl_nil ?_
  refine W_seq ?_
  refine W_drawX (fun j => false) mixed ?_; intro w2 hE2
  replace hX := hX.tr hE2
  replace hB2 := hB2.ext hE2 id
  have hS := Ext.refl Non w2
  refine wx_take 0 [6, 7, 8] _ _ rfl (by kernel_rfl) hS (yd_do fun A hA => rn_loadB s_44 rfl rfl (hB2.ext hA id)) ?_
  refine wx_take 1 [6, 7, 8] _ _ rfl (by kernel_rfl) hS (yd_do fun A hA => rn_move (by conv => lhs; whnf)) ?_
  refine wx_take 2 [3, 4, 6, 7, 8] _ _ rfl (by kernel_rfl) hS (yd_do fun A hA => rn_move (by conv => lhs; whnf)) ?_
  refine wx_take 3 [4, 6, 7, 8] _ _ rfl (by kernel_rfl) hS (yd_do fun A hA => rn_len sl_25 rfl) ?_
  refine wx_two 4 5 _ _ rfl rfl (by kernel_rfl) ?_ ?_
  · refine s1_do ?_
    refine wl_make sl_117 rfl rfl rfl (by omega) (by omega) ?_; intro w3 b9 hb9 hE3 hO9
    have hy9 : w.heap.size ≤ b9 := Nat.le_trans (hX.tr hS).size hb9; have hz9 := hO9.box.lt
    replace hS := hS.tr hE3
    refine wl_nil ⟨fun _ => hS, ?_⟩
    refine wx_only 5 _ rfl (by kernel_rfl) ?_
    refine s1_do ?_
    refine wl_makeMap ?_; intro b10 w4 hb10 hE4 hM10
    have hy10 : w.heap.size ≤ b10 := Nat.le_trans (hX.tr hS).size hb10; have hz10 := hM10.lt
    replace hS := hS.tr hE4
    replace hO9 := hO9.ext hE4 id
    refine wl_nil ⟨fun _ => hS, ?_⟩
    refine wx_take 6 [7, 8] _ _ rfl (by kernel_rfl) hS (yd_do fun A hA => rn_build' b_120 rfl rfl (cs := (scells (.slice al l.length cl) b9 l.length (.slice none 0 0) b10)) rfl) ?_
    have hv9 := hO9.box.lt; have hv10 := hM10.lt
    refine wx_only 7 _ rfl (by kernel_rfl) ?_
    refine s1_do ?_
    refine wl_boxS rfl ?_; intro b12 w5 hb12 hE5 hB12
    have hn2_12 : b2 < b12 := Nat.lt_of_lt_of_le (Nat.lt_of_lt_of_le hB2.lt hS.size) hb12
    have hq12 : w.heap.size ≤ b12 := Nat.le_trans (hX.tr hS).size hb12
    have hl12 : Mine Non w b12 := .inr hq12
    have hm12 : w2.heap.size ≤ b12 := Nat.le_trans hS.size hb12
    replace hS := hS.tr hE5
    replace hO9 := hO9.ext hE5 id
    replace hM10 := hM10.ext hE5 id
    refine wl_nil ⟨fun _ => hS, ?_⟩
    refine wx_take 8 [] _ _ rfl (by kernel_rfl) hS (yd_do fun A hA => rn_assign (by conv => lhs; whnf)) ?_
    refine wx_done (by kernel_rfl) ?_ _
    replace hX := hX.tr hS
    replace hB2 := hB2.ext hS id
    refine W_ret ?_
    exact ⟨_, resR1 (res1_tmp rfl), hX, ⟨b12, b9, b10, rfl, ⟨by rw [show (none0 l).length = l.length by simp [none0]]; exact hB12, by rw [show (none0 l).length = l.length by simp [none0], show (none0 l).map eBo = List.replicate l.length [.bool false] by simp [none0, eBo]]; exact hO9, OwO.nil, by omega, by omega, by omega, fun j h => by cases h⟩, hM10, hq12, hy9, hy10, hM10.lt⟩⟩
  · refine s1_do ?_
    refine wl_makeMap ?_; intro b10 w6 hb10 hE6 hM10
    have hy10 : w.heap.size ≤ b10 := Nat.le_trans (hX.tr hS).size hb10; have hz10 := hM10.lt
    replace hS := hS.tr hE6
    refine wl_nil ⟨fun _ => hS, ?_⟩
    refine wx_only 4 _ rfl (by kernel_rfl) ?_
    refine s1_do ?_
    refine wl_make sl_117 rfl rfl rfl (by omega) (by omega) ?_; intro w7 b9 hb9 hE7 hO9
    have hy9 : w.heap.size ≤ b9 := Nat.le_trans (hX.tr hS).size hb9; have hz9 := hO9.box.lt
    replace hS := hS.tr hE7
    replace hM10 := hM10.ext hE7 id
    refine wl_nil ⟨fun _ => hS, ?_⟩
    refine wx_take 6 [7, 8] _ _ rfl (by kernel_rfl) hS (yd_do fun A hA => rn_build' b_120 rfl rfl (cs := (scells (.slice al l.length cl) b9 l.length (.slice none 0 0) b10)) rfl) ?_
    have hv9 := hO9.box.lt; have hv10 := hM10.lt
    refine wx_only 7 _ rfl (by kernel_rfl) ?_
    refine s1_do ?_
    refine wl_boxS rfl ?_; intro b12 w8 hb12 hE8 hB12
    have hn2_12 : b2 < b12 := Nat.lt_of_lt_of_le (Nat.lt_of_lt_of_le hB2.lt hS.size) hb12
    have hq12 : w.heap.size ≤ b12 := Nat.le_trans (hX.tr hS).size hb12
    have hl12 : Mine Non w b12 := .inr hq12
    have hm12 : w2.heap.size ≤ b12 := Nat.le_trans hS.size hb12
    replace hS := hS.tr hE8
    replace hM10 := hM10.ext hE8 id
    replace hO9 := hO9.ext hE8 id
    refine wl_nil ⟨fun _ => hS, ?_⟩
    refine wx_take 8 [] _ _ rfl (by kernel_rfl) hS (yd_do fun A hA => rn_assign (by conv => lhs; whnf)) ?_
    refine wx_done (by kernel_rfl) ?_ _
    replace hX := hX.tr hS
    replace hB2 := hB2.ext hS id
    refine W_ret ?_
    exact ⟨_, resR1 (res1_tmp rfl), hX, ⟨b12, b9, b10, rfl, ⟨by rw [show (none0 l).length = l.length by simp [none0]]; exact hB12, by rw [show (none0 l).length = l.length by simp [none0], show (none0 l).map eBo = List.replicate l.length [.bool false] by simp [none0, eBo]]; exact hO9, OwO.nil, by omega, by omega, by omega, fun j h => by cases h⟩, hM10, hq12, hy9, hy10, hM10.lt⟩⟩
-- bellman/lin.Order[bellman/bellmanref08.State]
set_option maxHeartbeats 2000000 in
theorem order_ok (w : World) (l : List CallD) {vl : Value} (hs : Sl Non w vl 15 (l.map CallD.enc)) (hp : ∀ c ∈ l, c.op.payload.length ≤ 100) (hT : Tab w) (hn : l.length ≤ 100000) : Fn Tryd.prog 16 #[.agg mcells.toArray, vl] w fun u w' => ∃ v, u = .tuple #[v, .bool (ordB l)] ∧ Sl Non w' v 1 ((ordR l).map eN) := by
  obtain ⟨al, cl, rfl, _⟩ := hs.len
  simp only [List.length_map] at hs ⊢
  have hbig2 : big = 9223372036854775807 := rfl
  have hG : ∀ B, w.heap.size ≤ B → Gb B := fun B h => hT.lt h
  have hX := Ext.refl Non w
  refine fn_of_W (args := [_, _]) Tryd.func16 rfl (by kernel_rfl) rfl ?_
  refine W_seq ?_
  refine W_region ?_
  refine wl_boxS rfl ?_; intro b2 w1 hb2 hE1 hB2
  have hq2 : w.heap.size ≤ b2 := Nat.le_trans hX.size hb2
  have hl2 : Mine Non w b2 := .inr hq2
  replace hX := hX.tr hE1
  replace hT := hT.non hE1
  refine wl_val (rn_assign (by conv => lhs; whnf)) ?_
  refine wl_val (rn_assign (by conv => lhs; whnf)) ?_
  refine wl_nil ?_
  refine W_seq ?_
  refine W_seq ?_
  refine W_region ?_
  refine wl_val (rn_fieldAddr f_44_1 (by decide) rfl) ?_
  refine wl_val (rn_load1 p_36 rfl hB2 rfl) ?_
  refine wl_val (rn_func_eql uf_36 rfl rfl) ?_
  refine wl_val (rn_move (by conv => lhs; whnf)) ?_
  refine wl_yes rfl rfl ?_
  refine wl_val (rn_fieldAddr f_44_2 (by decide) rfl) ?_
  refine wl_yes rfl rfl ?_
  refine wl_val (rn_load1 p_42 rfl hB2 rfl) ?_
  refine wl_yes rfl rfl ?_
  refine wl_val (rn_func_eql uf_42 rfl rfl) ?_
  refine wl_val (rn_pickF rfl (by conv => lhs; whnf)) ?_
  refine wl_val (rn_move (by conv => lhs; whnf)) ?_
  refine wl_yes rfl rfl ?_
  refine wl_val (rn_move (by conv => lhs; whnf)) ?_
  refine wl_yes rfl rfl ?_
  refine wl_val (rn_len sl_25 rfl) ?_
  refine wl_yes rfl rfl ?_
  refine wl_val (rn_gtr rfl rfl) ?_
  refine wl_val (rn_pickF rfl (by conv => lhs; whnf)) ?_
  refine wl_nil ?_
  refine W_cond rfl (fun hc0 => ?_) (fun hc0 => ?_)
  · have h24 : ¬ l.length ≤ 24 := by have := of_decide_eq_true hc0; omega
    refine W_seq ?_
    refine W_region ?_
    refine wl_val (rn_assign (by conv => lhs; whnf)) ?_
    refine wl_val (rn_assign (by conv => lhs; whnf)) ?_
    refine wl_nil ?_
    refine W_ret ?_
    exact ⟨_, resR2 (res1_tmp rfl) (res1_tmp rfl), hX, ⟨_, by unfold ordB; rw [decide_eq_false h24]; rfl, by unfold ordR; rw [if_neg h24]; exact Sl.nil _ _ _⟩⟩
  · have h24 : l.length ≤ 24 := by have := of_decide_eq_false hc0; omega
    refine W_skip ?_
    refine W_seq ?_
    refine W_region ?_
    refine wl_val (rn_loadB s_44 rfl rfl hB2) ?_
    refine wl_val (rn_move (by conv => lhs; whnf)) ?_
    obtain ⟨B, hBe⟩ : ∃ x, x = w1.heap.size := ⟨_, rfl⟩
    have hwB : w.heap.size ≤ B := by rw [hBe]; exact hX.size
    have hsB := (hs.ext hX (fun _ h => h)).sub (M' := fun i => B ≤ i) (fun i h hlt => by omega)
    refine wl_call e_64 rfl (begin_ok w1 l (hs.ext hX (fun _ h => h)) hn) ?_; intro v22 w2 hE2 hR2
    replace hX := hX.tr hE2
    replace hB2 := hB2.ext hE2 id
    replace hT := hT.non hE2
    obtain ⟨b22, bd22, bm22, rfl, hS22, hM22, hy1, hy2, hy3, hy4⟩ := hR2
    have hE22 := hE2; rw [← hBe] at hy1 hy2 hy3
    refine wl_val (rn_assign (by conv => lhs; whnf)) ?_
    refine wl_nil ?_
    refine W_seq ?_
    refine W_seq ?_
    refine W_region ?_
    refine wl_val (rn_move (by conv => lhs; whnf)) ?_
    refine wl_val (rn_fieldAddr f_44_0 (by decide) rfl) ?_
    refine wl_val (rn_loadS s_27 (vs := st0.enc) rfl rfl (hB2.part rfl (Nat.le_of_ble_eq_true rfl))) ?_
    refine wl_callM e_65 rfl (find_ok l.length w2 B l (none0 l) [] st0 _ _ none b22 bd22 bm22 [] (FH.begin hS22 (hsB.ext hE22 (fun _ h => h.elim)) h24 hp hy1 hy2 hy3 hy4) hM22 (dead_nil l) hT (hG B hwB)) ?_; rintro v26 w3 hE3 ⟨r, rfl, hrT, hrF⟩
    replace hX := hX.own2 hE3 (fun i h => .inr (by rcases h with h | h | h | h; omega; omega; cases h; omega))
    refine wl_val (rn_not rfl) ?_
    refine wl_nil ?_
    refine W_cond rfl (fun hc1 => ?_) (fun hc1 => ?_)
    · have hr : r = false := by simpa using hc1
      obtain ⟨hal, _⟩ := hrF hr
      refine W_seq ?_
      refine W_region ?_
      refine wl_val (rn_assign (by conv => lhs; whnf)) ?_
      refine wl_val (rn_assign (by conv => lhs; whnf)) ?_
      refine wl_nil ?_
      refine W_ret ?_
      exact ⟨_, resR2 (res1_tmp rfl) (res1_tmp rfl), hX, ⟨_, by unfold ordB orders; rw [hal, decide_eq_true h24]; rfl, by unfold ordR orders; rw [if_pos h24, hal]; exact Sl.nil _ _ _⟩⟩
    · have hr : r = true := by simpa using hc1
      obtain ⟨o, rest, d3, v3, o3, hal, hS3⟩ := hrT hr
      obtain ⟨a3, c3, hv3⟩ := id hS3.wy.len; subst hv3
      refine W_skip ?_
      refine W_seq ?_
      refine W_region ?_
      refine wl_val (rn_move (by conv => lhs; whnf)) ?_
      refine wl_val (rn_nilCheck rfl) ?_
      refine wl_val (rn_fieldAddr f_120_3 (by decide) rfl) ?_
      refine wl_val (rn_load1 p_39 rfl hS3.box rfl) ?_
      refine wl_val (rn_assign (by conv => lhs; whnf)) ?_
      refine wl_val (rn_assign (by conv => lhs; whnf)) ?_
      refine wl_nil ?_
      refine W_ret ?_
      exact ⟨_, resR2 (res1_tmp rfl) (res1_tmp rfl), hX, ⟨_, by unfold ordB orders; rw [hal, decide_eq_true h24]; rfl, by unfold ordR orders; rw [if_pos h24, hal]; exact hS3.wy.sl (fun _ _ h => h)⟩⟩
-- bellman/lin.Count[bellman/bellmanref08.State]
set_option maxHeartbeats 2000000 in
theorem lcount_ok (w : World) (l : List CallD) {vl : Value} (hs : Sl Non w vl 15 (l.map CallD.enc)) (hp : ∀ c ∈ l, c.op.payload.length ≤ 100) (hn : l.length ≤ 100000) : Fn Tryd.prog 23 #[.agg mcells.toArray, vl] w fun u w' => u = .int .i64 (cntR l) := by
  obtain ⟨al, cl, rfl, _⟩ := hs.len
  simp only [List.length_map] at hs ⊢
  have hbig2 : big = 9223372036854775807 := rfl
  have hX := Ext.refl Non w
  refine fn_of_W (args := [_, _]) Tryd.func23 rfl (by kernel_rfl) rfl ?_
  refine W_seq ?_
  refine W_region ?_
  refine wl_boxS rfl ?_; intro b2 w1 hb2 hE1 hB2
  have hq2 : w.heap.size ≤ b2 := Nat.le_trans hX.size hb2
  have hl2 : Mine Non w b2 := .inr hq2
  replace hX := hX.tr hE1
  refine wl_val (rn_assign (by conv => lhs; whnf)) ?_
  refine wl_nil ?_
  refine W_seq ?_
  refine W_block ?_   -- block 0
  refine W_seq ?_
  refine W_region ?_
  refine wl_val (rn_fieldAddr f_44_1 (by decide) rfl) ?_
  refine wl_val (rn_load1 p_36 rfl hB2 rfl) ?_
  refine wl_val (rn_func_eql uf_36 rfl rfl) ?_
  refine wl_val (rn_assign (by conv => lhs; whnf)) ?_
  refine wl_nil ?_
  refine W_condF rfl ?_
  refine W_seq ?_
  refine W_region ?_
  refine wl_val (rn_move (by conv => lhs; whnf)) ?_
  refine wl_val (rn_len sl_25 rfl) ?_
  refine wl_val (rn_gtr rfl rfl) ?_
  refine wl_val (rn_assign (by conv => lhs; whnf)) ?_
  refine wl_nil ?_
  refine W_cond rfl (fun hc1 => ?_) (fun hc1 => ?_)
  · have h7 := of_decide_eq_true hc1
    refine W_seq ?_
    refine W_region ?_
    refine wl_val (rn_assign (by conv => lhs; whnf)) ?_
    refine wl_nil ?_
    refine W_ret ?_
    exact ⟨_, resR1 (res1_tmp rfl), hX, by unfold cntR; rw [if_pos (by omega)]; rfl⟩
  · have h7 := of_decide_eq_false hc1
    refine W_skip ?_
    refine W_seq ?_
    refine W_drawX (fun j => false) mixed ?_; intro w2 hE2
    replace hX := hX.tr hE2
    replace hB2 := hB2.ext hE2 id
    have hS := Ext.refl Non w2
    refine wx_take 0 [2, 5, 6] _ _ rfl (by kernel_rfl) hS (yd_do fun A hA => rn_loadB s_44 rfl rfl (hB2.ext hA id)) ?_
    refine wx_take 1 [2, 5, 6] _ _ rfl (by kernel_rfl) hS (yd_do fun A hA => rn_move (by conv => lhs; whnf)) ?_
    refine wx_take 3 [4, 5, 6] _ _ rfl (by kernel_rfl) hS (yd_do fun A hA => rn_fieldAddr f_44_0 (by decide) rfl) ?_
    refine wx_take 4 [5, 6] _ _ rfl (by kernel_rfl) hS (yd_do fun A hA => rn_loadS s_27 (vs := st0.enc) rfl rfl ((hB2.ext hA id).part rfl (Nat.le_of_ble_eq_true rfl))) ?_
    obtain ⟨B, hBe⟩ : ∃ x, x = w2.heap.size := ⟨_, rfl⟩
    have hwB : w.heap.size ≤ B := by rw [hBe]; exact hX.size
    have hsB := (hs.ext hX (fun _ h => h)).sub (M' := fun i => B ≤ i) (fun i h hlt => by omega)
    refine wx_only 2 _ rfl (by kernel_rfl) ?_
    refine s1_do ?_
    refine wl_call e_64 rfl (begin_ok w2 l (hs.ext (hX.tr hS) (fun _ h => h)) hn) ?_; intro v15 w3 hE3 hR3
    replace hS := hS.tr hE3
    obtain ⟨b15, bd15, bm15, rfl, hS15, hM15, hy1, hy2, hy3, hy4⟩ := hR3
    have hE15 := hE3; rw [← hBe] at hy1 hy2 hy3
    refine wl_nil ⟨fun _ => hS, ?_⟩
    refine wx_only 5 _ rfl (by kernel_rfl) ?_
    refine s1_do ?_
    have hsz18 := hS.size
    refine wl_callM e_72 rfl (count_ok l.length w3 B l (none0 l) [] st0 _ _ none b15 bd15 bm15 (FH.begin hS15 (hsB.ext hE15 (fun _ h => h.elim)) (by omega) hp hy1 hy2 hy3 hy4) (by omega)) ?_; rintro v18 w4 hE4 ⟨rfl, _⟩
    replace hS := hS.own2 hE4 (fun i h => .inr (by rcases h with h | h | h | h; omega; omega; cases h; exact h.elim))
    refine wl_nil ⟨fun _ => hS, ?_⟩
    refine wx_take 6 [] _ _ rfl (by kernel_rfl) hS (yd_do fun A hA => rn_assign (by conv => lhs; whnf)) ?_
    refine wx_done (by kernel_rfl) ?_ _
    replace hX := hX.tr hS
    replace hB2 := hB2.ext hS id
    refine W_ret ?_
    exact ⟨_, resR1 (res1_tmp rfl), hX, by unfold cntR orders; rw [if_neg (by omega)]; rfl⟩
-- bellman/lin.Order[int]
theorem order0_ok (w : World) {vl vo : Value} : Fn Tryd.prog 24 #[.agg [Value.int .i64 0, .nilFunc, .nilFunc].toArray, vl] w fun u w' => u = .tuple #[.slice none 0 0, .bool false] := by
  have hX := Ext.refl Non w
  refine fn_of_W (args := [_, _]) Tryd.func24 rfl (by kernel_rfl) rfl ?_
  refine W_seq ?_
  refine W_region ?_
  refine wl_boxS rfl ?_; intro b2 w1 hb2 hE1 hB2
  have hq2 : w.heap.size ≤ b2 := Nat.le_trans hX.size hb2
  have hl2 : Mine Non w b2 := .inr hq2
  replace hX := hX.tr hE1
  refine wl_val (rn_assign (by conv => lhs; whnf)) ?_
  refine wl_val (rn_assign (by conv => lhs; whnf)) ?_
  refine wl_nil ?_
  refine W_seq ?_
  refine W_seq ?_
  refine W_region ?_
  refine wl_val (rn_fieldAddr f_57_1 (by decide) rfl) ?_
  refine wl_val (rn_load1 p_54 rfl hB2 rfl) ?_
  refine wl_val (rn_nofunc_eql uf_54 rfl rfl) ?_
  refine wl_val (rn_move (by conv => lhs; whnf)) ?_
  refine wl_no rfl rfl ?_
  refine wl_no rfl rfl ?_
  refine wl_no rfl rfl ?_
  refine wl_val (rn_pickT rfl (by conv => lhs; whnf)) ?_
  refine wl_val (rn_move (by conv => lhs; whnf)) ?_
  refine wl_no rfl rfl ?_
  refine wl_no rfl rfl ?_
  refine wl_no rfl rfl ?_
  refine wl_val (rn_pickT rfl (by conv => lhs; whnf)) ?_
  refine wl_nil ?_
  refine W_condT rfl ?_
  refine W_seq ?_
  refine W_region ?_
  refine wl_val (rn_assign (by conv => lhs; whnf)) ?_
  refine wl_val (rn_assign (by conv => lhs; whnf)) ?_
  refine wl_nil ?_
  refine W_ret ?_
  exact ⟨_, resR2 (res1_tmp rfl) (res1_tmp rfl), hX, rfl⟩
-- bellman/lin.Check[int]
theorem check0_ok (w : World) {vl vo : Value} : Fn Tryd.prog 25 #[.agg [Value.int .i64 0, .nilFunc, .nilFunc].toArray, vl, vo] w fun u w' => u = .bool false := by
  have hX := Ext.refl Non w
  refine fn_of_W (args := [_, _, _]) Tryd.func25 rfl (by kernel_rfl) rfl ?_
  refine W_seq ?_
  refine W_region ?_
  refine wl_boxS rfl ?_; intro b3 w1 hb3 hE1 hB3
  have hq3 : w.heap.size ≤ b3 := Nat.le_trans hX.size hb3
  have hl3 : Mine Non w b3 := .inr hq3
  replace hX := hX.tr hE1
  refine wl_val (rn_assign (by conv => lhs; whnf)) ?_
  refine wl_nil ?_
  refine W_seq ?_
  refine W_seq ?_
  refine W_region ?_
  refine wl_val (rn_fieldAddr f_57_1 (by decide) rfl) ?_
  refine wl_val (rn_load1 p_54 rfl hB3 rfl) ?_
  refine wl_val (rn_nofunc_eql uf_54 rfl rfl) ?_
  refine wl_val (rn_move (by conv => lhs; whnf)) ?_
  refine wl_no rfl rfl ?_
  refine wl_no rfl rfl ?_
  refine wl_no rfl rfl ?_
  refine wl_no rfl rfl ?_
  refine wl_no rfl rfl ?_
  refine wl_val (rn_pickT rfl (by conv => lhs; whnf)) ?_
  refine wl_nil ?_
  refine W_condT rfl ?_
  refine W_seq ?_
  refine W_region ?_
  refine wl_val (rn_assign (by conv => lhs; whnf)) ?_
  refine wl_nil ?_
  refine W_ret ?_
  exact ⟨_, resR1 (res1_tmp rfl), hX, rfl⟩
-- bellman/lin.Count[int]
theorem lcount0_ok (w : World) {vl vo : Value} : Fn Tryd.prog 26 #[.agg [Value.int .i64 0, .nilFunc, .nilFunc].toArray, vl] w fun u w' => u = .int .i64 0 := by
  have hX := Ext.refl Non w
  refine fn_of_W (args := [_, _]) Tryd.func26 rfl (by kernel_rfl) rfl ?_
  refine W_seq ?_
  refine W_region ?_
  refine wl_boxS rfl ?_; intro b2 w1 hb2 hE1 hB2
  have hq2 : w.heap.size ≤ b2 := Nat.le_trans hX.size hb2
  have hl2 : Mine Non w b2 := .inr hq2
  replace hX := hX.tr hE1
  refine wl_val (rn_assign (by conv => lhs; whnf)) ?_
  refine wl_nil ?_
  refine W_seq ?_
  refine W_block ?_   -- block 0
  refine W_seq ?_
  refine W_region ?_
  refine wl_val (rn_fieldAddr f_57_1 (by decide) rfl) ?_
  refine wl_val (rn_load1 p_54 rfl hB2 rfl) ?_
  refine wl_val (rn_nofunc_eql uf_54 rfl rfl) ?_
  refine wl_val (rn_assign (by conv => lhs; whnf)) ?_
  refine wl_nil ?_
  refine W_condT rfl ?_
  refine W_seq ?_
  refine W_region ?_
  refine wl_val (rn_assign (by conv => lhs; whnf)) ?_
  refine wl_nil ?_
  refine W_ret ?_
  exact ⟨_, resR1 (res1_tmp rfl), hX, rfl⟩
end Go.Proofs.YthcclgoidchkdaaDoorC
