/- A script's text: the program's. -/
import Derived.Test.YthcclgoidchkdaaGreatDoorBunZ7
import Derived.Test.YthcclgoidchkdaaGreatDoorBunZ3
import Derived.Lib.AppendStr
set_option linter.unusedVariables false
set_option linter.unusedSimpArgs false
set_option maxRecDepth 100000
namespace Go.Proofs.YthcclgoidchkdaaGreatDoorC
open Go.RowKit Go.Shelf
theorem joinB_ok (w : World) (sep : UInt8) (l : List Str) {v : Value} (hs : Sl Non w v 1 (l.map eS)) (hl : l ≠ []) (hn : (Lib.join l [sep]).length ≤ 100000000) (hn2 : l.length ≤ 1000000) : Fn Tryz.prog 52 #[v, Sv [sep]] w fun u w' => u = Sv (Lib.join l [sep]) := by
  obtain ⟨⟨a, c, hv, hc1, hc2, hc3⟩, heach⟩ := hs
  rcases hc3 with h0 | ⟨b, q, rfl, hlt, _, hcell⟩
  · exact absurd (by simpa using h0) hl
  subst hv
  have hx : (l.map fun s : Str => (⟨s.toArray⟩ : ByteArray)).map (·.data.toList) = l := by simp [List.map_map, Function.comp_def]
  have hf : ∀ m : List Str, (m.map eS).flatten = m.map Sv := fun m => by induction m with
    | nil => rfl
    | cons x m ih => simp [eS, ih]
  have h := Any.strings_Join Tryz.lays156 bld_extra b q c (l.map fun s : Str => (⟨s.toArray⟩ : ByteArray)) ⟨([sep] : Str).toArray⟩ w (fun j x hj => by
      rw [List.getElem?_map, Option.map_eq_some_iff] at hj
      obtain ⟨s, h1, h2⟩ := hj
      rw [hcell j (by rw [hf, List.length_map]; exact (List.getElem?_eq_some_iff.1 h1).1), hf, List.getElem?_map, h1, ← h2]; rfl)
    hlt (by rw [List.length_map]; omega) (by rw [List.length_map]; simpa using hc1) (by rw [hx]; exact Nat.le_trans hn (by decide))
  rw [List.length_map] at h ⊢
  refine Calls.mono h fun e w' hy => ?_
  obtain ⟨h1, h2⟩ := hy
  rw [hx] at h1
  exact ⟨_, h1, Ext.of_below h2, rfl⟩
def lnsUp (ps : List (Value × List OpD)) : List Str := (ps.map fun p => sThread :: p.2.map lineR).flatten
theorem lnsUp_step {ps : List (Value × List OpD)} {i : Nat} {p : Value × List OpD} (h : ps[i]? = some p) : lnsUp (ps.take (i + 1)) = lnsUp (ps.take i) ++ (sThread :: p.2.map lineR) := by
  unfold lnsUp; rw [List.take_add_one, h]; simp
theorem inner_step {B : List Str} {pt : List OpD} {j : Nat} {x : OpD} (hx : pt[j]? = some x) : (B ++ (pt.take (j + 1)).map lineR).map eS = (B ++ (pt.take j).map lineR).map eS ++ [[Sv (lineR x)]] := by rw [List.take_add_one, hx]; simp [eS]
theorem outer_step {C : List Str} {ps : List (Value × List OpD)} {i : Nat} {p : Value × List OpD} (h : ps[i]? = some p) : C ++ lnsUp (ps.take (i + 1)) = ((C ++ lnsUp (ps.take i)) ++ [sThread]) ++ p.2.map lineR := by rw [lnsUp_step h]; simp
theorem lnsUp_len (ps : List (Value × List OpD)) : (lnsUp ps).length = ps.length + (psOps ps).length := by
  unfold lnsUp psOps
  induction ps with
  | nil => rfl
  | cons p ps ih =>
    simp only [List.map_cons, List.flatten_cons, List.length_append, List.length_cons, List.length_map] at ih ⊢
    omega
abbrev l0 (s : ScD) : Str := [115, 117, 98, 115, 32] ++ Lib.itoa s.subs
abbrev l1 (s : ScD) : Str := [99, 97, 112, 32] ++ Lib.itoa s.cap
theorem text_lines {s : ScD} {ps : List (Value × List OpD)} (h : s.threads = ps.map (·.2)) : (cmdsOf s).map Cmd.text = ([l0 s, l1 s] ++ lnsUp ps) ++ (if s.picks = [] then [] else [picksL s.picks]) := by
  unfold cmdsOf lnsUp
  rw [h]
  simp only [List.map_append, List.map_cons, List.map_nil, List.map_flatten, List.map_map]
  congr 1
  · congr 1
    congr 1
    apply List.map_congr_left
    intro p _
    simp only [Function.comp_def, thrC, List.map_cons, List.map_map]
    congr 1
  · split <;> rfl
theorem join_nl : ∀ (l : List Str), l ≠ [] → Lib.join l [10] ++ [10] = (l.map (· ++ [10])).flatten
  | [], h => absurd rfl h
  | [a], _ => by rw [Lib.join_one]; simp
  | a :: b :: l, _ => by
    have ih := join_nl (b :: l) (by simp)
    have e : Lib.join (a :: b :: l) [10] = a ++ 10 :: Lib.join (b :: l) [10] := by rw [Lib.join_cons, Lib.join_cons]; simp [Lib.joinTail]
    rw [e, List.append_assoc, List.cons_append, ih]; simp
theorem join_len {B : Nat} : ∀ (l : List Str), (∀ a ∈ l, a.length ≤ B) → (Lib.join l [10]).length ≤ l.length * (B + 1)
  | [], _ => by simp [Lib.join, List.intercalate]
  | [a], h => by rw [Lib.join_one]; have := h a (by simp); simp; omega
  | a :: b :: l, h => by
    have ih := join_len (b :: l) (fun x hx => h x (List.mem_cons_of_mem _ hx))
    have e : Lib.join (a :: b :: l) [10] = a ++ 10 :: Lib.join (b :: l) [10] := by rw [Lib.join_cons, Lib.join_cons]; simp [Lib.joinTail]
    have h1 := h a (by simp)
    rw [e]
    simp only [List.length_append, List.length_cons, Nat.add_mul, Nat.one_mul] at ih ⊢
    omega
theorem textR_join {s : ScD} {ps : List (Value × List OpD)} (h : s.threads = ps.map (·.2)) : textR s = Lib.join (([l0 s, l1 s] ++ lnsUp ps) ++ (if s.picks = [] then [] else [picksL s.picks])) [10] ++ [10] := by
  rw [join_nl _ (by simp), ← text_lines h]
  unfold textR linesC
  rw [List.map_map]; rfl
def pkS (l : List Int) : Str := sPicks ++ (l.map fun p => 32 :: Lib.itoa p).flatten
theorem pkS_step {l : List Int} {i : Nat} {p : Int} (h : l[i]? = some p) : pkS (l.take (i + 1)) = pkS (l.take i) ++ ([32] ++ Lib.itoa p) := by
  unfold pkS; rw [List.take_add_one, h]; simp
theorem pkS_len : ∀ (l : List Int), (∀ p ∈ l, 0 ≤ p ∧ p ≤ 9999) → (pkS l).length ≤ 5 + 5 * l.length
  | [], _ => by simp [pkS]
  | p :: l, h => by
    have h1 := pkS_len l (fun x hx => h x (by simp [hx]))
    have h2 := h p (by simp)
    have h3 : (Lib.itoa p).length ≤ 4 := by rw [itoa_sub h2.1]; exact dec_len (by omega)
    unfold pkS at h1 ⊢
    simp only [List.map_cons, List.flatten_cons, List.length_append, List.length_cons] at h1 ⊢
    omega
theorem lines_le {s : ScD} {ps : List (Value × List OpD)} (hr : RightP s) (hs : SmallP s) (h : s.threads = ps.map (·.2)) : ∀ a ∈ ([l0 s, l1 s] ++ lnsUp ps) ++ (if s.picks = [] then [] else [picksL s.picks]), a.length ≤ 30000 := by
  intro a ha
  have hi0 := itoa_len (n := s.subs) ⟨by have := hr.s0; omega, by have := hr.s8; omega⟩
  have hi1 := itoa_len (n := s.cap) ⟨by have := hr.c1; omega, by have := hr.c16; omega⟩
  rcases List.mem_append.1 ha with ha | ha
  · rcases List.mem_append.1 ha with ha | ha
    · simp only [List.mem_cons, List.not_mem_nil, or_false] at ha
      rcases ha with rfl | rfl
      · simp only [List.length_append, List.length_cons, List.length_nil]; omega
      · simp only [List.length_append, List.length_cons, List.length_nil]; omega
    · unfold lnsUp at ha
      obtain ⟨q, hq, ha⟩ := List.mem_flatten.1 ha
      obtain ⟨p, hp, rfl⟩ := List.mem_map.1 hq
      rcases List.mem_cons.1 ha with rfl | ha
      · simp
      · obtain ⟨x, hx, rfl⟩ := List.mem_map.1 ha
        have hxo : x ∈ s.ops := by rw [sc_ops h]; exact psOps_mem hp hx
        have := lineR_len (hr.plain x hxo); have := hs.txt x hxo; omega
  · split at ha
    · cases ha
    · simp only [List.mem_singleton] at ha; subst ha
      have := pkS_len s.picks hr.pick
      have := hr.pk
      show (pkS s.picks).length ≤ 30000
      omega
theorem picks_if {s : ScD} (h : 0 < s.picks.length) : (if s.picks = [] then ([] : List Str) else [picksL s.picks]) = [picksL s.picks] := if_neg (fun e => by rw [e] at h; simp at h)
theorem picks_if0 {s : ScD} (h : ¬ 0 < s.picks.length) : (if s.picks = [] then ([] : List Str) else [picksL s.picks]) = [] := if_pos (List.length_eq_zero_iff.1 (by omega))
-- bellman/script.Text
set_option maxHeartbeats 3200000 in
theorem text_ok (w : World) (s : ScD) {cs : List Value} (hsc : ScM Non w cs s) (hs : SmallP s) (hTb : Tab w) : Fn Tryz.prog 24 #[.agg cs.toArray] w fun u w' => u = .tuple #[Sv (if rightR s = true then textR s else []), .int .i64 (if rightR s = true then 0 else 10)] := by
  obtain ⟨vT, vP, ps, rfl, hts, ⟨hT, hin⟩, hP⟩ := hsc
  have hso := sc_ops hts; have hsl := sc_len hts
  obtain ⟨aT, cT, rfl, hbgT⟩ := id hT.len
  obtain ⟨aP, cP, rfl, hbgP⟩ := id hP.len
  simp only [List.length_map] at hT hP hbgT hbgP ⊢
  have hbg2 : big = 9223372036854775807 := rfl
  have hG := hTb.gl (Nat.le_refl w.heap.size)
  have hs1 := hs.th; have hs2 := hs.ops; have hs3 := hs.pk
  have hbo : (psOps ps).length ≤ 100 := by rw [← hso]; exact hs2
  have hX := Ext.refl Non w
  refine fn_of_W (args := [_]) Tryz.func24 rfl (by kernel_rfl) rfl ?_
  refine W_seq ?_
  refine W_region ?_
  refine wl_boxS rfl ?_; intro b1 w1 hb1 hE1 hB1
  have hq1 : w.heap.size ≤ b1 := Nat.le_trans hX.size hb1
  have hl1 : Mine Non w b1 := .inr hq1
  replace hX := hX.tr hE1
  replace hTb := hTb.non hE1
  refine wl_val (rn_assign (by conv => lhs; whnf)) ?_
  refine wl_val (rn_assign (by conv => lhs; whnf)) ?_
  refine wl_nil ?_
  refine W_seq ?_
  refine W_seq ?_
  refine W_region ?_
  refine wl_val (rn_loadB s_72 rfl rfl hB1) ?_
  refine wl_call e_27 rfl (right_ok w1 s ⟨_, _, ps, rfl, hts, ⟨hT.ext hX (fun _ h => h), fun p hp => (hin p hp).ext hX (fun _ h => h)⟩, hP.ext hX (fun _ h => h)⟩ (by omega)) ?_; intro v15 w2 hE2 hR2
  replace hX := hX.tr hE2
  replace hB1 := hB1.ext hE2 id
  replace hTb := hTb.non hE2
  subst hR2
  refine wl_val (rn_not rfl) ?_
  refine wl_nil ?_
  refine W_cond rfl (fun hc0 => ?_) (fun hc0 => ?_)
  · have hr : ¬ rightR s = true := by simpa using hc0
    refine W_seq ?_
    refine W_region ?_
    refine wl_val (rn_assign (by conv => lhs; whnf)) ?_
    refine wl_val (rn_assign (by conv => lhs; whnf)) ?_
    refine wl_nil ?_
    refine W_ret ?_
    exact ⟨_, resR2 (res1_tmp rfl) (res1_tmp rfl), hX, by rw [if_neg hr, if_neg hr]; rfl⟩
  · have hr : rightR s = true := by simpa using hc0
    have hrp := (right_iff s).1 hr
    have hq0 := hrp.s0; have hq8 := hrp.s8; have hq1 := hrp.c1; have hq16 := hrp.c16
    have hi0 := itoa_len (n := s.subs) ⟨by omega, by omega⟩; have hi1 := itoa_len (n := s.cap) ⟨by omega, by omega⟩
    have hjl0 := join_len _ (lines_le hrp hs hts)
    have hll : (([l0 s, l1 s] ++ lnsUp ps) ++ (if s.picks = [] then [] else [picksL s.picks])).length ≤ 200 := by (have hpl : (if s.picks = [] then ([] : List Str) else [picksL s.picks]).length ≤ 1 := by split <;> simp); simp only [List.length_append, List.length_cons, List.length_nil, lnsUp_len]; omega
    have hjl : (Lib.join (([l0 s, l1 s] ++ lnsUp ps) ++ (if s.picks = [] then [] else [picksL s.picks])) [10]).length ≤ 100000000 := by have := Nat.mul_le_mul_right (30000 + 1) hll; omega
    refine W_skip ?_
    refine W_seq ?_
    refine W_drawX (fun j => false) mixed ?_; intro w3 hE3
    replace hX := hX.tr hE3
    replace hB1 := hB1.ext hE3 id
    replace hTb := hTb.non hE3
    have hS := Ext.refl Non w3
    refine wx_take 0 [1, 2, 3, 6, 7, 8, 9] _ _ rfl (by kernel_rfl) hS (yd_do fun A hA => rn_fieldAddr f_72_0 (by decide) rfl) ?_
    refine wx_take 1 [2, 3, 6, 7, 8, 9] _ _ rfl (by kernel_rfl) hS (yd_do fun A hA => rn_load1 p_3 rfl (hB1.ext hA id) rfl) ?_
    refine wx_take 4 [5, 6, 7, 8, 9] _ _ rfl (by kernel_rfl) hS (yd_do fun A hA => rn_fieldAddr f_72_1 (by decide) rfl) ?_
    refine wx_take 5 [6, 7, 8, 9] _ _ rfl (by kernel_rfl) hS (yd_do fun A hA => rn_load1 p_3 rfl (hB1.ext hA id) rfl) ?_
    refine wx_only 2 _ rfl (by kernel_rfl) ?_
    refine s1_do ?_
    refine wl_call e_50 rfl (itoa_ok w3 s.subs (by omega) (hTb.non hS)) ?_; intro v19 w4 hE4 hR4
    replace hS := hS.tr hE4
    subst hR4
    refine wl_nil ⟨fun _ => hS, ?_⟩
    refine wx_take 3 [8, 9] _ _ rfl (by kernel_rfl) hS (yd_do fun A hA => rn_sadd rfl rfl (by simp only [List.length_cons, List.length_nil]; omega)) ?_
    refine wx_only 6 _ rfl (by kernel_rfl) ?_
    refine s1_do ?_
    refine wl_call e_50 rfl (itoa_ok w4 s.cap (by omega) (hTb.non hS)) ?_; intro v23 w5 hE5 hR5
    replace hS := hS.tr hE5
    subst hR5
    refine wl_nil ⟨fun _ => hS, ?_⟩
    refine wx_take 7 [8, 9] _ _ rfl (by kernel_rfl) hS (yd_do fun A hA => rn_sadd rfl rfl (by simp only [List.length_cons, List.length_nil]; omega)) ?_
    refine wx_only 8 _ rfl (by kernel_rfl) ?_
    refine s1_do ?_
    refine wl_lit sl_22 (rows := [l0 s, l1 s].map eS) rfl (by decide) (by decide) rfl rfl (by intro r hr; obtain ⟨x, _, rfl⟩ := List.mem_map.1 hr; rfl) (by intro p hp; simp at hp; rcases hp with rfl | rfl <;> exact ⟨rfl, Nat.le_of_ble_eq_true rfl⟩) rfl ?_; intro v25 w6 b25 hb25 hE6 hO25
    have hO : OwO w6 v25 (some b25) 1 (([l0 s, l1 s] ++ lnsUp (ps.take 0)).map eS) := .inr ⟨b25, [], rfl, hO25⟩
    have ho : ∀ i, some b25 = some i → w.heap.size ≤ i := fun i h => by cases h; exact Nat.le_trans hX.size (Nat.le_trans hS.size hb25)
    have ho2 : ∀ i, some b25 = some i → b1 < i := fun i h => by cases h; exact Nat.lt_of_lt_of_le hB1.lt (Nat.le_trans hS.size hb25)
    replace hS := hS.tr hE6
    refine wl_nil ⟨fun _ => hS, ?_⟩
    refine wx_take 9 [] _ _ rfl (by kernel_rfl) hS (yd_do fun A hA => rn_assign (by conv => lhs; whnf)) ?_
    refine wx_done (by kernel_rfl) ?_ _
    replace hX := hX.tr hS
    replace hB1 := hB1.ext hS id
    replace hTb := hTb.non hS
    refine W_seq ?_
    refine W_seq ?_
    refine W_region ?_
    refine wl_val (rn_fieldAddr f_72_2 (by decide) rfl) ?_
    refine wl_val (rn_load1 p_70 rfl hB1 rfl) ?_
    refine wl_val (rn_len sl_70 rfl) ?_
    refine wl_val (rn_move (by conv => lhs; whnf)) ?_
    refine wl_nil ?_
    refine W_block ?_   -- block 0
    refine W_loopS (S := Nat × Value × Option Nat) [1, 4, 27, 28, 29] (fun ⟨i, vl, o⟩ => [.pointer (some ⟨b1, 0, none⟩), vl, .slice aT ps.length cT, .int .i64 (ps.length : Nat), .int .i64 (i : Nat)]) (fun ⟨i, vl, o⟩ A => (Ext Non w A) ∧ (IsBox A b1 [.int .i64 s.subs, .int .i64 s.cap, .slice aT ps.length cT, .slice aP s.picks.length cP]) ∧ (Mine Non w b1) ∧ (i ≤ ps.length ∧ OwO A vl o 1 (([l0 s, l1 s] ++ lnsUp (ps.take i)).map eS) ∧ (∀ i, o = some i → w.heap.size ≤ i) ∧ (∀ i, o = some i → b1 < i) ∧ Tab A)) (fun ⟨i, vl, o⟩ => ps.length - i) (0, _, some b25) ⟨rfl, rfl, rfl, rfl, rfl, trivial⟩ ⟨hX, hB1, hl1, ⟨Nat.zero_le _, hO, ho, ho2, hTb⟩⟩ ?_
    rintro τ0 ⟨i, vl, o⟩ A0 ⟨hX, hB1, hl1, hI0⟩
    obtain ⟨hil, hO, ho, ho2, hTb⟩ := hI0
    refine W_seq ?_
    refine W_region ?_
    refine wl_val (rn_lss rfl rfl) ?_
    refine wl_nil ?_
    refine W_seq ?_
    refine W_cond rfl (fun hc1 => ?_) (fun hc1 => ?_)
    · have hlt := of_decide_eq_true hc1; simp only [Int.ofNat_lt] at hlt
      obtain ⟨⟨pv, pt⟩, hi⟩ : ∃ p, ps[i]? = some p := ⟨_, List.getElem?_eq_getElem hlt⟩
      have hpm := List.mem_of_getElem? hi
      have hpt := hin _ hpm
      obtain ⟨ai, ci, hpv, hpb⟩ := id hpt.len
      simp only [List.length_map] at hpv hpb
      subst hpv
      simp only at hpt hpb
      obtain ⟨bT, oT, ea⟩ := hT.base (by intro e; have := congrArg List.length e; simp only [List.length_map, List.length_nil] at this; omega); subst ea
      have hpl := psOps_len hpm
      simp only at hpl
      have hul := psOps_le ps i
      have hst := lnsUp_step hi
      refine W_skip ?_
      refine W_seq ?_
      refine W_block ?_   -- block 1
      refine W_seq ?_
      refine W_region ?_
      refine wl_val (rn_indexAddr sl_70 rfl rfl (by omega)) ?_
      refine wl_val (rn_load p_78 rfl ((hT.ext hX (fun _ h => h)).at0 (map_at hi) rfl)) ?_
      refine wl_val (rn_assign (by conv => lhs; whnf)) ?_
      refine wl_nil ?_
      refine W_seq ?_
      refine W_region ?_
      refine wl_val (rn_move (by conv => lhs; whnf)) ?_
      have hb34 := trivial
      refine wl_lit1 (r := [Sv sThread]) sl_22 rfl rfl rfl rfl (by decide) ?_; intro v34 w7 b34 hb34 hE7 hO34
      replace hX := hX.tr hE7
      replace hB1 := hB1.ext hE7 id
      replace hO := hO.ext hE7 (fun _ _ h => h)
      replace hTb := hTb.non hE7
      have hblt := hB1.lt
      have hXo := hX
      refine wl_app sl_22 rfl rfl rfl hO (hO34.sl (M := Non) id) (fun r hr => by simp only [List.mem_singleton] at hr; subst hr; exact one1 rfl) (by simp only [List.length_map, List.length_append, List.length_cons, List.length_nil, lnsUp_len, List.length_take]; omega) (by simp only [List.length_map, List.length_append, List.length_cons, List.length_nil, lnsUp_len, List.length_take, big]; omega) ?_; intro v35 w8 o35 hE8 hO35 hf35
      replace hX := hX.mineO hE8 (fun i hi => .inr (ho i hi))
      replace hB1 := hB1.ext hE8 (fun e => by have := ho2 _ e; omega)
      replace hTb := hTb.ext hE8 (B := w.heap.size) (fun j hj => ho j hj) hG
      replace ho2 : ∀ i, o35 = some i → b1 < i := fun j hj => by rcases hf35 j hj with h | h; exact ho2 j h; exact Nat.lt_of_lt_of_le hblt h
      replace ho : ∀ i, o35 = some i → w.heap.size ≤ i := fun j hj => by rcases hf35 j hj with h | h; exact ho j h; exact Nat.le_trans hXo.size h
      replace hO := hO35
      refine wl_val (rn_assign (by conv => lhs; whnf)) ?_
      refine wl_nil ?_
      refine W_seq ?_
      refine W_region ?_
      refine wl_val (rn_move (by conv => lhs; whnf)) ?_
      refine wl_val (rn_len sl_78 rfl) ?_
      refine wl_val (rn_move (by conv => lhs; whnf)) ?_
      refine wl_nil ?_
      refine W_block ?_   -- block 2
      refine W_loopS (S := Nat × Value × Option Nat) [1, 4, 27, 28, 29, 36, 37, 38] (fun ⟨j, vl, o⟩ => [.pointer (some ⟨b1, 0, none⟩), vl, .slice (some ⟨bT, oT, none⟩) ps.length cT, .int .i64 (ps.length : Nat), .int .i64 (i : Nat), .slice ai pt.length ci, .int .i64 (pt.length : Nat), .int .i64 (j : Nat)]) (fun ⟨j, vl, o⟩ A => (Ext Non w A) ∧ (IsBox A b1 [.int .i64 s.subs, .int .i64 s.cap, .slice (some ⟨bT, oT, none⟩) ps.length cT, .slice aP s.picks.length cP]) ∧ (Mine Non w b1) ∧ (j ≤ pt.length ∧ OwO A vl o 1 (((([l0 s, l1 s] ++ lnsUp (ps.take i)) ++ [sThread]) ++ (pt.take j).map lineR).map eS) ∧ (∀ i, o = some i → w.heap.size ≤ i) ∧ (∀ i, o = some i → b1 < i) ∧ Tab A)) (fun ⟨j, vl, o⟩ => pt.length - j) (0, v35, o35) ⟨rfl, rfl, rfl, rfl, rfl, rfl, rfl, rfl, trivial⟩ ⟨hX, hB1, hl1, ⟨Nat.zero_le _, (by rw [List.take_zero, List.map_nil, List.append_nil, List.map_append]; exact hO), ho, ho2, hTb⟩⟩ ?_
      rintro τ1 ⟨j, vl, o⟩ A1 ⟨hX, hB1, hl1, hI1⟩
      obtain ⟨hjl2, hO, ho, ho2, hTb⟩ := hI1
      refine W_seq ?_
      refine W_region ?_
      refine wl_val (rn_lss rfl rfl) ?_
      refine wl_nil ?_
      refine W_seq ?_
      refine W_cond rfl (fun hc2 => ?_) (fun hc2 => ?_)
      · have hlt2 := of_decide_eq_true hc2; simp only [Int.ofNat_lt] at hlt2
        obtain ⟨x, hx⟩ : ∃ x, pt[j]? = some x := ⟨_, List.getElem?_eq_getElem hlt2⟩
        have hxo : x ∈ s.ops := by rw [hso]; exact psOps_mem hpm (List.mem_of_getElem? hx)
        have hxp := hrp.plain x hxo; have hxt := hs.txt x hxo
        obtain ⟨bi, oi, ea⟩ := hpt.base (by intro e; have := congrArg List.length e; simp only [List.length_map, List.length_nil] at this; omega); subst ea
        refine W_skip ?_
        refine W_seq ?_
        refine W_block ?_   -- block 3
        refine W_seq ?_
        refine W_region ?_
        refine wl_val (rn_indexAddr sl_78 rfl rfl (by omega)) ?_
        refine wl_val (rn_loadS s_69 rfl rfl ((hpt.ext hX (fun _ h => h)).all0 (map_at hx))) ?_
        refine wl_alloc z_69 ?_; intro b8 w9 hb8 hE9 hB8
        have hn1_8 : b1 < b8 := Nat.lt_of_lt_of_le hB1.lt hb8
        have hq8 : w.heap.size ≤ b8 := Nat.le_trans hX.size hb8
        have hl8 : Mine Non w b8 := .inr hq8
        have ho8n : ∀ i, o = some i → i ≠ b8 := fun i hi e => by have := hO.lt hi; omega
        replace hX := hX.tr hE9
        replace hB1 := hB1.ext hE9 id
        replace hO := hO.ext hE9 (fun _ _ h => h)
        replace hTb := hTb.non hE9
        have hBo := hB8
        refine wl_storeB s_69 rfl rfl rfl (OpD.one x) hB8 rfl ?_; intro w10 hE10 hB8 hz10
        replace hX := hX.mine hE10 hl8
        replace hB1 := hB1.ext hE10 (fun h => by omega)
        replace hO := hO.ext hE10 (fun i hi e => ho8n i hi e)
        replace hTb := hTb.ext hE10 (B := w.heap.size) (fun j hj => by subst hj; exact hq8) hG
        refine wl_nil ?_
        refine W_seq ?_
        refine W_region ?_
        refine wl_val (rn_loadB s_69 rfl rfl hB8) ?_
        refine wl_call e_51 rfl (line_ok w10 x (by omega) (by omega) hTb) ?_; intro v44 w11 hE11 hR11
        replace hX := hX.tr hE11
        replace hB1 := hB1.ext hE11 id; replace hB8 := hB8.ext hE11 id
        replace hO := hO.ext hE11 (fun _ _ h => h)
        replace hTb := hTb.non hE11
        subst hR11; rw [if_pos hxp, if_pos hxp]
        refine wl_val (rn_move (by conv => lhs; whnf)) ?_
        refine wl_val (rn_extract rfl rfl) ?_
        refine wl_val (rn_extract rfl rfl) ?_
        refine wl_val (rn_assign (by conv => lhs; whnf)) ?_
        refine wl_val (rn_assign (by conv => lhs; whnf)) ?_
        refine wl_nil ?_
        refine W_region ?_
        refine wl_val (rn_move (by conv => lhs; whnf)) ?_
        refine wl_val (rn_move (by conv => lhs; whnf)) ?_
        refine wl_lit1 (r := [Sv (lineR x)]) sl_22 rfl rfl rfl rfl (by decide) ?_; intro v49 w12 b49 hb49 hE12 hO49
        replace hX := hX.tr hE12
        replace hB1 := hB1.ext hE12 id; replace hB8 := hB8.ext hE12 id
        replace hO := hO.ext hE12 (fun _ _ h => h)
        replace hTb := hTb.non hE12
        have hblt := hB1.lt
        have hXo := hX
        refine wl_app sl_22 rfl rfl rfl hO (hO49.sl (M := Non) id) (fun r hr => by simp only [List.mem_singleton] at hr; subst hr; exact one1 rfl) (by simp only [List.length_map, List.length_append, List.length_cons, List.length_nil, lnsUp_len, List.length_take]; omega) (by simp only [List.length_map, List.length_append, List.length_cons, List.length_nil, lnsUp_len, List.length_take, big]; omega) ?_; intro v50 w13 o50 hE13 hO50 hf50
        replace hX := hX.mineO hE13 (fun i hi => .inr (ho i hi))
        replace hB1 := hB1.ext hE13 (fun e => by have := ho2 _ e; omega)
        replace hTb := hTb.ext hE13 (B := w.heap.size) (fun j hj => ho j hj) hG
        replace ho2 : ∀ i, o50 = some i → b1 < i := fun j hj => by rcases hf50 j hj with h | h; exact ho2 j h; exact Nat.lt_of_lt_of_le hblt h
        replace ho : ∀ i, o50 = some i → w.heap.size ≤ i := fun j hj => by rcases hf50 j hj with h | h; exact ho j h; exact Nat.le_trans hXo.size h
        replace hO := hO50
        refine wl_val (rn_assign (by conv => lhs; whnf)) ?_
        refine wl_nil ?_
        refine W_region ?_
        refine wl_val (rn_add rfl rfl (by omega)) ?_
        refine wl_val (rn_move (by conv => lhs; whnf)) ?_
        refine wl_nil ?_
        exact ⟨rfl, (j + 1, v50, o50), ⟨rfl, rfl, rfl, rfl, rfl, rfl, rfl, rfl, trivial⟩, ⟨hX, hB1, hl1, ⟨hlt2, (by rw [inner_step hx]; exact hO), ho, ho2, hTb⟩⟩, by show pt.length - (j + 1) < pt.length - j; omega⟩
      · have hge2 := of_decide_eq_false hc2; simp only [Int.ofNat_lt, Nat.not_lt] at hge2
        rw [List.take_of_length_le hge2] at hO
        refine W_exit ?_   -- exit 2
        refine W_region ?_
        refine wl_val (rn_add rfl rfl (by omega)) ?_
        refine wl_val (rn_move (by conv => lhs; whnf)) ?_
        refine wl_nil ?_
        exact ⟨rfl, (i + 1, vl, o), ⟨rfl, rfl, rfl, rfl, rfl, trivial⟩, ⟨hX, hB1, hl1, ⟨hlt, (by rw [outer_step hi]; exact hO), ho, ho2, hTb⟩⟩, by show ps.length - (i + 1) < ps.length - i; omega⟩
    · have hge := of_decide_eq_false hc1; simp only [Int.ofNat_lt, Nat.not_lt] at hge
      have hie : i = ps.length := by omega
      subst hie
      rw [List.take_length] at hO
      refine W_exit ?_   -- exit 0
      refine W_seq ?_
      refine W_seq ?_
      refine W_region ?_
      refine wl_val (rn_fieldAddr f_72_3 (by decide) rfl) ?_
      refine wl_val (rn_load1 p_23 rfl hB1 rfl) ?_
      refine wl_val (rn_len sl_23 rfl) ?_
      refine wl_val (rn_gtr rfl rfl) ?_
      refine wl_nil ?_
      refine W_cond rfl (fun hc3 => ?_) (fun hc3 => ?_)
      · have hpk : 0 < s.picks.length := by have := of_decide_eq_true hc3; omega
        have hjk := hjl; rw [picks_if hpk] at hjk
        obtain ⟨bP, oP, ea⟩ := hP.base (by intro e; have := congrArg List.length e; simp only [List.length_map, List.length_nil] at this; omega); subst ea
        refine W_seq ?_
        refine W_region ?_
        refine wl_val (rn_assign (by conv => lhs; whnf)) ?_
        refine wl_nil ?_
        refine W_seq ?_
        refine W_seq ?_
        refine W_region ?_
        refine wl_val (rn_fieldAddr f_72_3 (by decide) rfl) ?_
        refine wl_val (rn_load1 p_23 rfl hB1 rfl) ?_
        refine wl_val (rn_len sl_23 rfl) ?_
        refine wl_val (rn_move (by conv => lhs; whnf)) ?_
        refine wl_nil ?_
        refine W_block ?_   -- block 4
        refine W_loopS (S := Nat) [1, 4, 11, 58, 59, 60] (fun k => [.pointer (some ⟨b1, 0, none⟩), vl, Sv (pkS (s.picks.take k)), .slice (some ⟨bP, oP, none⟩) s.picks.length cP, .int .i64 (s.picks.length : Nat), .int .i64 (k : Nat)]) (fun k A => (Ext Non w A) ∧ (IsBox A b1 [.int .i64 s.subs, .int .i64 s.cap, .slice aT ps.length cT, .slice (some ⟨bP, oP, none⟩) s.picks.length cP]) ∧ (Mine Non w b1) ∧ (k ≤ s.picks.length ∧ OwO A vl o 1 (([l0 s, l1 s] ++ lnsUp ps).map eS) ∧ Tab A)) (fun k => s.picks.length - k) 0 ⟨rfl, rfl, rfl, rfl, rfl, rfl, trivial⟩ ⟨hX, hB1, hl1, ⟨Nat.zero_le _, hO, hTb⟩⟩ ?_
        rintro τ2 k A2 ⟨hX, hB1, hl1, hI2⟩
        obtain ⟨hkl, hO, hTb⟩ := hI2
        have hpsl := pkS_len (s.picks.take k) (fun p hp => hrp.pick p (List.mem_of_mem_take hp))
        rw [List.length_take] at hpsl
        refine W_seq ?_
        refine W_region ?_
        refine wl_val (rn_lss rfl rfl) ?_
        refine wl_nil ?_
        refine W_seq ?_
        refine W_cond rfl (fun hc4 => ?_) (fun hc4 => ?_)
        · have hlt4 := of_decide_eq_true hc4; simp only [Int.ofNat_lt] at hlt4
          obtain ⟨p, hp⟩ : ∃ p, s.picks[k]? = some p := ⟨_, List.getElem?_eq_getElem hlt4⟩
          have hpr := hrp.pick p (List.mem_of_getElem? hp)
          have hpil := itoa_len (n := p) ⟨by omega, by omega⟩
          refine W_skip ?_
          refine W_seq ?_
          refine W_block ?_   -- block 5
          refine W_seq ?_
          refine W_region ?_
          refine wl_val (rn_indexAddr sl_23 rfl rfl (by omega)) ?_
          refine wl_val (rn_load p_3 rfl ((hP.ext hX (fun _ h => h)).at0 (map_at hp) rfl)) ?_
          refine wl_val (rn_assign (by conv => lhs; whnf)) ?_
          refine wl_nil ?_
          refine W_region ?_
          refine wl_val (rn_move (by conv => lhs; whnf)) ?_
          refine wl_val (rn_move (by conv => lhs; whnf)) ?_
          refine wl_call e_50 rfl (itoa_ok A2 p (by omega) hTb) ?_; intro v66 w14 hE14 hR14
          replace hX := hX.tr hE14
          replace hB1 := hB1.ext hE14 id
          replace hO := hO.ext hE14 (fun _ _ h => h)
          replace hTb := hTb.non hE14
          subst hR14
          refine wl_val (rn_sadd rfl rfl (by simp only [List.length_cons, List.length_nil]; omega)) ?_
          refine wl_val (rn_sadd rfl rfl (by simp only [List.length_append, List.length_cons, List.length_nil]; omega)) ?_
          refine wl_val (rn_assign (by conv => lhs; whnf)) ?_
          refine wl_nil ?_
          refine W_region ?_
          refine wl_val (rn_add rfl rfl (by omega)) ?_
          refine wl_val (rn_move (by conv => lhs; whnf)) ?_
          refine wl_nil ?_
          
          exact ⟨rfl, k + 1, ⟨rfl, rfl, by rw [pkS_step hp]; rfl, rfl, rfl, rfl, trivial⟩, ⟨hX, hB1, hl1, ⟨hlt4, hO, hTb⟩⟩, by show s.picks.length - (k + 1) < s.picks.length - k; omega⟩
        · have hge4 := of_decide_eq_false hc4; simp only [Int.ofNat_lt, Nat.not_lt] at hge4
          rw [List.take_of_length_le hge4]
          refine W_exit ?_   -- exit 4
          refine W_region ?_
          refine wl_val (rn_move (by conv => lhs; whnf)) ?_
          refine wl_val (rn_move (by conv => lhs; whnf)) ?_
          refine wl_lit1 (r := [Sv (picksL s.picks)]) sl_22 rfl rfl rfl rfl (by decide) ?_; intro v72 w15 b72 hb72 hE15 hO72
          replace hX := hX.tr hE15
          replace hB1 := hB1.ext hE15 id
          replace hO := hO.ext hE15 (fun _ _ h => h)
          replace hTb := hTb.non hE15
          have hblt := hB1.lt
          have hXo := hX
          refine wl_app sl_22 rfl rfl rfl hO (hO72.sl (M := Non) id) (fun r hr => by simp only [List.mem_singleton] at hr; subst hr; exact one1 rfl) (by simp only [List.length_map, List.length_append, List.length_cons, List.length_nil, lnsUp_len, List.length_take]; omega) (by simp only [List.length_map, List.length_append, List.length_cons, List.length_nil, lnsUp_len, List.length_take, big]; omega) ?_; intro v73 w16 o73 hE16 hO73 hf73
          replace hX := hX.mineO hE16 (fun i hi => .inr (ho i hi))
          replace hB1 := hB1.ext hE16 (fun e => by have := ho2 _ e; omega)
          replace hTb := hTb.ext hE16 (B := w.heap.size) (fun j hj => ho j hj) hG
          replace ho2 : ∀ i, o73 = some i → b1 < i := fun j hj => by rcases hf73 j hj with h | h; exact ho2 j h; exact Nat.lt_of_lt_of_le hblt h
          replace ho : ∀ i, o73 = some i → w.heap.size ≤ i := fun j hj => by rcases hf73 j hj with h | h; exact ho j h; exact Nat.le_trans hXo.size h
          replace hO := hO73
          replace hO : OwO w16 v73 o73 1 ((([l0 s, l1 s] ++ lnsUp ps) ++ [picksL s.picks]).map eS) := by rw [List.map_append]; exact hO
          refine wl_val (rn_assign (by conv => lhs; whnf)) ?_
          refine wl_nil ?_
          refine W_seq ?_
          refine W_region ?_
          refine wl_val (rn_move (by conv => lhs; whnf)) ?_
          refine wl_call e_52 rfl (joinB_ok w16 10 (([l0 s, l1 s] ++ lnsUp ps) ++ [picksL s.picks]) (hO.sl (M := Non) (fun _ _ h => h)) (by simp) hjk (by simp only [List.length_append, List.length_cons, List.length_nil, lnsUp_len]; omega)) ?_; intro v75 w17 hE17 hR17
          replace hX := hX.tr hE17
          replace hB1 := hB1.ext hE17 id
          replace hO := hO.ext hE17 (fun _ _ h => h)
          replace hTb := hTb.non hE17
          subst hR17
          refine wl_val (rn_sadd rfl rfl (by simp only [List.length_cons, List.length_nil]; omega)) ?_
          refine wl_val (rn_assign (by conv => lhs; whnf)) ?_
          refine wl_val (rn_assign (by conv => lhs; whnf)) ?_
          refine wl_nil ?_
          refine W_ret ?_
          first | exact ⟨_, resR2 (res1_tmp rfl) (res1_tmp rfl), hX, by rw [if_pos hr, if_pos hr, textR_join hts, picks_if hpk]; rfl⟩ | exact ⟨_, resR2 (res1_tmp rfl) (res1_tmp rfl), hX, by rw [if_pos hr, if_pos hr, textR_join hts, picks_if0 hpk, List.append_nil]; rfl⟩
      · have hpk : ¬ 0 < s.picks.length := by have := of_decide_eq_false hc3; omega
        have hjk := hjl; rw [picks_if0 hpk, List.append_nil] at hjk
        refine W_skip ?_
        refine W_seq ?_
        refine W_region ?_
        refine wl_val (rn_move (by conv => lhs; whnf)) ?_
        refine wl_call e_52 rfl (joinB_ok A0 10 ([l0 s, l1 s] ++ lnsUp ps) (hO.sl (M := Non) (fun _ _ h => h)) (by simp) hjk (by simp only [List.length_append, List.length_cons, List.length_nil, lnsUp_len]; omega)) ?_; intro v75 w18 hE18 hR18
        replace hX := hX.tr hE18
        replace hB1 := hB1.ext hE18 id
        replace hO := hO.ext hE18 (fun _ _ h => h)
        replace hTb := hTb.non hE18
        subst hR18
        refine wl_val (rn_sadd rfl rfl (by simp only [List.length_cons, List.length_nil]; omega)) ?_
        refine wl_val (rn_assign (by conv => lhs; whnf)) ?_
        refine wl_val (rn_assign (by conv => lhs; whnf)) ?_
        refine wl_nil ?_
        refine W_ret ?_
        first | exact ⟨_, resR2 (res1_tmp rfl) (res1_tmp rfl), hX, by rw [if_pos hr, if_pos hr, textR_join hts, picks_if hpk]; rfl⟩ | exact ⟨_, resR2 (res1_tmp rfl) (res1_tmp rfl), hX, by rw [if_pos hr, if_pos hr, textR_join hts, picks_if0 hpk, List.append_nil]; rfl⟩
end Go.Proofs.YthcclgoidchkdaaGreatDoorC

/- A script's reader in memory. -/
set_option linter.unusedVariables false
set_option linter.unusedSimpArgs false
namespace Go.Proofs.YthcclgoidchkdaaGreatDoorC
open Go.RowKit
/-- The blocks that a reader writes. -/
def Dy (b : Nat) (oT oP oL : Option Nat) : Nat → Prop := fun i => i = b ∨ oT = some i ∨ oP = some i ∨ oL = some i
def rdB (r : ScS) (vT vP : Value) : List Value := [.int .i64 r.s.subs, .int .i64 r.s.cap, vT, vP, .int .i64 (r.at_ : Nat), .bool r.done]
/-- A reader in box b: its threads' list in block oT, its picks in oP, the last thread's operations in oL; X's blocks are another's. -/
structure RdP (X : Nat → Prop) (A : World) (b : Nat) (r : ScS) (vT vP : Value) (oT oP oL : Option Nat) (ini : List (Value × List OpD)) (lst : Option (Value × List OpD)) : Prop where
  box : IsBox A b (rdB r vT vP)
  thr : r.s.threads = (ini ++ lst.toList).map (·.2)
  own : OwO A vT oT 1 ((ini ++ lst.toList).map fun p => [p.1])
  pk : OwO A vP oP 1 (r.s.picks.map eI1)
  inn : ∀ p ∈ ini, Sl (fun i => X i ∨ Dy b oT oP oL i) A p.1 5 (p.2.map OpD.enc)
  lsl : ∀ p, lst = some p → OwO A p.1 oL 5 (p.2.map OpD.enc)
  lno : lst = none → ini = [] ∧ oL = none
  neT : ∀ j, oT = some j → j ≠ b ∧ oP ≠ some j ∧ oL ≠ some j
  neP : ∀ j, oP = some j → j ≠ b ∧ oL ≠ some j
  neL : ∀ j, oL = some j → j ≠ b
  nx : ∀ i, Dy b oT oP oL i → ¬ X i
/-- A reader behind a line. -/
def RdN (X : Nat → Prop) (B : World) (b : Nat) (r : ScS) (n : Nat) (D : Nat → Prop) : Prop := ∃ (vT vP : Value) (oT oP oL : Option Nat) (ini : List (Value × List OpD)) (lst : Option (Value × List OpD)), RdP X B b r vT vP oT oP oL ini lst ∧ ∀ i, Dy b oT oP oL i → D i ∨ n ≤ i
section
variable {X : Nat → Prop} {A : World} {b : Nat} {r : ScS} {vT vP : Value} {oT oP oL : Option Nat} {ini : List (Value × List OpD)} {lst : Option (Value × List OpD)}
theorem RdP.non (h : RdP X A b r vT vP oT oP oL ini lst) {B : World} (hE : Ext Non A B) : RdP X B b r vT vP oT oP oL ini lst :=
  ⟨h.box.ext hE id, h.thr, h.own.ext hE (fun _ _ h => h), h.pk.ext hE (fun _ _ h => h), fun p hp => (h.inn p hp).ext hE (fun _ h => h.elim), fun p hp => (h.lsl p hp).ext hE (fun _ _ h => h), h.lno, h.neT, h.neP, h.neL, h.nx⟩
/-- The box is written, the lists stay. -/
theorem RdP.setBox (h : RdP X A b r vT vP oT oP oL ini lst) {B : World} (hE : Ext (fun i => i = b) A B) {r' : ScS} (hB : IsBox B b (rdB r' vT vP)) (h1 : r'.s.threads = r.s.threads) (h2 : r'.s.picks = r.s.picks) : RdP X B b r' vT vP oT oP oL ini lst :=
  ⟨hB, by rw [h1]; exact h.thr, h.own.ext hE (fun i hi e => (h.neT i hi).1 e), by rw [h2]; exact h.pk.ext hE (fun i hi e => (h.neP i hi).1 e), fun p hp => (h.inn p hp).ext hE (fun i hi => .inr (.inl hi)), fun p hp => (h.lsl p hp).ext hE (fun i hi e => h.neL i hi e), h.lno, h.neT, h.neP, h.neL, h.nx⟩
theorem RdP.lt (h : RdP X A b r vT vP oT oP oL ini lst) : ∀ i, Dy b oT oP oL i → i < A.heap.size := by
  rintro i (rfl | hi | hi | hi)
  · exact h.box.lt
  · exact h.own.lt hi
  · exact h.pk.lt hi
  · cases hl : lst with
    | none => rw [(h.lno hl).2] at hi; cases hi
    | some p => exact (h.lsl p hl).lt hi
/-- The threads may be read. -/
theorem RdP.thrs (h : RdP X A b r vT vP oT oP oL ini lst) : Thr Non A vT (ini ++ lst.toList) := by
  refine ⟨h.own.sl (M := Non) (fun _ _ h => h), fun p hp => ?_⟩
  rcases List.mem_append.1 hp with hp | hp
  · exact (h.inn p hp).sub (fun i hi => hi.elim)
  · cases hl : lst with
    | none => rw [hl] at hp; cases hp
    | some q =>
      rw [hl] at hp
      simp only [Option.toList_some, List.mem_singleton] at hp
      subst hp
      exact (h.lsl _ hl).sl (M := Non) (fun _ _ h => h)
theorem RdP.scm (h : RdP X A b r vT vP oT oP oL ini lst) : ScM Non A [.int .i64 r.s.subs, .int .i64 r.s.cap, vT, vP] r.s := ⟨vT, vP, _, rfl, h.thr, h.thrs, h.pk.sl (M := Non) (fun _ _ h => h)⟩
/-- A thread more. -/
theorem RdP.thread (h : RdP X A b r vT vP oT oP oL ini lst) {B C : World} {vT' : Value} {oT' : Option Nat} (hXo : ∀ i, X i → i < A.heap.size) (hE : Ext (fun i => oT = some i) A B) (hO : OwO B vT' oT' 1 (((ini ++ lst.toList).map fun p => [p.1]) ++ [[.slice none 0 0]])) (hf : ∀ i, oT' = some i → oT = some i ∨ A.heap.size ≤ i)
    (hE2 : Ext (fun i => i = b) B C) {r' : ScS} (hB : IsBox C b (rdB r' vT' vP)) (h1 : r'.s.threads = r.s.threads ++ [[]]) (h2 : r'.s.picks = r.s.picks) :
    RdP X C b r' vT' vP oT' oP none (ini ++ lst.toList) (some (.slice none 0 0, [])) := by
  have hlt := h.lt
  have hTb : ∀ j, oT' = some j → j ≠ b := fun j hj e => by
    rcases hf j hj with q | q
    · exact (h.neT j q).1 e
    · have := hlt b (.inl rfl); omega
  have hTP : ∀ j, oT' = some j → oP ≠ some j := fun j hj e => by
    rcases hf j hj with q | q
    · exact (h.neT j q).2.1 e
    · have := hlt j (.inr (.inr (.inl e))); omega
  have hTL : ∀ j, oT' = some j → oL ≠ some j := fun j hj e => by
    rcases hf j hj with q | q
    · exact (h.neT j q).2.2 e
    · have := hlt j (.inr (.inr (.inr e))); omega
  have hnx : ∀ i, Dy b oT' oP none i → ¬ X i := by
    rintro i (hi | hi | hi | hi)
    · exact h.nx i (.inl hi)
    · rcases hf i hi with q | q
      · exact h.nx i (.inr (.inl q))
      · intro hx; have := hXo i hx; omega
    · exact h.nx i (.inr (.inr (.inl hi)))
    · cases hi
  refine ⟨hB, by rw [h1, h.thr]; simp, ?_, by rw [h2]; exact (h.pk.ext hE (fun i hi e => (h.neT i e).2.1 hi)).ext hE2 (fun i hi e => (h.neP i hi).1 e), ?_, ?_, fun hn => (by cases hn), ?_, ?_, fun j hj => (by cases hj), hnx⟩
  · have := hO.ext hE2 (fun i hi e => hTb i hi e)
    simpa using this
  · intro p hp
    rcases List.mem_append.1 hp with hp | hp
    · have q1 := ((h.inn p hp).ext hE (fun i hi => .inr (.inr (.inl hi)))).ext hE2 (fun i hi => .inr (.inl hi))
      have hsz := hE.size; have hsz2 := hE2.size
      -- its block was there ahead
      have q0 := ((h.inn p hp).sub (M' := fun i => (X i ∨ Dy b oT oP oL i) ∨ A.heap.size ≤ i) (fun i hi hlt => hi.elim id (fun h => by omega)))
      have q2 := (q0.ext hE (fun i hi => .inl (.inr (.inr (.inl hi))))).ext hE2 (fun i hi => .inl (.inr (.inl hi)))
      refine q2.sub (fun i hi _ => ?_)
      rcases hi with hi | hi | hi | hi | hi
      · exact .inl (.inl hi)
      · exact .inl (.inr (.inl hi))
      · rcases hf i hi with q | q
        · exact .inl (.inr (.inr (.inl q)))
        · exact .inr q
      · exact .inl (.inr (.inr (.inr (.inl hi))))
      · cases hi
    · cases hl : lst with
      | none => rw [hl] at hp; cases hp
      | some q =>
        rw [hl] at hp
        simp only [Option.toList_some, List.mem_singleton] at hp
        subst hp
        have q1 := ((h.lsl _ hl).ext hE (fun i hi e => (h.neT i e).2.2 hi)).ext hE2 (fun i hi e => h.neL i hi e)
        refine q1.sl (fun i hi hm => ?_)
        rcases hm with hm | hm | hm | hm | hm
        · exact h.nx i (.inr (.inr (.inr hi))) hm
        · exact h.neL i hi hm
        · exact hTL i hm hi
        · exact (h.neP i hm).2 hi
        · cases hm
  · intro p hp
    simp only [Option.some.injEq] at hp; subst hp
    exact OwO.nil
  · intro j hj; exact ⟨hTb j hj, hTP j hj, fun e => by cases e⟩
  · intro j hj; exact ⟨(h.neP j hj).1, fun e => by cases e⟩
/-- An operation more. -/
theorem RdP.op (h : RdP X A b r vT vP oT oP oL ini lst) {pv : Value} {pt : List OpD} (hl : lst = some (pv, pt)) {B C : World} {v' : Value} {oL' : Option Nat} {x : OpD} (hXo : ∀ i, X i → i < A.heap.size) (hE : Ext (fun i => oL = some i) A B) (hO : OwO B v' oL' 5 (pt.map OpD.enc ++ [x.enc])) (hf : ∀ i, oL' = some i → oL = some i ∨ A.heap.size ≤ i)
    (hE2 : Ext (fun i => oT = some i) B C) (hT : OwO C vT oT 1 ((ini.map fun p => [p.1]) ++ [[v']])) {r' : ScS} (hr : rdB r' vT vP = rdB r vT vP) (h1 : r'.s.threads = ini.map (·.2) ++ [pt ++ [x]]) (h2 : r'.s.picks = r.s.picks) :
    RdP X C b r' vT vP oT oP oL' ini (some (v', pt ++ [x])) := by
  have hlt := h.lt
  have hsz := hE.size; have hsz2 := hE2.size
  have hLb : ∀ j, oL' = some j → j ≠ b := fun j hj e => by
    rcases hf j hj with q | q
    · exact h.neL j q e
    · have := hlt b (.inl rfl); omega
  have hLP : ∀ j, oP = some j → oL' ≠ some j := fun j hj e => by
    rcases hf j e with q | q
    · exact (h.neP j hj).2 q
    · have := hlt j (.inr (.inr (.inl hj))); omega
  have hLT : ∀ j, oT = some j → oL' ≠ some j := fun j hj e => by
    rcases hf j e with q | q
    · exact (h.neT j hj).2.2 q
    · have := hlt j (.inr (.inl hj)); omega
  refine ⟨by rw [hr]; exact (h.box.ext hE (fun e => h.neL b e rfl)).ext hE2 (fun e => (h.neT b e).1 rfl), by rw [h1]; simp, by simpa using hT, by rw [h2]; exact (h.pk.ext hE (fun i hi e => (h.neP i hi).2 e)).ext hE2 (fun i hi e => (h.neT i e).2.1 hi), ?_, ?_, fun hn => (by cases hn), ?_, ?_, hLb, ?_⟩
  · intro p hp
    have q0 := ((h.inn p hp).sub (M' := fun i => (X i ∨ Dy b oT oP oL i) ∨ A.heap.size ≤ i) (fun i hi hlt => hi.elim id (fun h => by omega)))
    have q2 := (q0.ext hE (fun i hi => .inl (.inr (.inr (.inr (.inr hi)))))).ext hE2 (fun i hi => .inl (.inr (.inr (.inl hi))))
    refine q2.sub (fun i hi _ => ?_)
    rcases hi with hi | hi | hi | hi | hi
    · exact .inl (.inl hi)
    · exact .inl (.inr (.inl hi))
    · exact .inl (.inr (.inr (.inl hi)))
    · exact .inl (.inr (.inr (.inr (.inl hi))))
    · rcases hf i hi with q | q
      · exact .inl (.inr (.inr (.inr (.inr q))))
      · exact .inr q
  · intro p hp
    simp only [Option.some.injEq] at hp; subst hp
    have := hO.ext hE2 (fun i hi e => hLT i e hi)
    simpa using this
  · intro j hj; exact ⟨(h.neT j hj).1, (h.neT j hj).2.1, hLT j hj⟩
  · intro j hj; exact ⟨(h.neP j hj).1, hLP j hj⟩
  · rintro i (hi | hi | hi | hi)
    · exact h.nx i (.inl hi)
    · exact h.nx i (.inr (.inl hi))
    · exact h.nx i (.inr (.inr (.inl hi)))
    · rcases hf i hi with q | q
      · exact h.nx i (.inr (.inr (.inr q)))
      · intro hx; have := hXo i hx; omega
/-- Picks more. -/
theorem RdP.picks (h : RdP X A b r vT vP oT oP oL ini lst) {B C : World} {vP' : Value} {oP' : Option Nat} {l : List Int} (hXo : ∀ i, X i → i < A.heap.size) (hE : Ext (fun i => oP = some i) A B) (hO : OwO B vP' oP' 1 (r.s.picks.map eI1 ++ l.map eI1)) (hf : ∀ i, oP' = some i → oP = some i ∨ A.heap.size ≤ i)
    (hE2 : Ext (fun i => i = b) B C) {r' : ScS} (hB : IsBox C b (rdB r' vT vP')) (h1 : r'.s.threads = r.s.threads) (h2 : r'.s.picks = r.s.picks ++ l) :
    RdP X C b r' vT vP' oT oP' oL ini lst := by
  have hlt := h.lt
  have hsz := hE.size; have hsz2 := hE2.size
  have hPb : ∀ j, oP' = some j → j ≠ b := fun j hj e => by
    rcases hf j hj with q | q
    · exact (h.neP j q).1 e
    · have := hlt b (.inl rfl); omega
  have hPL : ∀ j, oP' = some j → oL ≠ some j := fun j hj e => by
    rcases hf j hj with q | q
    · exact (h.neP j q).2 e
    · have := hlt j (.inr (.inr (.inr e))); omega
  have hPT : ∀ j, oT = some j → oP' ≠ some j := fun j hj e => by
    rcases hf j e with q | q
    · exact (h.neT j hj).2.1 q
    · have := hlt j (.inr (.inl hj)); omega
  refine ⟨hB, by rw [h1]; exact h.thr, (h.own.ext hE (fun i hi e => (h.neT i hi).2.1 e)).ext hE2 (fun i hi e => (h.neT i hi).1 e), ?_, ?_, fun p hp => ((h.lsl p hp).ext hE (fun i hi e => (h.neP i e).2 hi)).ext hE2 (fun i hi e => h.neL i hi e), h.lno, ?_, ?_, h.neL, ?_⟩
  · rw [h2, List.map_append]; exact hO.ext hE2 (fun i hi e => hPb i hi e)
  · intro p hp
    have q0 := ((h.inn p hp).sub (M' := fun i => (X i ∨ Dy b oT oP oL i) ∨ A.heap.size ≤ i) (fun i hi hlt => hi.elim id (fun h => by omega)))
    have q2 := (q0.ext hE (fun i hi => .inl (.inr (.inr (.inr (.inl hi)))))).ext hE2 (fun i hi => .inl (.inr (.inl hi)))
    refine q2.sub (fun i hi _ => ?_)
    rcases hi with hi | hi | hi | hi | hi
    · exact .inl (.inl hi)
    · exact .inl (.inr (.inl hi))
    · exact .inl (.inr (.inr (.inl hi)))
    · rcases hf i hi with q | q
      · exact .inl (.inr (.inr (.inr (.inl q))))
      · exact .inr q
    · exact .inl (.inr (.inr (.inr (.inr hi))))
  · intro j hj; exact ⟨(h.neT j hj).1, hPT j hj, (h.neT j hj).2.2⟩
  · intro j hj; exact ⟨hPb j hj, hPL j hj⟩
  · rintro i (hi | hi | hi | hi)
    · exact h.nx i (.inl hi)
    · exact h.nx i (.inr (.inl hi))
    · rcases hf i hi with q | q
      · exact h.nx i (.inr (.inr (.inl q)))
      · intro hx; have := hXo i hx; omega
    · exact h.nx i (.inr (.inr (.inr hi)))
end
end Go.Proofs.YthcclgoidchkdaaGreatDoorC

/- Answers read from texts: the program's. -/
set_option linter.unusedVariables false
set_option linter.unusedSimpArgs false
set_option maxRecDepth 100000
namespace Go.Proofs.YthcclgoidchkdaaGreatDoorC
open Go.RowKit
section
variable {P : Program} {σ : Env} {w : World} {dst : Option Nat} {ty : TypeId} {pos : String} {af : Array Edge} {g : Option (Nat × Bool)}
theorem rn_errE {t u : TypeId} {x : Operand} {e : Value} (ht : P.underlying t = some (.interface (P.methodsAt t))) (hx : ev σ x = e) (he : IsE e) : Rn P σ w ⟨dst, .binOp .eql t x (.const .nilIface) u, ty, pos, af, g⟩ (.bool (!(isErr e))) := by
  rcases he with rfl | ⟨s, z, rfl⟩
  · have h := run_eql_nil_nil (P := P) (w := w) t ht
    show (execOp (ev σ) _).run P w = _
    have h3 : (eqGuard .eql t x (.const .nilIface) .nilIface .nilIface).run P w = .ok () w := by cases x <;> rfl
    simp only [execOp, hx]
    rw [show ev σ (.const .nilIface) = .nilIface from rfl]
    rw [Sem.run_bind, Sem.run_bind, h3, Result.andThen_ok, h]; rfl
  · have h := run_eql_held_nil (P := P) (w := w) t s z ht
    show (execOp (ev σ) _).run P w = _
    have h3 : (eqGuard .eql t x (.const .nilIface) (.iface s z) .nilIface).run P w = .ok () w := by cases x <;> rfl
    simp only [execOp, hx]
    rw [show ev σ (.const .nilIface) = .nilIface from rfl]
    rw [Sem.run_bind, Sem.run_bind, h3, Result.andThen_ok, h]; rfl
end
end Go.Proofs.YthcclgoidchkdaaGreatDoorC

/- A script's lines: its head. -/
set_option linter.unusedVariables false
set_option linter.unusedSimpArgs false
set_option maxRecDepth 100000
namespace Go.Proofs.YthcclgoidchkdaaGreatDoorC
open Go.RowKit
theorem pre1_word {wd rest : Str} (h : ¬ (32 : UInt8) ∈ wd) : pre1 32 (wd ++ 32 :: rest) = wd := by
  unfold pre1
  induction wd with
  | nil => rfl
  | cons c wd ih =>
    simp only [List.mem_cons, not_or] at h
    rw [List.cons_append, List.takeWhile_cons, if_pos (by simpa using fun e => h.1 e.symm), ih h.2]
theorem fi_word {wd rest : Str} (h : ¬ (32 : UInt8) ∈ wd) : fi (wd ++ 32 :: rest) 32 = (wd.length : Int) := by
  unfold fi; rw [if_pos (by simp), pre1_word h]
-- bellman/script.number
theorem snumber_ok (w : World) (n lo hi : Int) (h0 : 0 ≤ n) (h9 : n ≤ 9999) (hl : lo ≤ n) (hh : n ≤ hi) (hTb : Tab w) (hR : ErrS w) : Fn Tryz.prog 153 #[Sv (Lib.itoa n), .int .i64 lo, .int .i64 hi] w fun u w' => u = .tuple #[.int .i64 n, .bool true] := by
  have hil := itoa_len (n := n) ⟨by omega, by omega⟩
  have hX := Ext.refl Non w
  refine fn_of_W (args := [_, _, _]) Tryz.func153 rfl (by kernel_rfl) rfl ?_
  refine W_seq ?_
  refine W_region ?_
  refine wl_val (rn_assign (by conv => lhs; whnf)) ?_
  refine wl_val (rn_assign (by conv => lhs; whnf)) ?_
  refine wl_nil ?_
  refine W_seq ?_
  refine W_region ?_
  refine wl_val (rn_move (by conv => lhs; whnf)) ?_
  refine wl_call e_205 rfl (atoi_ok w (Lib.itoa n) (by omega) hR) ?_; intro v12 w1 hE1 hR1
  replace hX := hX.tr hE1
  replace hTb := hTb.non hE1
  obtain ⟨n1, e, rfl, hA⟩ := hR1
  obtain ⟨rfl, rfl⟩ : e = .nilIface ∧ n = n1 := by rcases hA with ⟨h1, h2⟩ | ⟨_, h2⟩; rw [atoi_itoa ⟨by omega, by omega⟩] at h2; injection h2 with h2; exact ⟨h1, h2⟩; exact absurd (atoi_itoa (n := n) ⟨by omega, by omega⟩) (h2 n)
  refine wl_val (rn_move (by conv => lhs; whnf)) ?_
  refine wl_val (rn_extract rfl rfl) ?_
  refine wl_val (rn_extract rfl rfl) ?_
  refine wl_val (rn_assign (by conv => lhs; whnf)) ?_
  refine wl_val (rn_assign (by conv => lhs; whnf)) ?_
  refine wl_nil ?_
  refine W_seq ?_
  refine W_region ?_
  refine wl_val (rn_move (by conv => lhs; whnf)) ?_
  refine wl_val (rn_move (by conv => lhs; whnf)) ?_
  refine wl_val (rn_errE (by kernel_rfl) rfl (.inl rfl)) ?_
  refine wl_val (rn_move (by conv => lhs; whnf)) ?_
  refine wl_yes rfl rfl ?_
  refine wl_val (rn_move (by conv => lhs; whnf)) ?_
  refine wl_yes rfl rfl ?_
  refine wl_call e_50 rfl (itoa_ok w1 n (by omega) hTb) ?_; intro v20 w2 hE2 hR2
  replace hX := hX.tr hE2
  replace hTb := hTb.non hE2
  subst hR2
  refine wl_yes rfl rfl ?_
  refine wl_val (rn_move (by conv => lhs; whnf)) ?_
  refine wl_yes rfl rfl ?_
  refine wl_val (rn_seql rfl rfl) ?_
  refine wl_val (rn_pickT rfl (by conv => lhs; whnf)) ?_
  refine wl_val (rn_move (by conv => lhs; whnf)) ?_
  refine wl_split (d := 24) rfl (fun hg24 => ?_) (fun hg24 => ?_)
  · refine wl_yes rfl (congrArg Value.bool hg24) ?_
    refine wl_val (rn_move (by conv => lhs; whnf)) ?_
    refine wl_yes rfl (congrArg Value.bool hg24) ?_
    refine wl_val (rn_move (by conv => lhs; whnf)) ?_
    refine wl_yes rfl (congrArg Value.bool hg24) ?_
    refine wl_val (rn_geq rfl rfl) ?_
    refine wl_val (rn_pickT (congrArg Value.bool hg24) (by conv => lhs; whnf)) ?_
    refine wl_val (rn_move (by conv => lhs; whnf)) ?_
    refine wl_split (d := 29) rfl (fun hg29 => ?_) (fun hg29 => ?_)
    · refine wl_yes rfl (congrArg Value.bool hg29) ?_
      refine wl_val (rn_move (by conv => lhs; whnf)) ?_
      refine wl_yes rfl (congrArg Value.bool hg29) ?_
      refine wl_val (rn_move (by conv => lhs; whnf)) ?_
      refine wl_yes rfl (congrArg Value.bool hg29) ?_
      refine wl_val (rn_leq rfl rfl) ?_
      refine wl_val (rn_pickT (congrArg Value.bool hg29) (by conv => lhs; whnf)) ?_
      refine wl_val (rn_assign (by conv => lhs; whnf)) ?_
      refine wl_val (rn_assign (by conv => lhs; whnf)) ?_
      refine wl_nil ?_
      refine W_ret ?_
      exact ⟨_, resR2 (res1_tmp rfl) (res1_tmp rfl), hX, by rw [decide_eq_true hh] <;> rfl⟩
    · exact absurd (of_decide_eq_false hg29) (by omega)
  · exact absurd hg24 (by simp)
-- internal/stringslite.Cut
theorem lcutW_ok (w : World) (wd rest : Str) (hw : ¬ (32 : UInt8) ∈ wd) (hn : wd.length + rest.length ≤ 1000000) : Fn Tryz.prog 204 #[Sv (wd ++ 32 :: rest), Sv [32]] w fun u w' => u = .tuple #[Sv wd, Sv rest, .bool true] := by
  have hX := Ext.refl Non w
  refine fn_of_W (args := [_, _]) Tryz.func204 rfl (by kernel_rfl) rfl ?_
  refine W_seq ?_
  refine W_region ?_
  refine wl_val (rn_assign (by conv => lhs; whnf)) ?_
  refine wl_val (rn_assign (by conv => lhs; whnf)) ?_
  refine wl_val (rn_assign (by conv => lhs; whnf)) ?_
  refine wl_nil ?_
  refine W_seq ?_
  refine W_seq ?_
  refine W_region ?_
  refine wl_val (rn_move (by conv => lhs; whnf)) ?_
  refine wl_val (rn_move (by conv => lhs; whnf)) ?_
  refine wl_call e_201 rfl (index_ok w (wd ++ 32 :: rest) 32) ?_; intro v10 w1 hE1 hR1
  replace hX := hX.tr hE1
  subst hR1; rw [fi_word hw]
  refine wl_val (rn_assign (by conv => lhs; whnf)) ?_
  refine wl_nil ?_
  refine W_seq ?_
  refine W_region ?_
  refine wl_val (rn_move (by conv => lhs; whnf)) ?_
  refine wl_val (rn_geq rfl rfl) ?_
  refine wl_nil ?_
  refine W_cond rfl (fun hc0 => ?_) (fun hc0 => ?_)
  · refine W_seq ?_
    refine W_drawE mixed ?_; intro w2 hE2
    replace hX := hX.tr hE2
    have hS := Ext.refl Non w2
    refine wd_take 0 _ _ rfl (by kernel_rfl) hS (yd_do fun A hA => rn_move (by conv => lhs; whnf)) ?_
    refine wd_take 1 _ _ rfl (by kernel_rfl) hS (yd_do fun A hA => rn_move (by conv => lhs; whnf)) ?_
    refine wd_take 2 _ _ rfl (by kernel_rfl) hS (yd_do fun A hA => Rn.cast (rn_sslice us_9 (l := 0) (h := wd.length) rfl rfl ⟨_, rfl⟩ (by omega) (by simp)) (v' := Sv wd) (congrArg Sv (by simp))) ?_
    refine wd_take 3 _ _ rfl (by kernel_rfl) hS (yd_do fun A hA => rn_move (by conv => lhs; whnf)) ?_
    refine wd_take 4 _ _ rfl (by kernel_rfl) hS (yd_do fun A hA => rn_move (by conv => lhs; whnf)) ?_
    refine wd_take 5 _ _ rfl (by kernel_rfl) hS (yd_do fun A hA => rn_move (by conv => lhs; whnf)) ?_
    refine wd_take 6 _ _ rfl (by kernel_rfl) hS (yd_do fun A hA => rn_slen us_9 rfl) ?_
    refine wd_take 7 _ _ rfl (by kernel_rfl) hS (yd_do fun A hA => rn_add rfl rfl (by simp only [List.length_cons, List.length_nil]; omega)) ?_
    refine wd_take 8 _ _ rfl (by kernel_rfl) hS (yd_do fun A hA => Rn.cast (rn_sslice us_9 (l := wd.length + 1) (h := (wd ++ 32 :: rest).length) rfl ⟨_, rfl⟩ rfl (by simp) (Nat.le_refl _)) (v' := Sv rest) (congrArg Sv (by rw [List.drop_append, List.drop_of_length_le (Nat.le_succ _), List.nil_append, show wd.length + 1 - wd.length = 1 by omega, List.drop_succ_cons, List.drop_zero]; exact List.take_of_length_le (by simp only [List.length_append, List.length_cons]; omega)))) ?_
    refine wd_take 9 _ _ rfl (by kernel_rfl) hS (yd_do fun A hA => rn_assign (by conv => lhs; whnf)) ?_
    refine wd_take 10 _ _ rfl (by kernel_rfl) hS (yd_do fun A hA => rn_assign (by conv => lhs; whnf)) ?_
    refine wd_take 11 _ _ rfl (by kernel_rfl) hS (yd_do fun A hA => rn_assign (by conv => lhs; whnf)) ?_
    refine wd_done (by kernel_rfl) ?_ _
    replace hX := hX.tr hS
    refine W_ret ?_
    exact ⟨_, resR3 (res1_tmp rfl) (res1_tmp rfl) (res1_tmp rfl), hX, rfl⟩
  · exact absurd (of_decide_eq_false hc0) (by omega)
-- strings.Cut
theorem cutW_ok (w : World) (wd rest : Str) (hw : ¬ (32 : UInt8) ∈ wd) (hn : wd.length + rest.length ≤ 1000000) : Fn Tryz.prog 152 #[Sv (wd ++ 32 :: rest), Sv [32]] w fun u w' => u = .tuple #[Sv wd, Sv rest, .bool true] := by
  have hX := Ext.refl Non w
  refine fn_of_W (args := [_, _]) Tryz.func152 rfl (by kernel_rfl) rfl ?_
  refine W_seq ?_
  refine W_region ?_
  refine wl_val (rn_assign (by conv => lhs; whnf)) ?_
  refine wl_val (rn_assign (by conv => lhs; whnf)) ?_
  refine wl_val (rn_assign (by conv => lhs; whnf)) ?_
  refine wl_nil ?_
  refine W_seq ?_
  refine W_region ?_
  refine wl_val (rn_move (by conv => lhs; whnf)) ?_
  refine wl_val (rn_move (by conv => lhs; whnf)) ?_
  refine wl_call e_204 rfl (lcutW_ok w wd rest hw hn) ?_; intro v9 w1 hE1 hR1
  replace hX := hX.tr hE1
  subst hR1
  refine wl_val (rn_extract rfl rfl) ?_
  refine wl_val (rn_extract rfl rfl) ?_
  refine wl_val (rn_extract rfl rfl) ?_
  refine wl_val (rn_assign (by conv => lhs; whnf)) ?_
  refine wl_val (rn_assign (by conv => lhs; whnf)) ?_
  refine wl_val (rn_assign (by conv => lhs; whnf)) ?_
  refine wl_nil ?_
  refine W_ret ?_
  exact ⟨_, resR3 (res1_tmp rfl) (res1_tmp rfl) (res1_tmp rfl), hX, rfl⟩
-- bellman/script.head
theorem head_ok (w : World) (b0 k : Nat) (cs : List Value) (hB0 : IsBox w b0 cs) (hk : k < cs.length) (wd : Str) (n lo hi : Int) (hw : ¬ (32 : UInt8) ∈ wd) (hwl : wd.length ≤ 100) (h0 : 0 ≤ n) (h9 : n ≤ 9999) (hl : lo ≤ n) (hh : n ≤ hi) (hTb : Tab w) (hR : ErrS w) : FnM Tryz.prog (fun i => i = b0) 104 #[Sv (wd ++ 32 :: Lib.itoa n), Sv wd, .pointer (some ⟨b0, k, none⟩), .int .i64 lo, .int .i64 hi] w fun u w' => u = .int .i64 0 ∧ IsBox w' b0 (cs.set k (.int .i64 n)) := by
  have hl0 : Mine (fun i => i = b0) w b0 := .inl rfl
  have hil := itoa_len (n := n) ⟨by omega, by omega⟩
  have hX := Ext.refl (fun i => i = b0) w
  refine fnM_of_W (args := [_, _, _, _, _]) Tryz.func104 rfl (by kernel_rfl) rfl ?_
  refine W_seq ?_
  refine W_region ?_
  refine wl_val (rn_assign (by conv => lhs; whnf)) ?_
  refine wl_nil ?_
  refine W_seq ?_
  refine W_region ?_
  refine wl_val (rn_move (by conv => lhs; whnf)) ?_
  refine wl_call e_152 rfl (cutW_ok w wd (Lib.itoa n) hw (by omega)) ?_; intro v18 w1 hE1 hR1
  replace hX := hX.tr hE1
  replace hB0 := hB0.ext hE1 id
  subst hR1
  refine wl_val (rn_move (by conv => lhs; whnf)) ?_
  refine wl_val (rn_extract rfl rfl) ?_
  refine wl_val (rn_extract rfl rfl) ?_
  refine wl_val (rn_extract rfl rfl) ?_
  refine wl_val (rn_assign (by conv => lhs; whnf)) ?_
  refine wl_val (rn_assign (by conv => lhs; whnf)) ?_
  refine wl_val (rn_assign (by conv => lhs; whnf)) ?_
  refine wl_nil ?_
  refine W_seq ?_
  refine W_region ?_
  refine wl_val (rn_move (by conv => lhs; whnf)) ?_
  refine wl_val (rn_move (by conv => lhs; whnf)) ?_
  refine wl_val (rn_move (by conv => lhs; whnf)) ?_
  refine wl_call e_153 rfl (snumber_ok w1 n lo hi h0 h9 hl hh (hTb.non hE1) (hR.non hE1)) ?_; intro v26 w2 hE2 hR2
  replace hX := hX.tr hE2
  replace hB0 := hB0.ext hE2 id
  subst hR2
  refine wl_val (rn_move (by conv => lhs; whnf)) ?_
  refine wl_val (rn_extract rfl rfl) ?_
  refine wl_val (rn_extract rfl rfl) ?_
  refine wl_val (rn_assign (by conv => lhs; whnf)) ?_
  refine wl_val (rn_assign (by conv => lhs; whnf)) ?_
  refine wl_nil ?_
  refine W_seq ?_
  refine W_seq ?_
  refine W_region ?_
  refine wl_val (rn_move (by conv => lhs; whnf)) ?_
  refine wl_val (rn_move (by conv => lhs; whnf)) ?_
  refine wl_val (rn_sneq rfl rfl) ?_
  refine wl_val (rn_move (by conv => lhs; whnf)) ?_
  refine wl_split (d := 32) rfl (fun hg32 => ?_) (fun hg32 => ?_)
  · exact absurd hg32 (by simp)
  · refine wl_yes rfl (congrArg Value.bool hg32) ?_
    refine wl_val (rn_move (by conv => lhs; whnf)) ?_
    refine wl_yes rfl (congrArg Value.bool hg32) ?_
    refine wl_val (rn_not rfl) ?_
    refine wl_val (rn_pickF (congrArg Value.bool hg32) (by conv => lhs; whnf)) ?_
    refine wl_nil ?_
    refine W_cond rfl (fun hc0 => ?_) (fun hc0 => ?_)
    · exact absurd hc0 (by decide)
    · refine W_skip ?_
      refine W_seq ?_
      refine W_region ?_
      refine wl_val (rn_move (by conv => lhs; whnf)) ?_
      refine wl_val (rn_move (by conv => lhs; whnf)) ?_
      refine wl_val (rn_nilCheck rfl) ?_
      refine wl_store1 (b := b0) p_3 rfl rfl rfl rfl hB0 hk ?_; intro w3 hE3 hB0 hz3
      replace hX := hX.mine hE3 hl0
      refine wl_nil ?_
      refine W_seq ?_
      refine W_region ?_
      refine wl_val (rn_assign (by conv => lhs; whnf)) ?_
      refine wl_nil ?_
      refine W_ret ?_
      exact ⟨_, resR1 (res1_tmp rfl), hX, ⟨rfl, hB0⟩⟩
-- (*bellman/script.reader).line
theorem lineS_ok (w : World) (b0 : Nat) (r : ScS) (vT vP : Value) (hB0 : IsBox w b0 (rdB r vT vP)) (n : Int) (hc : (Cmd.subs n).ok r) (B : Nat) (hBb : B ≤ b0) (hG : ∃ g, Tryz.prog.globalNamed "internal/strconv.uint64pow10" = some g ∧ g < B) (h1B : errN < B) (hTb : Tab w) (hR : ErrS w) : FnM Tryz.prog (fun i => i = b0) 64 #[.pointer (some ⟨b0, 0, none⟩), Sv (sSubs ++ 32 :: Lib.itoa n)] w fun u w' => u = .int .i64 0 ∧ IsBox w' b0 (rdB ((Cmd.subs n).app r) vT vP) := by
  have hl0 : Mine (fun i => i = b0) w b0 := .inl rfl
  obtain ⟨hd, ha, hn0, hn8⟩ := hc
  have hil := itoa_len (n := n) ⟨by omega, by omega⟩
  have hX := Ext.refl (fun i => i = b0) w
  refine fnM_of_W (args := [_, _]) Tryz.func64 rfl (by kernel_rfl) rfl ?_
  refine W_seq ?_
  refine W_region ?_
  refine wl_val (rn_assign (by conv => lhs; whnf)) ?_
  refine wl_nil ?_
  refine W_seq ?_
  refine W_region ?_
  refine wl_val (rn_move (by conv => lhs; whnf)) ?_
  refine wl_val (rn_nilCheck rfl) ?_
  refine wl_val (rn_fieldAddr f_112_1 (by decide) rfl) ?_
  refine wl_val (rn_load1 p_3 rfl hB0 rfl) ?_
  refine wl_val (rn_add rfl rfl (by omega)) ?_
  refine wl_val (rn_nilCheck rfl) ?_
  refine wl_val (rn_fieldAddr f_112_1 (by decide) rfl) ?_
  have hBo := hB0
  refine wl_store1 (b := b0) p_3 rfl (by conv => lhs; whnf) rfl rfl hB0 (Nat.le_of_ble_eq_true rfl) ?_; intro w1 hE1 hB0 hz1
  replace hX := hX.mine hE1 hl0
  replace hTb := hTb.ext hE1 (B := B) (fun j hj => by subst hj; exact hBb) hG
  replace hR := hR.ext hE1 (B := B) (fun j hj => by subst hj; exact hBb) h1B
  refine wl_nil ?_
  refine W_seq ?_
  refine W_region ?_
  refine wl_val (rn_move (by conv => lhs; whnf)) ?_
  refine wl_call e_103 rfl (split_ok w1 (sSubs ++ 32 :: Lib.itoa n) (by simp only [List.length_append, List.length_cons, List.length_nil]; omega)) ?_; intro v14 w2 hE2 hR2
  replace hX := hX.tr hE2
  replace hB0 := hB0.ext hE2 id
  replace hTb := hTb.non hE2
  replace hR := hR.non hE2
  skip
  refine wl_val (rn_assign (by conv => lhs; whnf)) ?_
  refine wl_nil ?_
  refine W_seq ?_
  refine W_block ?_   -- block 0
  refine W_seq ?_
  refine W_region ?_
  refine wl_val (rn_move (by conv => lhs; whnf)) ?_
  refine wl_val (rn_nilCheck rfl) ?_
  refine wl_val (rn_fieldAddr f_112_2 (by decide) rfl) ?_
  refine wl_val (rn_load1 p_4 rfl hB0 rfl) ?_
  refine wl_val (rn_assign (by conv => lhs; whnf)) ?_
  refine wl_nil ?_
  refine W_cond rfl (fun hc0 => ?_) (fun hc0 => ?_)
  · exact absurd hc0 (by rw [hd]; decide)
  · refine W_seq ?_
    refine W_region ?_
    refine wl_val (rn_move (by conv => lhs; whnf)) ?_
    refine wl_val (rn_nilCheck rfl) ?_
    refine wl_val (rn_fieldAddr f_112_1 (by decide) rfl) ?_
    refine wl_val (rn_load1 p_3 rfl hB0 rfl) ?_
    refine wl_val (rn_eql rfl rfl) ?_
    refine wl_val (rn_assign (by conv => lhs; whnf)) ?_
    refine wl_nil ?_
    refine W_cond rfl (fun hc1 => ?_) (fun hc1 => ?_)
    · refine W_seq ?_
      refine W_region ?_
      refine wl_val (rn_move (by conv => lhs; whnf)) ?_
      refine wl_val (rn_move (by conv => lhs; whnf)) ?_
      refine wl_val (rn_nilCheck rfl) ?_
      refine wl_val (rn_fieldAddr f_112_0 (by decide) rfl) ?_
      refine wl_val (rn_fieldAddr f_72_0 (by decide) rfl) ?_
      refine wl_callM e_104 rfl (head_ok w2 b0 0 _ hB0 (Nat.le_of_ble_eq_true rfl) sSubs n 0 8 (by decide) (by decide) (by omega) (by omega) (by omega) (by omega) hTb hR) ?_; rintro v31 w3 hE3 ⟨rfl, hB0⟩
      replace hX := hX.mine hE3 hl0
      refine wl_val (rn_assign (by conv => lhs; whnf)) ?_
      refine wl_nil ?_
      refine W_ret ?_
      exact ⟨_, resR1 (res1_tmp rfl), hX, ⟨rfl, hB0⟩⟩
    · exact absurd (of_decide_eq_false hc1) (by omega)
-- (*bellman/script.reader).line
theorem lineC_ok (w : World) (b0 : Nat) (r : ScS) (vT vP : Value) (hB0 : IsBox w b0 (rdB r vT vP)) (n : Int) (hc : (Cmd.cap n).ok r) (B : Nat) (hBb : B ≤ b0) (hG : ∃ g, Tryz.prog.globalNamed "internal/strconv.uint64pow10" = some g ∧ g < B) (h1B : errN < B) (hTb : Tab w) (hR : ErrS w) : FnM Tryz.prog (fun i => i = b0) 64 #[.pointer (some ⟨b0, 0, none⟩), Sv (sCap ++ 32 :: Lib.itoa n)] w fun u w' => u = .int .i64 0 ∧ IsBox w' b0 (rdB ((Cmd.cap n).app r) vT vP) := by
  have hl0 : Mine (fun i => i = b0) w b0 := .inl rfl
  obtain ⟨hd, ha, hn0, hn8⟩ := hc
  have hil := itoa_len (n := n) ⟨by omega, by omega⟩
  have hX := Ext.refl (fun i => i = b0) w
  refine fnM_of_W (args := [_, _]) Tryz.func64 rfl (by kernel_rfl) rfl ?_
  refine W_seq ?_
  refine W_region ?_
  refine wl_val (rn_assign (by conv => lhs; whnf)) ?_
  refine wl_nil ?_
  refine W_seq ?_
  refine W_region ?_
  refine wl_val (rn_move (by conv => lhs; whnf)) ?_
  refine wl_val (rn_nilCheck rfl) ?_
  refine wl_val (rn_fieldAddr f_112_1 (by decide) rfl) ?_
  refine wl_val (rn_load1 p_3 rfl hB0 rfl) ?_
  refine wl_val (rn_add rfl rfl (by omega)) ?_
  refine wl_val (rn_nilCheck rfl) ?_
  refine wl_val (rn_fieldAddr f_112_1 (by decide) rfl) ?_
  have hBo := hB0
  refine wl_store1 (b := b0) p_3 rfl (by conv => lhs; whnf) rfl rfl hB0 (Nat.le_of_ble_eq_true rfl) ?_; intro w1 hE1 hB0 hz1
  replace hX := hX.mine hE1 hl0
  replace hTb := hTb.ext hE1 (B := B) (fun j hj => by subst hj; exact hBb) hG
  replace hR := hR.ext hE1 (B := B) (fun j hj => by subst hj; exact hBb) h1B
  refine wl_nil ?_
  refine W_seq ?_
  refine W_region ?_
  refine wl_val (rn_move (by conv => lhs; whnf)) ?_
  refine wl_call e_103 rfl (split_ok w1 (sCap ++ 32 :: Lib.itoa n) (by simp only [List.length_append, List.length_cons, List.length_nil]; omega)) ?_; intro v14 w2 hE2 hR2
  replace hX := hX.tr hE2
  replace hB0 := hB0.ext hE2 id
  replace hTb := hTb.non hE2
  replace hR := hR.non hE2
  skip
  refine wl_val (rn_assign (by conv => lhs; whnf)) ?_
  refine wl_nil ?_
  refine W_seq ?_
  refine W_block ?_   -- block 0
  refine W_seq ?_
  refine W_region ?_
  refine wl_val (rn_move (by conv => lhs; whnf)) ?_
  refine wl_val (rn_nilCheck rfl) ?_
  refine wl_val (rn_fieldAddr f_112_2 (by decide) rfl) ?_
  refine wl_val (rn_load1 p_4 rfl hB0 rfl) ?_
  refine wl_val (rn_assign (by conv => lhs; whnf)) ?_
  refine wl_nil ?_
  refine W_cond rfl (fun hc0 => ?_) (fun hc0 => ?_)
  · exact absurd hc0 (by rw [hd]; decide)
  · refine W_seq ?_
    refine W_region ?_
    refine wl_val (rn_move (by conv => lhs; whnf)) ?_
    refine wl_val (rn_nilCheck rfl) ?_
    refine wl_val (rn_fieldAddr f_112_1 (by decide) rfl) ?_
    refine wl_val (rn_load1 p_3 rfl hB0 rfl) ?_
    refine wl_val (rn_eql rfl rfl) ?_
    refine wl_val (rn_assign (by conv => lhs; whnf)) ?_
    refine wl_nil ?_
    refine W_cond rfl (fun hc1 => ?_) (fun hc1 => ?_)
    · exact absurd (of_decide_eq_true hc1) (by omega)
    · refine W_seq ?_
      refine W_region ?_
      refine wl_val (rn_move (by conv => lhs; whnf)) ?_
      refine wl_val (rn_nilCheck rfl) ?_
      refine wl_val (rn_fieldAddr f_112_1 (by decide) rfl) ?_
      refine wl_val (rn_load1 p_3 rfl hB0 rfl) ?_
      refine wl_val (rn_eql rfl rfl) ?_
      refine wl_val (rn_assign (by conv => lhs; whnf)) ?_
      refine wl_nil ?_
      refine W_cond rfl (fun hc2 => ?_) (fun hc2 => ?_)
      · refine W_seq ?_
        refine W_region ?_
        refine wl_val (rn_move (by conv => lhs; whnf)) ?_
        refine wl_val (rn_move (by conv => lhs; whnf)) ?_
        refine wl_val (rn_nilCheck rfl) ?_
        refine wl_val (rn_fieldAddr f_112_0 (by decide) rfl) ?_
        refine wl_val (rn_fieldAddr f_72_1 (by decide) rfl) ?_
        refine wl_callM e_104 rfl (head_ok w2 b0 1 _ hB0 (Nat.le_of_ble_eq_true rfl) sCap n 1 16 (by decide) (by decide) (by omega) (by omega) (by omega) (by omega) hTb hR) ?_; rintro v43 w3 hE3 ⟨rfl, hB0⟩
        replace hX := hX.mine hE3 hl0
        refine wl_val (rn_assign (by conv => lhs; whnf)) ?_
        refine wl_nil ?_
        refine W_ret ?_
        exact ⟨_, resR1 (res1_tmp rfl), hX, ⟨rfl, hB0⟩⟩
      · exact absurd (of_decide_eq_false hc2) (by omega)
end Go.Proofs.YthcclgoidchkdaaGreatDoorC

/- A drawn region's quiet operation taken first, beside others that are listed; of whatever program. -/
set_option linter.unusedVariables false
set_option linter.unusedSimpArgs false
namespace Go.Proofs.YthcclgoidchkdaaGreatDoorC
open Go.RowKit
variable {ro : Option Nat} {P : Program} {n : Nat} {Q : Post} {σ : Env} {D : List Deferred} {w : World} {S : World → Prop} {K : Ops} {ex : Nat → Bool}
/-- D's operations come behind number i; so do all that may leave S. -/
structure BehL (ops : List Oper) (ex : Nat → Bool) (i : Nat) (D : List Nat) (listed : Array Bool) : Prop where
  inc : ∀ j oj, ops[j]? = some oj → ex j = true → listed.getD j true = false → j ∈ D
  cls : ∀ j oj, ops[j]? = some oj → j ∈ D → ∃ e ∈ oj.after, Region.binds .any e = true ∧ (e.on = i ∨ e.on ∈ D)
  non : ∀ j, j ∈ D → listed.getD j true = false
theorem wx_firstL {ops : List Oper} {i : Nat} {oi : Oper} {v : Value} {DL : List Nat} (hi : ops[i]? = some oi) (hsel : Region.noSelect ops.toArray = true) : ∀ (f : Nat) (listed : Array Bool) (σ : Env) (w : World),
    BehL ops ex i DL listed →
    (∀ j oj, ops.toArray[j]? = some oj → j ≠ i → listed.getD j true = false → (∀ e ∈ oj.after, Region.binds .any e = true → e.on ≠ i) → oi.apart ops.toArray oj = true) →
    i ∈ Region.ready .any ops.toArray listed → Yd P ops S oi v σ → S w →
    wx P ops ex S K f (listed.setIfInBounds i true) (put σ oi.dst v) w → wx P ops ex S K (f + 1) listed σ w
  | 0, listed, σ, w, _, _, hr, hy, hS, H => by
    refine ⟨fun h => (by rw [h] at hr; cases hr), fun j hj o ho => ?_⟩
    by_cases hji : j = i
    · subst hji; rw [hi] at ho; cases ho; exact hy.step hS ⟨fun _ => hS, H⟩
    · have := ready_mono hj hji
      rw [H.1] at this; cases this
  | f + 1, listed, σ, w, hB, hfree, hr, hy, hS, H => by
    refine ⟨fun h => (by rw [h] at hr; cases hr), fun j hj oj hoj => ?_⟩
    by_cases hji : j = i
    · subst hji; rw [hi] at hoj; cases hoj; exact hy.step hS ⟨fun _ => hS, H⟩
    · have hoj' : ops.toArray[j]? = some oj := by simpa using hoj
      have h1 := H.2 j (ready_mono hj hji) oj hoj
      obtain ⟨hjun, oj', hoj2, hall⟩ := mem_ready.1 hj
      rw [hoj'] at hoj2; cases hoj2
      have lst : ∀ k, listed.getD k true = false → ∀ e ∈ oj.after, Region.binds .any e = true → e.on ≠ k := fun k h0 e he hb heq => by
        have h1 := hall e he hb
        rw [heq] at h1
        rcases Nat.lt_or_ge k listed.size with h' | h'
        · simp [h'] at h0 h1; rw [h0] at h1; cases h1
        · simp [Array.getElem?_eq_none h'] at h1
      have hnot : ∀ e ∈ oj.after, Region.binds .any e = true → e.on ≠ i := lst i (mem_ready.1 hr).1
      have hjD : ¬ j ∈ DL := fun hm => by
        obtain ⟨e, he, hb, h⟩ := hB.cls j oj hoj hm
        rcases h with h | h
        · exact hnot e he hb h
        · exact lst e.on (hB.non _ h) e he hb rfl
      have hex : ex j = false := by
        cases hx : ex j with
        | false => rfl
        | true => exact absurd (hB.inc j oj hoj hx hjun) hjD
      have h2 := step1_swap (hfree j oj hoj' hji hjun hnot) (fun cs b => Region.noSelect_spec hsel i oi cs b (by simpa using hi)) (fun cs b => Region.noSelect_spec hsel j oj cs b hoj') hy h1
      have hfree' : ∀ k ok, ops.toArray[k]? = some ok → k ≠ i → (listed.setIfInBounds j true).getD k true = false →
          (∀ e ∈ ok.after, Region.binds .any e = true → e.on ≠ i) → oi.apart ops.toArray ok = true := fun k ok hk hki hun hno => by
        refine hfree k ok hk hki ?_ hno
        by_cases hjk : j = k
        · subst hjk; exact hjun
        · rw [getD_set_ne true hjk] at hun; exact hun
      have hB' : BehL ops ex i DL (listed.setIfInBounds j true) := ⟨fun k ok hk hx hun => hB.inc k ok hk hx (by by_cases hjk : j = k; (subst hjk; exact hjun); (rw [getD_set_ne true hjk] at hun; exact hun)), hB.cls, fun k hk => by rw [getD_set_ne true (show j ≠ k from fun e => hjD (by rw [e]; exact hk))]; exact hB.non k hk⟩
      refine step1_mono (fun σ' w' h3 => ⟨h3.2.1, wx_firstL hi hsel f (listed.setIfInBounds j true) σ' w' hB' hfree' (ready_mono hr (Ne.symm hji)) h3.1 (h3.2.1 hex) ?_⟩) h2
      rw [Array.setIfInBounds_comm _ _ hji]
      exact h3.2.2
def behBL (ops : List Oper) (ex : Nat → Bool) (i : Nat) (D : List Nat) (listed : Array Bool) : Bool :=
  ((List.range ops.length).all fun j => (!ex j || D.contains j || listed.getD j true) && (!D.contains j || match ops[j]? with | some o => o.after.any (fun e => Region.binds .any e && (e.on == i || D.contains e.on)) | none => true)) && D.all fun j => listed.getD j true == false
theorem BehL.of {ops : List Oper} {i : Nat} {D : List Nat} {listed : Array Bool} (h : behBL ops ex i D listed = true) : BehL ops ex i D listed := by
  unfold behBL at h
  rw [Bool.and_eq_true, List.all_eq_true, List.all_eq_true] at h
  have key : ∀ j oj, ops[j]? = some oj → ((!ex j || D.contains j || listed.getD j true) && (!D.contains j || oj.after.any (fun e => Region.binds .any e && (e.on == i || D.contains e.on)))) = true := fun j oj hj => by
    have := h.1 j (List.mem_range.2 (List.getElem?_eq_some_iff.1 hj).1)
    rw [hj] at this; exact this
  refine ⟨fun j oj hj hx hun => ?_, fun j oj hj hm => ?_, fun j hj => by simpa using h.2 j hj⟩
  · have := key j oj hj
    rw [hx, hun] at this; simp at this; exact this.1
  · have := key j oj hj
    have hc : D.contains j = true := by simpa using hm
    rw [hc] at this
    simp only [Bool.and_eq_true, Bool.not_true, Bool.false_or] at this
    obtain ⟨k, hk, h2⟩ := Array.any_eq_true.1 this.2
    rw [Bool.and_eq_true, Bool.or_eq_true] at h2
    exact ⟨_, Array.getElem_mem hk, h2.1, h2.2.imp (fun h => by simpa using h) (fun h => by simpa using h)⟩
/-- Take number i first. 'side' is for the kernel to reckon. -/
theorem wx_takeL {ops : List Oper} {f : Nat} {listed : Array Bool} (i : Nat) (DL : List Nat) (oi : Oper) (v : Value) (hi : ops[i]? = some oi)
    (side : (Region.noSelect ops.toArray && Region.free .any ops.toArray listed i && (Region.ready .any ops.toArray listed).contains i && behBL ops ex i DL listed) = true)
    (hS : S w) (hy : Yd P ops S oi v σ) (h : wx P ops ex S K f (listed.setIfInBounds i true) (put σ oi.dst v) w) : wx P ops ex S K (f + 1) listed σ w := by
  simp only [Bool.and_eq_true] at side
  exact wx_firstL hi side.1.1.1 f listed σ w (BehL.of side.2) (Region.free_spec (by simpa using hi) side.1.1.2) (by simpa using side.1.2) hy hS h
end Go.Proofs.YthcclgoidchkdaaGreatDoorC
