/- A script's text and rightness: the document's. -/
import Derived.Test.YthcclgoidchkdaaGreatDoorBunZ10
import Derived.Test.YthcclgoidchkdaaGreatDoorBunZ2
import Derived.LaidMore
import Derived.Lay
import Derived.OpenShut
import Derived.Stop.Joined
import Derived.Test.YthcclgoidchkdaaGreatDoorBunZ5
import Derived.Test.YthcclgoidchkdaaGreatDoorRows
import Derived.Test.YthcclgoidchkdaaGreatDoorBunZ3
import Derived.Test.YthcclgoidchkdaaGreatDoorBunZ6
import Derived.LaidLaws
set_option linter.unusedVariables false
set_option linter.unusedSimpArgs false
set_option maxRecDepth 100000
namespace Go.Proofs.YthcclgoidchkdaaGreatDoorC
open Go.RowKit
/-- Lines, each with its end. -/
def TL (l : List Str) : Str := (l.map (· ++ [10])).flatten
theorem TL_app (a b : List Str) : TL (a ++ b) = TL a ++ TL b := by simp [TL]
theorem TL_one (a : Str) : TL [a] = a ++ [10] := by simp [TL]
theorem TL_len {B : Nat} : ∀ (l : List Str), (∀ a ∈ l, a.length ≤ B) → (TL l).length ≤ l.length * (B + 1)
  | [], _ => by simp [TL]
  | a :: l, h => by
    have ih := TL_len l (fun x hx => h x (List.mem_cons_of_mem _ hx))
    have h1 := h a (by simp)
    have e : TL (a :: l) = (a ++ [10]) ++ TL l := by simp [TL]
    rw [e]
    simp only [List.length_append, List.length_cons, List.length_nil, Nat.add_mul, Nat.one_mul] at ih ⊢
    omega
theorem textR_TL {s : ScD} {ps : List (Value × List OpD)} (h : s.threads = ps.map (·.2)) : textR s = TL ([l0 s, l1 s] ++ lnsUp ps) ++ TL (if s.picks = [] then [] else [picksL s.picks]) := by
  rw [← TL_app, ← text_lines h]
  unfold textR linesC TL
  rw [List.map_map]; rfl
/-- A round's line. -/
theorem TL_in {B : List Str} {pt : List OpD} {j : Nat} {x : OpD} (hx : pt[j]? = some x) : TL (B ++ (pt.take (j + 1)).map lineR) = (TL (B ++ (pt.take j).map lineR) ++ lineR x) ++ [10] := by
  rw [List.take_add_one, hx]
  simp only [Option.toList_some, List.map_append, List.map_cons, List.map_nil]
  rw [← List.append_assoc, TL_app, TL_one, List.append_assoc]
theorem lnsUp_app (a b : List (Value × List OpD)) : lnsUp (a ++ b) = lnsUp a ++ lnsUp b := by simp [lnsUp]
theorem TL_sub (C : List Str) (ps : List (Value × List OpD)) (i : Nat) : (TL (C ++ lnsUp (ps.take i))).length ≤ (TL (C ++ lnsUp ps)).length := by
  have e : C ++ lnsUp ps = (C ++ lnsUp (ps.take i)) ++ lnsUp (ps.drop i) := by rw [List.append_assoc, ← lnsUp_app, List.take_append_drop]
  rw [e, TL_app (C ++ lnsUp (ps.take i))]; simp only [List.length_append]; omega
theorem TL_sub2 (C : List Str) {ps : List (Value × List OpD)} {i : Nat} {p : Value × List OpD} (h : ps[i]? = some p) (j : Nat) : (TL (((C ++ lnsUp (ps.take i)) ++ [sThread]) ++ (p.2.take j).map lineR)).length ≤ (TL (C ++ lnsUp ps)).length := by
  refine Nat.le_trans ?_ (TL_sub C ps (i + 1))
  have e : C ++ lnsUp (ps.take (i + 1)) = (((C ++ lnsUp (ps.take i)) ++ [sThread]) ++ (p.2.take j).map lineR) ++ (p.2.drop j).map lineR := by rw [outer_step h, List.append_assoc (_ ++ [sThread]), ← List.map_append, List.take_append_drop]
  rw [e, TL_app (((C ++ lnsUp (ps.take i)) ++ [sThread]) ++ (p.2.take j).map lineR)]; simp only [List.length_append]; omega
theorem TL_full {s : ScD} {ps : List (Value × List OpD)} (hr : RightP s) (hs : SmallP s) (h : s.threads = ps.map (·.2)) : (TL ([l0 s, l1 s] ++ lnsUp ps)).length ≤ 6000000 := by
  have h1 := TL_len (B := 30000) ([l0 s, l1 s] ++ lnsUp ps) (fun a ha => lines_le hr hs h a (List.mem_append.2 (.inl ha)))
  have h2 : ([l0 s, l1 s] ++ lnsUp ps).length ≤ 110 := by
    simp only [List.length_append, List.length_cons, List.length_nil, lnsUp_len]
    have := hs.ops; have := hr.th; rw [sc_ops h] at *; have := sc_len h; omega
  have h3 := Nat.mul_le_mul_right (30000 + 1) h2
  omega
theorem numText {n : Int} (h : 0 ≤ n) : Lib.decDigits n.toNat = Lib.itoa n := (itoa_sub h).symm
theorem rtextI_ok (p : Int) (w : World) (h0 : 0 ≤ p) (h1 : p ≤ 1000000) : Fn Tryz.prog 53 #[.int .i64 p] w fun u w' => u = Sv (Lib.itoa p) := by
  obtain ⟨n, rfl⟩ : ∃ n : Nat, p = (n : Int) := ⟨p.toNat, by omega⟩
  rw [← numText h0]
  exact rtext_ok n w (by omega)
-- bellman/bellmanref20.Right
set_option maxHeartbeats 1600000 in
theorem rright_ok (w : World) (s : ScD) {cs : List Value} (hsc : ScM Non w cs s) (hn : s.ops.length ≤ 1000000) : Fn Tryz.prog 28 #[.agg cs.toArray] w fun u w' => u = .bool (rightR s) := by
  obtain ⟨vT, vP, ps, rfl, hts, ⟨hT, hin⟩, hP⟩ := hsc
  have hso := sc_ops hts; have hsl := sc_len hts
  obtain ⟨aT, cT, rfl, hbgT⟩ := id hT.len
  obtain ⟨aP, cP, rfl, hbgP⟩ := id hP.len
  simp only [List.length_map] at hT hP hbgT hbgP ⊢
  have hbg2 : big = 9223372036854775807 := rfl
  have hX := Ext.refl Non w
  refine fn_of_W (args := [_]) Tryz.func28 rfl (by kernel_rfl) rfl ?_
  refine W_seq ?_
  refine W_region ?_
  refine wl_boxS rfl ?_; intro b1 w1 hb1 hE1 hB1
  have hq1 : w.heap.size ≤ b1 := Nat.le_trans hX.size hb1
  have hl1 : Mine Non w b1 := .inr hq1
  replace hX := hX.tr hE1
  refine wl_val (rn_assign (by conv => lhs; whnf)) ?_
  refine wl_nil ?_
  refine W_seq ?_
  refine W_seq ?_
  refine W_region ?_
  refine wl_val (rn_fieldAddr f_72_0 (by decide) rfl) ?_
  refine wl_val (rn_load1 p_3 rfl hB1 rfl) ?_
  refine wl_val (rn_lss rfl rfl) ?_
  refine wl_val (rn_move (by conv => lhs; whnf)) ?_
  refine wl_split (d := 9) rfl (fun hg9 => ?_) (fun hg9 => ?_)
  · have q9 := of_decide_eq_true hg9
    refine wl_no rfl (congrArg Value.bool hg9) ?_
    refine wl_no rfl (congrArg Value.bool hg9) ?_
    refine wl_no rfl (congrArg Value.bool hg9) ?_
    refine wl_val (rn_pickT (congrArg Value.bool hg9) (by conv => lhs; whnf)) ?_
    refine wl_val (rn_move (by conv => lhs; whnf)) ?_
    refine wl_no rfl rfl ?_
    refine wl_no rfl rfl ?_
    refine wl_no rfl rfl ?_
    refine wl_val (rn_pickT rfl (by conv => lhs; whnf)) ?_
    refine wl_val (rn_move (by conv => lhs; whnf)) ?_
    refine wl_no rfl rfl ?_
    refine wl_no rfl rfl ?_
    refine wl_no rfl rfl ?_
    refine wl_val (rn_pickT rfl (by conv => lhs; whnf)) ?_
    refine wl_val (rn_move (by conv => lhs; whnf)) ?_
    refine wl_no rfl rfl ?_
    refine wl_no rfl rfl ?_
    refine wl_no rfl rfl ?_
    refine wl_no rfl rfl ?_
    refine wl_val (rn_pickT rfl (by conv => lhs; whnf)) ?_
    refine wl_val (rn_move (by conv => lhs; whnf)) ?_
    refine wl_no rfl rfl ?_
    refine wl_no rfl rfl ?_
    refine wl_no rfl rfl ?_
    refine wl_val (rn_pickT rfl (by conv => lhs; whnf)) ?_
    refine wl_val (rn_move (by conv => lhs; whnf)) ?_
    refine wl_no rfl rfl ?_
    refine wl_no rfl rfl ?_
    refine wl_no rfl rfl ?_
    refine wl_no rfl rfl ?_
    refine wl_val (rn_pickT rfl (by conv => lhs; whnf)) ?_
    refine wl_nil ?_
    refine W_condT rfl ?_
    refine W_seq ?_
    refine W_region ?_
    refine wl_val (rn_assign (by conv => lhs; whnf)) ?_
    refine wl_nil ?_
    refine W_ret ?_
    first | exact ⟨_, resR1 (res1_tmp rfl), hX, congrArg Value.bool (right_no (fun h => by have := h.s0; have := h.s8; have := h.c1; have := h.c16; have := h.th; have := h.pk; have := h.ops; omega)).symm⟩ | exact ⟨_, resR1 (res1_tmp rfl), hX, congrArg Value.bool (right_no (fun h => q3 (h.plain x hxo))).symm⟩ | exact ⟨_, resR1 (res1_tmp rfl), hX, congrArg Value.bool (right_no (fun h => by have := h.pick p (List.mem_of_getElem? hp); omega)).symm⟩ | exact ⟨_, resR1 (res1_tmp rfl), hX, congrArg Value.bool ((right_iff s).2 ⟨by omega, by omega, by omega, by omega, by omega, by omega, by omega, fun x hx => hal x (by rw [← hso]; exact hx), hpk⟩).symm⟩
  · have q9 := of_decide_eq_false hg9
    refine wl_yes rfl (congrArg Value.bool hg9) ?_
    refine wl_val (rn_fieldAddr f_72_0 (by decide) rfl) ?_
    refine wl_yes rfl (congrArg Value.bool hg9) ?_
    refine wl_val (rn_load1 p_3 rfl hB1 rfl) ?_
    refine wl_yes rfl (congrArg Value.bool hg9) ?_
    refine wl_val (rn_gtr rfl rfl) ?_
    refine wl_val (rn_pickF (congrArg Value.bool hg9) (by conv => lhs; whnf)) ?_
    refine wl_val (rn_move (by conv => lhs; whnf)) ?_
    refine wl_split (d := 14) rfl (fun hg14 => ?_) (fun hg14 => ?_)
    · have q14 := of_decide_eq_true hg14
      refine wl_no rfl (congrArg Value.bool hg14) ?_
      refine wl_no rfl (congrArg Value.bool hg14) ?_
      refine wl_no rfl (congrArg Value.bool hg14) ?_
      refine wl_val (rn_pickT (congrArg Value.bool hg14) (by conv => lhs; whnf)) ?_
      refine wl_val (rn_move (by conv => lhs; whnf)) ?_
      refine wl_no rfl rfl ?_
      refine wl_no rfl rfl ?_
      refine wl_no rfl rfl ?_
      refine wl_val (rn_pickT rfl (by conv => lhs; whnf)) ?_
      refine wl_val (rn_move (by conv => lhs; whnf)) ?_
      refine wl_no rfl rfl ?_
      refine wl_no rfl rfl ?_
      refine wl_no rfl rfl ?_
      refine wl_no rfl rfl ?_
      refine wl_val (rn_pickT rfl (by conv => lhs; whnf)) ?_
      refine wl_val (rn_move (by conv => lhs; whnf)) ?_
      refine wl_no rfl rfl ?_
      refine wl_no rfl rfl ?_
      refine wl_no rfl rfl ?_
      refine wl_val (rn_pickT rfl (by conv => lhs; whnf)) ?_
      refine wl_val (rn_move (by conv => lhs; whnf)) ?_
      refine wl_no rfl rfl ?_
      refine wl_no rfl rfl ?_
      refine wl_no rfl rfl ?_
      refine wl_no rfl rfl ?_
      refine wl_val (rn_pickT rfl (by conv => lhs; whnf)) ?_
      refine wl_nil ?_
      refine W_condT rfl ?_
      refine W_seq ?_
      refine W_region ?_
      refine wl_val (rn_assign (by conv => lhs; whnf)) ?_
      refine wl_nil ?_
      refine W_ret ?_
      first | exact ⟨_, resR1 (res1_tmp rfl), hX, congrArg Value.bool (right_no (fun h => by have := h.s0; have := h.s8; have := h.c1; have := h.c16; have := h.th; have := h.pk; have := h.ops; omega)).symm⟩ | exact ⟨_, resR1 (res1_tmp rfl), hX, congrArg Value.bool (right_no (fun h => q3 (h.plain x hxo))).symm⟩ | exact ⟨_, resR1 (res1_tmp rfl), hX, congrArg Value.bool (right_no (fun h => by have := h.pick p (List.mem_of_getElem? hp); omega)).symm⟩ | exact ⟨_, resR1 (res1_tmp rfl), hX, congrArg Value.bool ((right_iff s).2 ⟨by omega, by omega, by omega, by omega, by omega, by omega, by omega, fun x hx => hal x (by rw [← hso]; exact hx), hpk⟩).symm⟩
    · have q14 := of_decide_eq_false hg14
      refine wl_yes rfl (congrArg Value.bool hg14) ?_
      refine wl_val (rn_fieldAddr f_72_1 (by decide) rfl) ?_
      refine wl_yes rfl (congrArg Value.bool hg14) ?_
      refine wl_val (rn_load1 p_3 rfl hB1 rfl) ?_
      refine wl_yes rfl (congrArg Value.bool hg14) ?_
      refine wl_val (rn_lss rfl rfl) ?_
      refine wl_val (rn_pickF (congrArg Value.bool hg14) (by conv => lhs; whnf)) ?_
      refine wl_val (rn_move (by conv => lhs; whnf)) ?_
      refine wl_split (d := 19) rfl (fun hg19 => ?_) (fun hg19 => ?_)
      · have q19 := of_decide_eq_true hg19
        refine wl_no rfl (congrArg Value.bool hg19) ?_
        refine wl_no rfl (congrArg Value.bool hg19) ?_
        refine wl_no rfl (congrArg Value.bool hg19) ?_
        refine wl_val (rn_pickT (congrArg Value.bool hg19) (by conv => lhs; whnf)) ?_
        refine wl_val (rn_move (by conv => lhs; whnf)) ?_
        refine wl_no rfl rfl ?_
        refine wl_no rfl rfl ?_
        refine wl_no rfl rfl ?_
        refine wl_no rfl rfl ?_
        refine wl_val (rn_pickT rfl (by conv => lhs; whnf)) ?_
        refine wl_val (rn_move (by conv => lhs; whnf)) ?_
        refine wl_no rfl rfl ?_
        refine wl_no rfl rfl ?_
        refine wl_no rfl rfl ?_
        refine wl_val (rn_pickT rfl (by conv => lhs; whnf)) ?_
        refine wl_val (rn_move (by conv => lhs; whnf)) ?_
        refine wl_no rfl rfl ?_
        refine wl_no rfl rfl ?_
        refine wl_no rfl rfl ?_
        refine wl_no rfl rfl ?_
        refine wl_val (rn_pickT rfl (by conv => lhs; whnf)) ?_
        refine wl_nil ?_
        refine W_condT rfl ?_
        refine W_seq ?_
        refine W_region ?_
        refine wl_val (rn_assign (by conv => lhs; whnf)) ?_
        refine wl_nil ?_
        refine W_ret ?_
        first | exact ⟨_, resR1 (res1_tmp rfl), hX, congrArg Value.bool (right_no (fun h => by have := h.s0; have := h.s8; have := h.c1; have := h.c16; have := h.th; have := h.pk; have := h.ops; omega)).symm⟩ | exact ⟨_, resR1 (res1_tmp rfl), hX, congrArg Value.bool (right_no (fun h => q3 (h.plain x hxo))).symm⟩ | exact ⟨_, resR1 (res1_tmp rfl), hX, congrArg Value.bool (right_no (fun h => by have := h.pick p (List.mem_of_getElem? hp); omega)).symm⟩ | exact ⟨_, resR1 (res1_tmp rfl), hX, congrArg Value.bool ((right_iff s).2 ⟨by omega, by omega, by omega, by omega, by omega, by omega, by omega, fun x hx => hal x (by rw [← hso]; exact hx), hpk⟩).symm⟩
      · have q19 := of_decide_eq_false hg19
        refine wl_yes rfl (congrArg Value.bool hg19) ?_
        refine wl_val (rn_fieldAddr f_72_1 (by decide) rfl) ?_
        refine wl_yes rfl (congrArg Value.bool hg19) ?_
        refine wl_val (rn_load1 p_3 rfl hB1 rfl) ?_
        refine wl_yes rfl (congrArg Value.bool hg19) ?_
        refine wl_val (rn_gtr rfl rfl) ?_
        refine wl_val (rn_pickF (congrArg Value.bool hg19) (by conv => lhs; whnf)) ?_
        refine wl_val (rn_move (by conv => lhs; whnf)) ?_
        refine wl_split (d := 24) rfl (fun hg24 => ?_) (fun hg24 => ?_)
        · have q24 := of_decide_eq_true hg24
          refine wl_no rfl (congrArg Value.bool hg24) ?_
          refine wl_no rfl (congrArg Value.bool hg24) ?_
          refine wl_no rfl (congrArg Value.bool hg24) ?_
          refine wl_no rfl (congrArg Value.bool hg24) ?_
          refine wl_val (rn_pickT (congrArg Value.bool hg24) (by conv => lhs; whnf)) ?_
          refine wl_val (rn_move (by conv => lhs; whnf)) ?_
          refine wl_no rfl rfl ?_
          refine wl_no rfl rfl ?_
          refine wl_no rfl rfl ?_
          refine wl_val (rn_pickT rfl (by conv => lhs; whnf)) ?_
          refine wl_val (rn_move (by conv => lhs; whnf)) ?_
          refine wl_no rfl rfl ?_
          refine wl_no rfl rfl ?_
          refine wl_no rfl rfl ?_
          refine wl_no rfl rfl ?_
          refine wl_val (rn_pickT rfl (by conv => lhs; whnf)) ?_
          refine wl_nil ?_
          refine W_condT rfl ?_
          refine W_seq ?_
          refine W_region ?_
          refine wl_val (rn_assign (by conv => lhs; whnf)) ?_
          refine wl_nil ?_
          refine W_ret ?_
          first | exact ⟨_, resR1 (res1_tmp rfl), hX, congrArg Value.bool (right_no (fun h => by have := h.s0; have := h.s8; have := h.c1; have := h.c16; have := h.th; have := h.pk; have := h.ops; omega)).symm⟩ | exact ⟨_, resR1 (res1_tmp rfl), hX, congrArg Value.bool (right_no (fun h => q3 (h.plain x hxo))).symm⟩ | exact ⟨_, resR1 (res1_tmp rfl), hX, congrArg Value.bool (right_no (fun h => by have := h.pick p (List.mem_of_getElem? hp); omega)).symm⟩ | exact ⟨_, resR1 (res1_tmp rfl), hX, congrArg Value.bool ((right_iff s).2 ⟨by omega, by omega, by omega, by omega, by omega, by omega, by omega, fun x hx => hal x (by rw [← hso]; exact hx), hpk⟩).symm⟩
        · have q24 := of_decide_eq_false hg24
          refine wl_yes rfl (congrArg Value.bool hg24) ?_
          refine wl_val (rn_fieldAddr f_72_2 (by decide) rfl) ?_
          refine wl_yes rfl (congrArg Value.bool hg24) ?_
          refine wl_val (rn_load1 p_70 rfl hB1 rfl) ?_
          refine wl_yes rfl (congrArg Value.bool hg24) ?_
          refine wl_val (rn_len sl_70 rfl) ?_
          refine wl_yes rfl (congrArg Value.bool hg24) ?_
          refine wl_val (rn_gtr rfl rfl) ?_
          refine wl_val (rn_pickF (congrArg Value.bool hg24) (by conv => lhs; whnf)) ?_
          refine wl_val (rn_move (by conv => lhs; whnf)) ?_
          refine wl_split (d := 30) rfl (fun hg30 => ?_) (fun hg30 => ?_)
          · have q30 := of_decide_eq_true hg30
            refine wl_no rfl (congrArg Value.bool hg30) ?_
            refine wl_no rfl (congrArg Value.bool hg30) ?_
            refine wl_no rfl (congrArg Value.bool hg30) ?_
            refine wl_val (rn_pickT (congrArg Value.bool hg30) (by conv => lhs; whnf)) ?_
            refine wl_val (rn_move (by conv => lhs; whnf)) ?_
            refine wl_no rfl rfl ?_
            refine wl_no rfl rfl ?_
            refine wl_no rfl rfl ?_
            refine wl_no rfl rfl ?_
            refine wl_val (rn_pickT rfl (by conv => lhs; whnf)) ?_
            refine wl_nil ?_
            refine W_condT rfl ?_
            refine W_seq ?_
            refine W_region ?_
            refine wl_val (rn_assign (by conv => lhs; whnf)) ?_
            refine wl_nil ?_
            refine W_ret ?_
            first | exact ⟨_, resR1 (res1_tmp rfl), hX, congrArg Value.bool (right_no (fun h => by have := h.s0; have := h.s8; have := h.c1; have := h.c16; have := h.th; have := h.pk; have := h.ops; omega)).symm⟩ | exact ⟨_, resR1 (res1_tmp rfl), hX, congrArg Value.bool (right_no (fun h => q3 (h.plain x hxo))).symm⟩ | exact ⟨_, resR1 (res1_tmp rfl), hX, congrArg Value.bool (right_no (fun h => by have := h.pick p (List.mem_of_getElem? hp); omega)).symm⟩ | exact ⟨_, resR1 (res1_tmp rfl), hX, congrArg Value.bool ((right_iff s).2 ⟨by omega, by omega, by omega, by omega, by omega, by omega, by omega, fun x hx => hal x (by rw [← hso]; exact hx), hpk⟩).symm⟩
          · have q30 := of_decide_eq_false hg30
            refine wl_yes rfl (congrArg Value.bool hg30) ?_
            refine wl_val (rn_loadB s_72 rfl rfl hB1) ?_
            refine wl_yes rfl (congrArg Value.bool hg30) ?_
            refine wl_call e_29 rfl (count_ok w1 s ⟨_, _, ps, rfl, hts, ⟨hT.ext hX (fun _ h => h), fun p hp => (hin p hp).ext hX (fun _ h => h)⟩, hP.ext hX (fun _ h => h)⟩ (by omega) (by omega)) ?_; intro v32 w2 hE2 hR2
            replace hX := hX.tr hE2
            replace hB1 := hB1.ext hE2 id
            subst hR2
            refine wl_yes rfl (congrArg Value.bool hg30) ?_
            refine wl_val (rn_gtr rfl rfl) ?_
            refine wl_val (rn_pickF (congrArg Value.bool hg30) (by conv => lhs; whnf)) ?_
            refine wl_val (rn_move (by conv => lhs; whnf)) ?_
            refine wl_split (d := 35) rfl (fun hg35 => ?_) (fun hg35 => ?_)
            · have q35 := of_decide_eq_true hg35
              refine wl_no rfl (congrArg Value.bool hg35) ?_
              refine wl_no rfl (congrArg Value.bool hg35) ?_
              refine wl_no rfl (congrArg Value.bool hg35) ?_
              refine wl_no rfl (congrArg Value.bool hg35) ?_
              refine wl_val (rn_pickT (congrArg Value.bool hg35) (by conv => lhs; whnf)) ?_
              refine wl_nil ?_
              refine W_condT rfl ?_
              refine W_seq ?_
              refine W_region ?_
              refine wl_val (rn_assign (by conv => lhs; whnf)) ?_
              refine wl_nil ?_
              refine W_ret ?_
              first | exact ⟨_, resR1 (res1_tmp rfl), hX, congrArg Value.bool (right_no (fun h => by have := h.s0; have := h.s8; have := h.c1; have := h.c16; have := h.th; have := h.pk; have := h.ops; omega)).symm⟩ | exact ⟨_, resR1 (res1_tmp rfl), hX, congrArg Value.bool (right_no (fun h => q3 (h.plain x hxo))).symm⟩ | exact ⟨_, resR1 (res1_tmp rfl), hX, congrArg Value.bool (right_no (fun h => by have := h.pick p (List.mem_of_getElem? hp); omega)).symm⟩ | exact ⟨_, resR1 (res1_tmp rfl), hX, congrArg Value.bool ((right_iff s).2 ⟨by omega, by omega, by omega, by omega, by omega, by omega, by omega, fun x hx => hal x (by rw [← hso]; exact hx), hpk⟩).symm⟩
            · have q35 := of_decide_eq_false hg35
              refine wl_yes rfl (congrArg Value.bool hg35) ?_
              refine wl_val (rn_fieldAddr f_72_3 (by decide) rfl) ?_
              refine wl_yes rfl (congrArg Value.bool hg35) ?_
              refine wl_val (rn_load1 p_23 rfl hB1 rfl) ?_
              refine wl_yes rfl (congrArg Value.bool hg35) ?_
              refine wl_val (rn_len sl_23 rfl) ?_
              refine wl_yes rfl (congrArg Value.bool hg35) ?_
              refine wl_val (rn_gtr rfl rfl) ?_
              refine wl_val (rn_pickF (congrArg Value.bool hg35) (by conv => lhs; whnf)) ?_
              refine wl_nil ?_
              refine W_cond rfl (fun hc0 => ?_) (fun hc0 => ?_)
              · have q0 := of_decide_eq_true hc0
                refine W_seq ?_
                refine W_region ?_
                refine wl_val (rn_assign (by conv => lhs; whnf)) ?_
                refine wl_nil ?_
                refine W_ret ?_
                first | exact ⟨_, resR1 (res1_tmp rfl), hX, congrArg Value.bool (right_no (fun h => by have := h.s0; have := h.s8; have := h.c1; have := h.c16; have := h.th; have := h.pk; have := h.ops; omega)).symm⟩ | exact ⟨_, resR1 (res1_tmp rfl), hX, congrArg Value.bool (right_no (fun h => q3 (h.plain x hxo))).symm⟩ | exact ⟨_, resR1 (res1_tmp rfl), hX, congrArg Value.bool (right_no (fun h => by have := h.pick p (List.mem_of_getElem? hp); omega)).symm⟩ | exact ⟨_, resR1 (res1_tmp rfl), hX, congrArg Value.bool ((right_iff s).2 ⟨by omega, by omega, by omega, by omega, by omega, by omega, by omega, fun x hx => hal x (by rw [← hso]; exact hx), hpk⟩).symm⟩
              · have q0 := of_decide_eq_false hc0
                refine W_skip ?_
                refine W_seq ?_
                refine W_seq ?_
                refine W_region ?_
                refine wl_val (rn_assign (by conv => lhs; whnf)) ?_
                refine wl_nil ?_
                refine W_block ?_   -- block 0
                refine W_loopS (S := Nat) [1, 3] (fun i => [.pointer (some ⟨b1, 0, none⟩), .int .i64 (i : Nat)]) (fun i A => (Ext Non w A) ∧ (IsBox A b1 [.int .i64 s.subs, .int .i64 s.cap, .slice aT ps.length cT, .slice aP s.picks.length cP]) ∧ (Mine Non w b1) ∧ (i ≤ ps.length ∧ ∀ x ∈ psOps (ps.take i), plainR x = true)) (fun i => ps.length - i) 0 ⟨rfl, rfl, trivial⟩ ⟨hX, hB1, hl1, ⟨Nat.zero_le _, fun x h => (by cases h)⟩⟩ ?_
                rintro τ0 i A0 ⟨hX, hB1, hl1, hI0⟩
                obtain ⟨hil, hal⟩ := hI0
                refine W_seq ?_
                refine W_seq ?_
                refine W_region ?_
                refine wl_val (rn_move (by conv => lhs; whnf)) ?_
                refine wl_val (rn_fieldAddr f_72_2 (by decide) rfl) ?_
                refine wl_val (rn_load1 p_70 rfl hB1 rfl) ?_
                refine wl_val (rn_len sl_70 rfl) ?_
                refine wl_val (rn_lss rfl rfl) ?_
                refine wl_nil ?_
                refine W_cond rfl (fun hc1 => ?_) (fun hc1 => ?_)
                · have hlt := of_decide_eq_true hc1; simp only [Int.ofNat_lt] at hlt
                  obtain ⟨⟨pv, pt⟩, hi⟩ : ∃ p, ps[i]? = some p := ⟨_, List.getElem?_eq_getElem hlt⟩
                  have hpm := List.mem_of_getElem? hi
                  have hpt := hin _ hpm
                  obtain ⟨ai, ci, hpv, hpb⟩ := id hpt.len
                  simp only [List.length_map] at hpv hpb
                  subst hpv
                  simp only at hpt hpb
                  obtain ⟨bT, oT, ea⟩ := hT.base (by intro e; have := congrArg List.length e; simp only [List.length_map, List.length_nil] at this; omega); subst ea
                  have hpl := psOps_len hpm
                  simp only at hpl
                  refine W_skip ?_
                  refine W_seq ?_
                  refine W_block ?_   -- block 1
                  refine W_seq ?_
                  refine W_region ?_
                  refine wl_val (rn_assign (by conv => lhs; whnf)) ?_
                  refine wl_nil ?_
                  refine W_block ?_   -- block 2
                  refine W_loopS (S := Nat) [1, 3, 4] (fun j => [.pointer (some ⟨b1, 0, none⟩), .int .i64 (i : Nat), .int .i64 (j : Nat)]) (fun j A => (Ext Non w A) ∧ (IsBox A b1 [.int .i64 s.subs, .int .i64 s.cap, .slice (some ⟨bT, oT, none⟩) ps.length cT, .slice aP s.picks.length cP]) ∧ (Mine Non w b1) ∧ (j ≤ pt.length ∧ ∀ x ∈ pt.take j, plainR x = true)) (fun j => pt.length - j) 0 ⟨rfl, rfl, rfl, trivial⟩ ⟨hX, hB1, hl1, ⟨Nat.zero_le _, fun x h => by simp at h⟩⟩ ?_
                  rintro τ1 j A1 ⟨hX, hB1, hl1, hI1⟩
                  obtain ⟨hjl, hal2⟩ := hI1
                  refine W_seq ?_
                  refine W_seq ?_
                  refine W_region ?_
                  refine wl_val (rn_move (by conv => lhs; whnf)) ?_
                  refine wl_val (rn_fieldAddr f_72_2 (by decide) rfl) ?_
                  refine wl_val (rn_load1 p_70 rfl hB1 rfl) ?_
                  refine wl_val (rn_move (by conv => lhs; whnf)) ?_
                  refine wl_val (rn_indexAddr sl_70 rfl rfl (by omega)) ?_
                  refine wl_val (rn_load p_78 rfl ((hT.ext hX (fun _ h => h)).at0 (map_at hi) rfl)) ?_
                  refine wl_val (rn_len sl_78 rfl) ?_
                  refine wl_val (rn_lss rfl rfl) ?_
                  refine wl_nil ?_
                  refine W_cond rfl (fun hc2 => ?_) (fun hc2 => ?_)
                  · have hlt2 := of_decide_eq_true hc2; simp only [Int.ofNat_lt] at hlt2
                    obtain ⟨x, hx⟩ : ∃ x, pt[j]? = some x := ⟨_, List.getElem?_eq_getElem hlt2⟩
                    have hxo : x ∈ s.ops := by rw [hso]; exact psOps_mem hpm (List.mem_of_getElem? hx)
                    obtain ⟨bi, oi, ea⟩ := hpt.base (by intro e; have := congrArg List.length e; simp only [List.length_map, List.length_nil] at this; omega); subst ea
                    refine W_skip ?_
                    refine W_seq ?_
                    refine W_block ?_   -- block 3
                    refine W_seq ?_
                    refine W_region ?_
                    refine wl_val (rn_fieldAddr f_72_2 (by decide) rfl) ?_
                    refine wl_val (rn_load1 p_70 rfl hB1 rfl) ?_
                    refine wl_val (rn_move (by conv => lhs; whnf)) ?_
                    refine wl_val (rn_indexAddr sl_70 rfl rfl (by omega)) ?_
                    refine wl_val (rn_load p_78 rfl ((hT.ext hX (fun _ h => h)).at0 (map_at hi) rfl)) ?_
                    refine wl_val (rn_move (by conv => lhs; whnf)) ?_
                    refine wl_val (rn_indexAddr sl_78 rfl rfl (by omega)) ?_
                    refine wl_val (rn_loadS s_69 rfl rfl ((hpt.ext hX (fun _ h => h)).all0 (map_at hx))) ?_
                    refine wl_call e_61 rfl (rplain_ok A1 x) ?_; intro v66 w3 hE3 hR3
                    replace hX := hX.tr hE3
                    replace hB1 := hB1.ext hE3 id
                    subst hR3
                    refine wl_val (rn_not rfl) ?_
                    refine wl_nil ?_
                    refine W_cond rfl (fun hc3 => ?_) (fun hc3 => ?_)
                    · have q3 : ¬ plainR x = true := by simpa using hc3
                      refine W_seq ?_
                      refine W_region ?_
                      refine wl_val (rn_assign (by conv => lhs; whnf)) ?_
                      refine wl_nil ?_
                      refine W_ret ?_
                      first | exact ⟨_, resR1 (res1_tmp rfl), hX, congrArg Value.bool (right_no (fun h => by have := h.s0; have := h.s8; have := h.c1; have := h.c16; have := h.th; have := h.pk; have := h.ops; omega)).symm⟩ | exact ⟨_, resR1 (res1_tmp rfl), hX, congrArg Value.bool (right_no (fun h => q3 (h.plain x hxo))).symm⟩ | exact ⟨_, resR1 (res1_tmp rfl), hX, congrArg Value.bool (right_no (fun h => by have := h.pick p (List.mem_of_getElem? hp); omega)).symm⟩ | exact ⟨_, resR1 (res1_tmp rfl), hX, congrArg Value.bool ((right_iff s).2 ⟨by omega, by omega, by omega, by omega, by omega, by omega, by omega, fun x hx => hal x (by rw [← hso]; exact hx), hpk⟩).symm⟩
                    · have q3 : plainR x = true := by simpa using hc3
                      refine W_skip ?_
                      refine W_region ?_
                      refine wl_val (rn_move (by conv => lhs; whnf)) ?_
                      refine wl_val (rn_add rfl rfl (by omega)) ?_
                      refine wl_val (rn_assign (by conv => lhs; whnf)) ?_
                      refine wl_nil ?_
                      exact ⟨rfl, j + 1, ⟨rfl, rfl, rfl, trivial⟩, ⟨hX, hB1, hl1, ⟨hlt2, fun y hy => by rw [List.take_add_one, hx] at hy; rcases List.mem_append.1 hy with h | h; exact hal2 y h; simp at h; rw [h]; exact q3⟩⟩, by show pt.length - (j + 1) < pt.length - j; omega⟩
                  · have hge2 := of_decide_eq_false hc2; simp only [Int.ofNat_lt, Nat.not_lt] at hge2
                    refine W_exit ?_   -- exit 2
                    refine W_region ?_
                    refine wl_val (rn_move (by conv => lhs; whnf)) ?_
                    refine wl_val (rn_add rfl rfl (by omega)) ?_
                    refine wl_val (rn_assign (by conv => lhs; whnf)) ?_
                    refine wl_nil ?_
                    exact ⟨rfl, i + 1, ⟨rfl, rfl, trivial⟩, ⟨hX, hB1, hl1, ⟨hlt, fun x hx => by rw [psOps_step hi] at hx; rcases List.mem_append.1 hx with h | h; exact hal x h; exact hal2 x (by rw [List.take_of_length_le hge2]; exact h)⟩⟩, by show ps.length - (i + 1) < ps.length - i; omega⟩
                · have hge := of_decide_eq_false hc1; simp only [Int.ofNat_lt, Nat.not_lt] at hge
                  have hie : i = ps.length := by omega
                  subst hie
                  rw [List.take_length] at hal
                  refine W_exit ?_   -- exit 0
                  refine W_seq ?_
                  refine W_seq ?_
                  refine W_region ?_
                  refine wl_val (rn_assign (by conv => lhs; whnf)) ?_
                  refine wl_nil ?_
                  refine W_block ?_   -- block 4
                  refine W_loopS (S := Nat) [1, 5] (fun k => [.pointer (some ⟨b1, 0, none⟩), .int .i64 (k : Nat)]) (fun k A => (Ext Non w A) ∧ (IsBox A b1 [.int .i64 s.subs, .int .i64 s.cap, .slice aT ps.length cT, .slice aP s.picks.length cP]) ∧ (Mine Non w b1) ∧ (k ≤ s.picks.length ∧ ∀ p ∈ s.picks.take k, 0 ≤ p ∧ p ≤ 9999)) (fun k => s.picks.length - k) 0 ⟨rfl, rfl, trivial⟩ ⟨hX, hB1, hl1, ⟨Nat.zero_le _, fun x h => by simp at h⟩⟩ ?_
                  rintro τ2 k A2 ⟨hX, hB1, hl1, hI2⟩
                  obtain ⟨hkl, hpk⟩ := hI2
                  refine W_seq ?_
                  refine W_seq ?_
                  refine W_region ?_
                  refine wl_val (rn_move (by conv => lhs; whnf)) ?_
                  refine wl_val (rn_fieldAddr f_72_3 (by decide) rfl) ?_
                  refine wl_val (rn_load1 p_23 rfl hB1 rfl) ?_
                  refine wl_val (rn_len sl_23 rfl) ?_
                  refine wl_val (rn_lss rfl rfl) ?_
                  refine wl_nil ?_
                  refine W_cond rfl (fun hc4 => ?_) (fun hc4 => ?_)
                  · have hlt4 := of_decide_eq_true hc4; simp only [Int.ofNat_lt] at hlt4
                    obtain ⟨p, hp⟩ : ∃ p, s.picks[k]? = some p := ⟨_, List.getElem?_eq_getElem hlt4⟩
                    obtain ⟨bP, oP, ea⟩ := hP.base (by intro e; have := congrArg List.length e; simp only [List.length_map, List.length_nil] at this; omega); subst ea
                    refine W_skip ?_
                    refine W_seq ?_
                    refine W_block ?_   -- block 5
                    refine W_seq ?_
                    refine W_region ?_
                    refine wl_val (rn_fieldAddr f_72_3 (by decide) rfl) ?_
                    refine wl_val (rn_load1 p_23 rfl hB1 rfl) ?_
                    refine wl_val (rn_move (by conv => lhs; whnf)) ?_
                    refine wl_val (rn_indexAddr sl_23 rfl rfl (by omega)) ?_
                    refine wl_val (rn_load p_3 rfl ((hP.ext hX (fun _ h => h)).at0 (map_at hp) rfl)) ?_
                    refine wl_val (rn_lss rfl rfl) ?_
                    refine wl_val (rn_move (by conv => lhs; whnf)) ?_
                    refine wl_split (d := 81) rfl (fun hg81 => ?_) (fun hg81 => ?_)
                    · have q81 := of_decide_eq_true hg81
                      refine wl_no rfl (congrArg Value.bool hg81) ?_
                      refine wl_no rfl (congrArg Value.bool hg81) ?_
                      refine wl_no rfl (congrArg Value.bool hg81) ?_
                      refine wl_no rfl (congrArg Value.bool hg81) ?_
                      refine wl_no rfl (congrArg Value.bool hg81) ?_
                      refine wl_no rfl (congrArg Value.bool hg81) ?_
                      refine wl_val (rn_pickT (congrArg Value.bool hg81) (by conv => lhs; whnf)) ?_
                      refine wl_nil ?_
                      refine W_condT rfl ?_
                      refine W_seq ?_
                      refine W_region ?_
                      refine wl_val (rn_assign (by conv => lhs; whnf)) ?_
                      refine wl_nil ?_
                      refine W_ret ?_
                      first | exact ⟨_, resR1 (res1_tmp rfl), hX, congrArg Value.bool (right_no (fun h => by have := h.s0; have := h.s8; have := h.c1; have := h.c16; have := h.th; have := h.pk; have := h.ops; omega)).symm⟩ | exact ⟨_, resR1 (res1_tmp rfl), hX, congrArg Value.bool (right_no (fun h => q3 (h.plain x hxo))).symm⟩ | exact ⟨_, resR1 (res1_tmp rfl), hX, congrArg Value.bool (right_no (fun h => by have := h.pick p (List.mem_of_getElem? hp); omega)).symm⟩ | exact ⟨_, resR1 (res1_tmp rfl), hX, congrArg Value.bool ((right_iff s).2 ⟨by omega, by omega, by omega, by omega, by omega, by omega, by omega, fun x hx => hal x (by rw [← hso]; exact hx), hpk⟩).symm⟩
                    · have q81 := of_decide_eq_false hg81
                      refine wl_yes rfl (congrArg Value.bool hg81) ?_
                      refine wl_val (rn_fieldAddr f_72_3 (by decide) rfl) ?_
                      refine wl_yes rfl (congrArg Value.bool hg81) ?_
                      refine wl_val (rn_load1 p_23 rfl hB1 rfl) ?_
                      refine wl_yes rfl (congrArg Value.bool hg81) ?_
                      refine wl_val (rn_move (by conv => lhs; whnf)) ?_
                      refine wl_yes rfl (congrArg Value.bool hg81) ?_
                      refine wl_val (rn_indexAddr sl_23 rfl rfl (by omega)) ?_
                      refine wl_yes rfl (congrArg Value.bool hg81) ?_
                      refine wl_val (rn_load p_3 rfl ((hP.ext hX (fun _ h => h)).at0 (map_at hp) rfl)) ?_
                      refine wl_yes rfl (congrArg Value.bool hg81) ?_
                      refine wl_val (rn_gtr rfl rfl) ?_
                      refine wl_val (rn_pickF (congrArg Value.bool hg81) (by conv => lhs; whnf)) ?_
                      refine wl_nil ?_
                      refine W_cond rfl (fun hc5 => ?_) (fun hc5 => ?_)
                      · have q5 := of_decide_eq_true hc5
                        refine W_seq ?_
                        refine W_region ?_
                        refine wl_val (rn_assign (by conv => lhs; whnf)) ?_
                        refine wl_nil ?_
                        refine W_ret ?_
                        first | exact ⟨_, resR1 (res1_tmp rfl), hX, congrArg Value.bool (right_no (fun h => by have := h.s0; have := h.s8; have := h.c1; have := h.c16; have := h.th; have := h.pk; have := h.ops; omega)).symm⟩ | exact ⟨_, resR1 (res1_tmp rfl), hX, congrArg Value.bool (right_no (fun h => q3 (h.plain x hxo))).symm⟩ | exact ⟨_, resR1 (res1_tmp rfl), hX, congrArg Value.bool (right_no (fun h => by have := h.pick p (List.mem_of_getElem? hp); omega)).symm⟩ | exact ⟨_, resR1 (res1_tmp rfl), hX, congrArg Value.bool ((right_iff s).2 ⟨by omega, by omega, by omega, by omega, by omega, by omega, by omega, fun x hx => hal x (by rw [← hso]; exact hx), hpk⟩).symm⟩
                      · have q5 := of_decide_eq_false hc5
                        refine W_skip ?_
                        refine W_region ?_
                        refine wl_val (rn_move (by conv => lhs; whnf)) ?_
                        refine wl_val (rn_add rfl rfl (by omega)) ?_
                        refine wl_val (rn_assign (by conv => lhs; whnf)) ?_
                        refine wl_nil ?_
                        exact ⟨rfl, k + 1, ⟨rfl, rfl, trivial⟩, ⟨hX, hB1, hl1, ⟨hlt4, fun y hy => by rw [List.take_add_one, hp] at hy; rcases List.mem_append.1 hy with h | h; exact hpk y h; simp at h; rw [h]; exact ⟨by omega, by omega⟩⟩⟩, by show s.picks.length - (k + 1) < s.picks.length - k; omega⟩
                  · have hge4 := of_decide_eq_false hc4; simp only [Int.ofNat_lt, Nat.not_lt] at hge4
                    rw [List.take_of_length_le hge4] at hpk
                    refine W_exit ?_   -- exit 4
                    refine W_seq ?_
                    refine W_region ?_
                    refine wl_val (rn_assign (by conv => lhs; whnf)) ?_
                    refine wl_nil ?_
                    refine W_ret ?_
                    first | exact ⟨_, resR1 (res1_tmp rfl), hX, congrArg Value.bool (right_no (fun h => by have := h.s0; have := h.s8; have := h.c1; have := h.c16; have := h.th; have := h.pk; have := h.ops; omega)).symm⟩ | exact ⟨_, resR1 (res1_tmp rfl), hX, congrArg Value.bool (right_no (fun h => q3 (h.plain x hxo))).symm⟩ | exact ⟨_, resR1 (res1_tmp rfl), hX, congrArg Value.bool (right_no (fun h => by have := h.pick p (List.mem_of_getElem? hp); omega)).symm⟩ | exact ⟨_, resR1 (res1_tmp rfl), hX, congrArg Value.bool ((right_iff s).2 ⟨by omega, by omega, by omega, by omega, by omega, by omega, by omega, fun x hx => hal x (by rw [← hso]; exact hx), hpk⟩).symm⟩
-- bellman/bellmanref20.Text
set_option maxHeartbeats 3200000 in
theorem rtext20_ok (w : World) (s : ScD) {cs : List Value} (hsc : ScM Non w cs s) (hs : SmallP s) : Fn Tryz.prog 25 #[.agg cs.toArray] w fun u w' => u = .tuple #[Sv (if rightR s = true then textR s else []), .int .i64 (if rightR s = true then 0 else 10)] := by
  obtain ⟨vT, vP, ps, rfl, hts, ⟨hT, hin⟩, hP⟩ := hsc
  have hso := sc_ops hts; have hsl := sc_len hts
  obtain ⟨aT, cT, rfl, hbgT⟩ := id hT.len
  obtain ⟨aP, cP, rfl, hbgP⟩ := id hP.len
  simp only [List.length_map] at hT hP hbgT hbgP ⊢
  have hbg2 : big = 9223372036854775807 := rfl
  have hs1 := hs.th; have hs2 := hs.ops; have hs3 := hs.pk
  have hbo : (psOps ps).length ≤ 100 := by rw [← hso]; exact hs2
  have hX := Ext.refl Non w
  refine fn_of_W (args := [_]) Tryz.func25 rfl (by kernel_rfl) rfl ?_
  refine W_seq ?_
  refine W_region ?_
  refine wl_boxS rfl ?_; intro b1 w1 hb1 hE1 hB1
  have hq1 : w.heap.size ≤ b1 := Nat.le_trans hX.size hb1
  have hl1 : Mine Non w b1 := .inr hq1
  replace hX := hX.tr hE1
  refine wl_val (rn_assign (by conv => lhs; whnf)) ?_
  refine wl_val (rn_assign (by conv => lhs; whnf)) ?_
  refine wl_nil ?_
  refine W_seq ?_
  refine W_seq ?_
  refine W_region ?_
  refine wl_val (rn_loadB s_72 rfl rfl hB1) ?_
  refine wl_call e_28 rfl (rright_ok w1 s ⟨_, _, ps, rfl, hts, ⟨hT.ext hX (fun _ h => h), fun p hp => (hin p hp).ext hX (fun _ h => h)⟩, hP.ext hX (fun _ h => h)⟩ (by omega)) ?_; intro v11 w2 hE2 hR2
  replace hX := hX.tr hE2
  replace hB1 := hB1.ext hE2 id
  subst hR2
  refine wl_val (rn_not rfl) ?_
  refine wl_nil ?_
  refine W_cond rfl (fun hc0 => ?_) (fun hc0 => ?_)
  · have hr : ¬ rightR s = true := by simpa using hc0
    refine W_seq ?_
    refine W_region ?_
    refine wl_val (rn_assign (by conv => lhs; whnf)) ?_
    refine wl_val (rn_assign (by conv => lhs; whnf)) ?_
    refine wl_nil ?_
    refine W_ret ?_
    exact ⟨_, resR2 (res1_tmp rfl) (res1_tmp rfl), hX, by rw [if_neg hr, if_neg hr]; rfl⟩
  · have hr : rightR s = true := by simpa using hc0
    have hrp := (right_iff s).1 hr
    have hq0 := hrp.s0; have hq8 := hrp.s8; have hq1 := hrp.c1; have hq16 := hrp.c16
    have hi0 := itoa_len (n := s.subs) ⟨by omega, by omega⟩; have hi1 := itoa_len (n := s.cap) ⟨by omega, by omega⟩
    have htf := TL_full hrp hs hts
    refine W_skip ?_
    refine W_seq ?_
    refine W_drawE mixed ?_; intro w3 hE3
    replace hX := hX.tr hE3
    replace hB1 := hB1.ext hE3 id
    have hS := Ext.refl Non w3
    refine wd_take 0 _ _ rfl (by kernel_rfl) hS (yd_do fun A hA => rn_fieldAddr f_72_0 (by decide) rfl) ?_
    refine wd_take 1 _ _ rfl (by kernel_rfl) hS (yd_do fun A hA => rn_load1 p_3 rfl (hB1.ext hA id) rfl) ?_
    refine wd_take 5 _ _ rfl (by kernel_rfl) hS (yd_do fun A hA => rn_fieldAddr f_72_1 (by decide) rfl) ?_
    refine wd_take 6 _ _ rfl (by kernel_rfl) hS (yd_do fun A hA => rn_load1 p_3 rfl (hB1.ext hA id) rfl) ?_
    refine wd_only 2 _ rfl (by kernel_rfl) ?_
    refine s1_do ?_
    refine wl_call e_53 rfl (rtextI_ok s.subs w3 hq0 (by omega)) ?_; intro v15 w4 hE4 hR4
    replace hS := hS.tr hE4
    subst hR4
    refine wl_nil ⟨hS, ?_⟩
    refine wd_take 3 _ _ rfl (by kernel_rfl) hS (yd_do fun A hA => rn_sadd rfl rfl (by first | omega | (simp only [List.length_append, List.length_cons, List.length_nil]; omega))) ?_
    refine wd_take 4 _ _ rfl (by kernel_rfl) hS (yd_do fun A hA => rn_sadd rfl rfl (by first | omega | (simp only [List.length_append, List.length_cons, List.length_nil]; omega))) ?_
    refine wd_only 7 _ rfl (by kernel_rfl) ?_
    refine s1_do ?_
    refine wl_call e_53 rfl (rtextI_ok s.cap w4 (by omega) (by omega)) ?_; intro v20 w5 hE5 hR5
    replace hS := hS.tr hE5
    subst hR5
    refine wl_nil ⟨hS, ?_⟩
    refine wd_take 8 _ _ rfl (by kernel_rfl) hS (yd_do fun A hA => rn_sadd rfl rfl (by first | omega | (simp only [List.length_append, List.length_cons, List.length_nil]; omega))) ?_
    refine wd_take 9 _ _ rfl (by kernel_rfl) hS (yd_do fun A hA => rn_sadd rfl rfl (by first | omega | (simp only [List.length_append, List.length_cons, List.length_nil]; omega))) ?_
    refine wd_take 10 _ _ rfl (by kernel_rfl) hS (yd_do fun A hA => rn_assign (by conv => lhs; whnf)) ?_
    refine wd_done (by kernel_rfl) ?_ _
    replace hX := hX.tr hS
    replace hB1 := hB1.ext hS id
    refine W_seq ?_
    refine W_seq ?_
    refine W_region ?_
    refine wl_val (rn_assign (by conv => lhs; whnf)) ?_
    refine wl_nil ?_
    refine W_block ?_   -- block 0
    refine W_loopS (S := Nat × Str) [1, 4, 5] (fun ⟨i, tx⟩ => [.pointer (some ⟨b1, 0, none⟩), Sv tx, .int .i64 (i : Nat)]) (fun ⟨i, tx⟩ A => (Ext Non w A) ∧ (IsBox A b1 [.int .i64 s.subs, .int .i64 s.cap, .slice aT ps.length cT, .slice aP s.picks.length cP]) ∧ (Mine Non w b1) ∧ (i ≤ ps.length ∧ tx = TL ([l0 s, l1 s] ++ lnsUp (ps.take i)))) (fun ⟨i, tx⟩ => ps.length - i) (0, _) ⟨rfl, rfl, rfl, trivial⟩ ⟨hX, hB1, hl1, ⟨Nat.zero_le _, by simp [TL, lnsUp]⟩⟩ ?_
    rintro τ0 ⟨i, tx⟩ A0 ⟨hX, hB1, hl1, hI0⟩
    obtain ⟨hil, htx⟩ := hI0
    have htl : tx.length ≤ 6000000 := by rw [htx]; exact Nat.le_trans (TL_sub _ ps i) htf
    refine W_seq ?_
    refine W_seq ?_
    refine W_region ?_
    refine wl_val (rn_move (by conv => lhs; whnf)) ?_
    refine wl_val (rn_fieldAddr f_72_2 (by decide) rfl) ?_
    refine wl_val (rn_load1 p_70 rfl hB1 rfl) ?_
    refine wl_val (rn_len sl_70 rfl) ?_
    refine wl_val (rn_lss rfl rfl) ?_
    refine wl_nil ?_
    refine W_cond rfl (fun hc1 => ?_) (fun hc1 => ?_)
    · have hlt := of_decide_eq_true hc1; simp only [Int.ofNat_lt] at hlt
      obtain ⟨⟨pv, pt⟩, hi⟩ : ∃ p, ps[i]? = some p := ⟨_, List.getElem?_eq_getElem hlt⟩
      have hpm := List.mem_of_getElem? hi
      have hpt := hin _ hpm
      obtain ⟨ai, ci, hpv, hpb⟩ := id hpt.len
      simp only [List.length_map] at hpv hpb
      subst hpv
      simp only at hpt hpb
      obtain ⟨bT, oT, ea⟩ := hT.base (by intro e; have := congrArg List.length e; simp only [List.length_map, List.length_nil] at this; omega); subst ea
      have hpl := psOps_len hpm
      simp only at hpl
      have hst := lnsUp_step hi
      refine W_skip ?_
      refine W_seq ?_
      refine W_block ?_   -- block 1
      refine W_seq ?_
      refine W_region ?_
      refine wl_val (rn_move (by conv => lhs; whnf)) ?_
      refine wl_val (rn_sadd rfl rfl (by first | omega | (simp only [List.length_append, List.length_cons, List.length_nil]; omega))) ?_
      refine wl_val (rn_assign (by conv => lhs; whnf)) ?_
      refine wl_nil ?_
      refine W_seq ?_
      refine W_region ?_
      refine wl_val (rn_assign (by conv => lhs; whnf)) ?_
      refine wl_nil ?_
      refine W_block ?_   -- block 2
      refine W_loopS (S := Nat × Str) [1, 4, 5, 6] (fun ⟨j, ty⟩ => [.pointer (some ⟨b1, 0, none⟩), Sv ty, .int .i64 (i : Nat), .int .i64 (j : Nat)]) (fun ⟨j, ty⟩ A => (Ext Non w A) ∧ (IsBox A b1 [.int .i64 s.subs, .int .i64 s.cap, .slice (some ⟨bT, oT, none⟩) ps.length cT, .slice aP s.picks.length cP]) ∧ (Mine Non w b1) ∧ (j ≤ pt.length ∧ ty = TL ((([l0 s, l1 s] ++ lnsUp (ps.take i)) ++ [sThread]) ++ (pt.take j).map lineR))) (fun ⟨j, ty⟩ => pt.length - j) (0, _) ⟨rfl, rfl, rfl, rfl, trivial⟩ ⟨hX, hB1, hl1, ⟨Nat.zero_le _, by rw [List.take_zero, List.map_nil, List.append_nil, TL_app _ [sThread], TL_one, ← htx]; rfl⟩⟩ ?_
      rintro τ1 ⟨j, ty⟩ A1 ⟨hX, hB1, hl1, hI1⟩
      obtain ⟨hjl, hty⟩ := hI1
      have hyl : ty.length ≤ 6000000 := by rw [hty]; exact Nat.le_trans (TL_sub2 _ hi j) htf
      refine W_seq ?_
      refine W_seq ?_
      refine W_region ?_
      refine wl_val (rn_move (by conv => lhs; whnf)) ?_
      refine wl_val (rn_fieldAddr f_72_2 (by decide) rfl) ?_
      refine wl_val (rn_load1 p_70 rfl hB1 rfl) ?_
      refine wl_val (rn_move (by conv => lhs; whnf)) ?_
      refine wl_val (rn_indexAddr sl_70 rfl rfl (by omega)) ?_
      refine wl_val (rn_load p_78 rfl ((hT.ext hX (fun _ h => h)).at0 (map_at hi) rfl)) ?_
      refine wl_val (rn_len sl_78 rfl) ?_
      refine wl_val (rn_lss rfl rfl) ?_
      refine wl_nil ?_
      refine W_cond rfl (fun hc2 => ?_) (fun hc2 => ?_)
      · have hlt2 := of_decide_eq_true hc2; simp only [Int.ofNat_lt] at hlt2
        obtain ⟨x, hx⟩ : ∃ x, pt[j]? = some x := ⟨_, List.getElem?_eq_getElem hlt2⟩
        have hxo : x ∈ s.ops := by rw [hso]; exact psOps_mem hpm (List.mem_of_getElem? hx)
        obtain ⟨bi, oi, ea⟩ := hpt.base (by intro e; have := congrArg List.length e; simp only [List.length_map, List.length_nil] at this; omega); subst ea
        have hxp := hrp.plain x hxo; have hxt := hs.txt x hxo; have hxl := lineR_len hxp
        refine W_skip ?_
        refine W_seq ?_
        refine W_block ?_   -- block 3
        refine W_seq ?_
        refine W_region ?_
        refine wl_val (rn_fieldAddr f_72_2 (by decide) rfl) ?_
        refine wl_val (rn_load1 p_70 rfl hB1 rfl) ?_
        refine wl_val (rn_move (by conv => lhs; whnf)) ?_
        refine wl_val (rn_indexAddr sl_70 rfl rfl (by omega)) ?_
        refine wl_val (rn_load p_78 rfl ((hT.ext hX (fun _ h => h)).at0 (map_at hi) rfl)) ?_
        refine wl_val (rn_move (by conv => lhs; whnf)) ?_
        refine wl_val (rn_indexAddr sl_78 rfl rfl (by omega)) ?_
        refine wl_val (rn_loadS s_69 rfl rfl ((hpt.ext hX (fun _ h => h)).all0 (map_at hx))) ?_
        refine wl_call e_54 rfl (rline_ok A1 x (by omega) (by omega)) ?_; intro v51 w6 hE6 hR6
        replace hX := hX.tr hE6
        replace hB1 := hB1.ext hE6 id
        subst hR6; rw [if_pos hxp, if_pos hxp]
        refine wl_val (rn_move (by conv => lhs; whnf)) ?_
        refine wl_val (rn_extract rfl rfl) ?_
        refine wl_val (rn_extract rfl rfl) ?_
        refine wl_val (rn_assign (by conv => lhs; whnf)) ?_
        refine wl_val (rn_assign (by conv => lhs; whnf)) ?_
        refine wl_nil ?_
        refine W_region ?_
        refine wl_val (rn_move (by conv => lhs; whnf)) ?_
        refine wl_val (rn_move (by conv => lhs; whnf)) ?_
        refine wl_val (rn_sadd rfl rfl (by first | omega | (simp only [List.length_append, List.length_cons, List.length_nil]; omega))) ?_
        refine wl_val (rn_sadd rfl rfl (by first | omega | (simp only [List.length_append, List.length_cons, List.length_nil]; omega))) ?_
        refine wl_val (rn_assign (by conv => lhs; whnf)) ?_
        refine wl_nil ?_
        refine W_region ?_
        refine wl_val (rn_move (by conv => lhs; whnf)) ?_
        refine wl_val (rn_add rfl rfl (by omega)) ?_
        refine wl_val (rn_assign (by conv => lhs; whnf)) ?_
        refine wl_nil ?_
        exact ⟨rfl, (j + 1, _), ⟨rfl, rfl, rfl, rfl, trivial⟩, ⟨hX, hB1, hl1, ⟨hlt2, by rw [TL_in hx, ← hty]⟩⟩, by show pt.length - (j + 1) < pt.length - j; omega⟩
      · have hge2 := of_decide_eq_false hc2; simp only [Int.ofNat_lt, Nat.not_lt] at hge2
        have hje : j = pt.length := by omega
        subst hje
        rw [List.take_length] at hty
        refine W_exit ?_   -- exit 2
        refine W_region ?_
        refine wl_val (rn_move (by conv => lhs; whnf)) ?_
        refine wl_val (rn_add rfl rfl (by omega)) ?_
        refine wl_val (rn_assign (by conv => lhs; whnf)) ?_
        refine wl_nil ?_
        exact ⟨rfl, (i + 1, ty), ⟨rfl, rfl, rfl, trivial⟩, ⟨hX, hB1, hl1, ⟨hlt, by rw [outer_step hi]; exact hty⟩⟩, by show ps.length - (i + 1) < ps.length - i; omega⟩
    · have hge := of_decide_eq_false hc1; simp only [Int.ofNat_lt, Nat.not_lt] at hge
      have hie : i = ps.length := by omega
      subst hie
      rw [List.take_length] at htx
      refine W_exit ?_   -- exit 0
      refine W_seq ?_
      refine W_seq ?_
      refine W_region ?_
      refine wl_val (rn_fieldAddr f_72_3 (by decide) rfl) ?_
      refine wl_val (rn_load1 p_23 rfl hB1 rfl) ?_
      refine wl_val (rn_len sl_23 rfl) ?_
      refine wl_val (rn_gtr rfl rfl) ?_
      refine wl_nil ?_
      refine W_cond rfl (fun hc3 => ?_) (fun hc3 => ?_)
      · have hpk : 0 < s.picks.length := by have := of_decide_eq_true hc3; omega
        refine W_seq ?_
        refine W_region ?_
        refine wl_val (rn_move (by conv => lhs; whnf)) ?_
        refine wl_val (rn_sadd rfl rfl (by first | omega | (simp only [List.length_append, List.length_cons, List.length_nil]; omega))) ?_
        refine wl_val (rn_assign (by conv => lhs; whnf)) ?_
        refine wl_nil ?_
        refine W_seq ?_
        refine W_seq ?_
        refine W_region ?_
        refine wl_val (rn_assign (by conv => lhs; whnf)) ?_
        refine wl_nil ?_
        refine W_block ?_   -- block 4
        refine W_loopS (S := Nat × Str) [1, 4, 9] (fun ⟨k, tz⟩ => [.pointer (some ⟨b1, 0, none⟩), Sv tz, .int .i64 (k : Nat)]) (fun ⟨k, tz⟩ A => (Ext Non w A) ∧ (IsBox A b1 [.int .i64 s.subs, .int .i64 s.cap, .slice aT ps.length cT, .slice aP s.picks.length cP]) ∧ (Mine Non w b1) ∧ (k ≤ s.picks.length ∧ tz = TL ([l0 s, l1 s] ++ lnsUp ps) ++ pkS (s.picks.take k))) (fun ⟨k, tz⟩ => s.picks.length - k) (0, _) ⟨rfl, rfl, rfl, trivial⟩ ⟨hX, hB1, hl1, ⟨Nat.zero_le _, by rw [← htx]; rfl⟩⟩ ?_
        rintro τ2 ⟨k, tz⟩ A2 ⟨hX, hB1, hl1, hI2⟩
        obtain ⟨hkl, htz⟩ := hI2
        have hpsl := pkS_len (s.picks.take k) (fun p hp => hrp.pick p (List.mem_of_mem_take hp))
        rw [List.length_take] at hpsl
        have hzl : tz.length ≤ 6100000 := by rw [htz, List.length_append]; omega
        refine W_seq ?_
        refine W_seq ?_
        refine W_region ?_
        refine wl_val (rn_move (by conv => lhs; whnf)) ?_
        refine wl_val (rn_fieldAddr f_72_3 (by decide) rfl) ?_
        refine wl_val (rn_load1 p_23 rfl hB1 rfl) ?_
        refine wl_val (rn_len sl_23 rfl) ?_
        refine wl_val (rn_lss rfl rfl) ?_
        refine wl_nil ?_
        refine W_cond rfl (fun hc4 => ?_) (fun hc4 => ?_)
        · have hlt4 := of_decide_eq_true hc4; simp only [Int.ofNat_lt] at hlt4
          obtain ⟨p, hp⟩ : ∃ p, s.picks[k]? = some p := ⟨_, List.getElem?_eq_getElem hlt4⟩
          obtain ⟨bP, oP, ea⟩ := hP.base (by intro e; have := congrArg List.length e; simp only [List.length_map, List.length_nil] at this; omega); subst ea
          have hpr := hrp.pick p (List.mem_of_getElem? hp)
          have hpil := itoa_len (n := p) ⟨by omega, by omega⟩
          refine W_skip ?_
          refine W_seq ?_
          refine W_block ?_   -- block 5
          refine W_region ?_
          refine wl_val (rn_move (by conv => lhs; whnf)) ?_
          refine wl_val (rn_sadd rfl rfl (by first | omega | (simp only [List.length_append, List.length_cons, List.length_nil]; omega))) ?_
          refine wl_val (rn_fieldAddr f_72_3 (by decide) rfl) ?_
          refine wl_val (rn_load1 p_23 rfl hB1 rfl) ?_
          refine wl_val (rn_move (by conv => lhs; whnf)) ?_
          refine wl_val (rn_indexAddr sl_23 rfl rfl (by omega)) ?_
          refine wl_val (rn_load p_3 rfl ((hP.ext hX (fun _ h => h)).at0 (map_at hp) rfl)) ?_
          refine wl_call e_53 rfl (rtextI_ok p A2 hpr.1 (by omega)) ?_; intro v78 w7 hE7 hR7
          replace hX := hX.tr hE7
          replace hB1 := hB1.ext hE7 id
          subst hR7
          refine wl_val (rn_sadd rfl rfl (by first | omega | (simp only [List.length_append, List.length_cons, List.length_nil]; omega))) ?_
          refine wl_val (rn_assign (by conv => lhs; whnf)) ?_
          refine wl_nil ?_
          refine W_region ?_
          refine wl_val (rn_move (by conv => lhs; whnf)) ?_
          refine wl_val (rn_add rfl rfl (by omega)) ?_
          refine wl_val (rn_assign (by conv => lhs; whnf)) ?_
          refine wl_nil ?_
          exact ⟨rfl, (k + 1, _), ⟨rfl, rfl, rfl, trivial⟩, ⟨hX, hB1, hl1, ⟨hlt4, by rw [pkS_step hp, htz]; simp⟩⟩, by show s.picks.length - (k + 1) < s.picks.length - k; omega⟩
        · have hge4 := of_decide_eq_false hc4; simp only [Int.ofNat_lt, Nat.not_lt] at hge4
          have hke : k = s.picks.length := by omega
          subst hke
          rw [List.take_length] at htz
          refine W_exit ?_   -- exit 4
          refine W_region ?_
          refine wl_val (rn_move (by conv => lhs; whnf)) ?_
          refine wl_val (rn_sadd rfl rfl (by first | omega | (simp only [List.length_append, List.length_cons, List.length_nil]; omega))) ?_
          refine wl_val (rn_assign (by conv => lhs; whnf)) ?_
          refine wl_nil ?_
          refine W_seq ?_
          refine W_region ?_
          refine wl_val (rn_move (by conv => lhs; whnf)) ?_
          refine wl_val (rn_assign (by conv => lhs; whnf)) ?_
          refine wl_val (rn_assign (by conv => lhs; whnf)) ?_
          refine wl_nil ?_
          refine W_ret ?_
          first | exact ⟨_, resR2 (res1_tmp rfl) (res1_tmp rfl), hX, by rw [if_pos hr, if_pos hr, textR_TL hts, picks_if hpk, TL_one, ← List.append_assoc, show TL ([l0 s, l1 s] ++ lnsUp ps) ++ picksL s.picks = tz from htz.symm]; rfl⟩ | exact ⟨_, resR2 (res1_tmp rfl) (res1_tmp rfl), hX, by rw [if_pos hr, if_pos hr, textR_TL hts, picks_if0 hpk, show TL [] = [] from rfl, List.append_nil, ← htx]; rfl⟩
      · have hpk : ¬ 0 < s.picks.length := by have := of_decide_eq_false hc3; omega
        refine W_skip ?_
        refine W_seq ?_
        refine W_region ?_
        refine wl_val (rn_move (by conv => lhs; whnf)) ?_
        refine wl_val (rn_assign (by conv => lhs; whnf)) ?_
        refine wl_val (rn_assign (by conv => lhs; whnf)) ?_
        refine wl_nil ?_
        refine W_ret ?_
        first | exact ⟨_, resR2 (res1_tmp rfl) (res1_tmp rfl), hX, by rw [if_pos hr, if_pos hr, textR_TL hts, picks_if hpk, TL_one, ← List.append_assoc, show TL ([l0 s, l1 s] ++ lnsUp ps) ++ picksL s.picks = tz from htz.symm]; rfl⟩ | exact ⟨_, resR2 (res1_tmp rfl) (res1_tmp rfl), hX, by rw [if_pos hr, if_pos hr, textR_TL hts, picks_if0 hpk, show TL [] = [] from rfl, List.append_nil, ← htx]; rfl⟩
end Go.Proofs.YthcclgoidchkdaaGreatDoorC

/- Layer 20: a script's text and back: the law. -/
set_option linter.unusedVariables false
set_option linter.unusedSimpArgs false
set_option maxRecDepth 100000
namespace Go.Proofs.YthcclgoidchkdaaGreatDoorC
open Go.RowKit
theorem lines_lenF {s : ScD} {ps : List (Value × List OpD)} (hr : RightP s) (hs : SmallP s) (h : s.threads = ps.map (·.2)) : (linesC (cmdsOf s)).length ≤ 10000000 := by
  have e := textR_join h
  change linesC (cmdsOf s) = _ at e
  have h0 := join_len _ (lines_le hr hs h)
  have hso := sc_ops h; have hsl := sc_len h
  have h1 := hs.th; have h2 := hs.ops
  have hll : (([l0 s, l1 s] ++ lnsUp ps) ++ (if s.picks = [] then [] else [picksL s.picks])).length ≤ 111 := by
    have hpl : (if s.picks = [] then ([] : List Str) else [picksL s.picks]).length ≤ 1 := by split <;> simp
    rw [hso] at h2
    simp only [List.length_append, List.length_cons, List.length_nil, lnsUp_len]; omega
  have := Nat.mul_le_mul_right (30000 + 1) hll
  rw [e, List.length_append, List.length_singleton]; omega
theorem psOps_at {ps : List (Value × List OpD)} {i j : Nat} {p : Value × List OpD} {x : OpD} (hi : ps[i]? = some p) (hx : p.2[j]? = some x) : (psOps ps)[(psOps (ps.take i)).length + j]? = some x := by
  have hj : j < p.2.length := (List.getElem?_eq_some_iff.1 hx).1
  have e : psOps ps = psOps (ps.take i) ++ (p.2 ++ psOps (ps.drop (i + 1))) := by
    have e1 : psOps ps = psOps (ps.take (i + 1)) ++ psOps (ps.drop (i + 1)) := by unfold psOps; rw [← List.flatten_append, ← List.map_append, List.take_append_drop]
    rw [e1, psOps_step hi, List.append_assoc]
  rw [e, List.getElem?_append_right (by omega), Nat.add_sub_cancel_left, List.getElem?_append_left hj, hx]
-- bellman/bellmanlaw20.ScriptTexts
set_option maxHeartbeats 3200000 in
theorem scriptTexts_ok (w : World) (s : ScD) {cs : List Value} (hsc : ScM Non w cs s) (hb : ∀ t ∈ s.threads, t.length ≤ 140737488355328) (hTb : Tab w) (hR : ErrS w) : Fn Tryz.prog 6 #[.agg cs.toArray] w fun u w' => u = .bool true := by
  obtain ⟨vT, vP, ps, rfl, hts, ⟨hT, hin⟩, hP⟩ := hsc
  have hso := sc_ops hts; have hsl := sc_len hts
  obtain ⟨aT, cT, rfl, hbgT⟩ := id hT.len
  obtain ⟨aP, cP, rfl, hbgP⟩ := id hP.len
  simp only [List.length_map] at hT hP hbgT hbgP ⊢
  have hbg2 : big = 9223372036854775807 := rfl
  have hX := Ext.refl Non w
  refine fn_of_W (args := [_]) Tryz.func6 rfl (by kernel_rfl) rfl ?_
  refine W_seq ?_
  refine W_region ?_
  refine wl_boxS rfl ?_; intro b1 w1 hb1 hE1 hB1
  have hq1 : w.heap.size ≤ b1 := Nat.le_trans hX.size hb1
  have hl1 : Mine Non w b1 := .inr hq1
  replace hX := hX.tr hE1
  refine wl_val (rn_assign (by conv => lhs; whnf)) ?_
  refine wl_nil ?_
  refine W_seq ?_
  refine W_seq ?_
  refine W_region ?_
  refine wl_call e_22 rfl (awake20_ok w1 (hTb.non hX) (hR.non hX)) ?_; intro v14 w2 hE2 hR2
  replace hX := hX.tr hE2
  replace hB1 := hB1.ext hE2 id
  subst hR2
  refine wl_val (rn_not rfl) ?_
  refine wl_nil ?_
  refine W_cond rfl (fun hc0 => ?_) (fun hc0 => ?_)
  · exact absurd hc0 (by decide)
  · refine W_skip ?_
    refine W_seq ?_
    refine W_seq ?_
    refine W_region ?_
    refine wl_val (rn_loadB s_72 rfl rfl hB1) ?_
    refine wl_call e_23 rfl (great20_ok w2 s ⟨_, _, ps, rfl, hts, ⟨hT.ext hX (fun _ h => h), fun p hp => (hin p hp).ext hX (fun _ h => h)⟩, hP.ext hX (fun _ h => h)⟩ hb) ?_; intro v17 w3 hE3 hR3
    replace hX := hX.tr hE3
    replace hB1 := hB1.ext hE3 id
    obtain ⟨bg, rfl, hbg⟩ := hR3
    refine wl_nil ?_
    refine W_cond rfl (fun hc1 => ?_) (fun hc1 => ?_)
    · refine W_seq ?_
      refine W_region ?_
      refine wl_val (rn_assign (by conv => lhs; whnf)) ?_
      refine wl_nil ?_
      refine W_ret ?_
      first | exact ⟨_, resR1 (res1_tmp rfl), hX, rfl⟩
    · have hsm := hbg hc1
      have hsm2 := hsm.ops
      refine W_skip ?_
      refine W_seq ?_
      refine W_region ?_
      refine wl_val (rn_loadB s_72 rfl rfl hB1) ?_
      refine wl_call e_24 rfl (text_ok w3 s ⟨_, _, ps, rfl, hts, ⟨hT.ext hX (fun _ h => h), fun p hp => (hin p hp).ext hX (fun _ h => h)⟩, hP.ext hX (fun _ h => h)⟩ hsm (hTb.non hX)) ?_; intro v20 w4 hE4 hR4
      replace hX := hX.tr hE4
      replace hB1 := hB1.ext hE4 id
      subst hR4
      refine wl_val (rn_move (by conv => lhs; whnf)) ?_
      refine wl_val (rn_extract rfl rfl) ?_
      refine wl_val (rn_extract rfl rfl) ?_
      refine wl_val (rn_assign (by conv => lhs; whnf)) ?_
      refine wl_val (rn_assign (by conv => lhs; whnf)) ?_
      refine wl_nil ?_
      refine W_seq ?_
      refine W_region ?_
      refine wl_val (rn_loadB s_72 rfl rfl hB1) ?_
      refine wl_call e_25 rfl (rtext20_ok w4 s ⟨_, _, ps, rfl, hts, ⟨hT.ext hX (fun _ h => h), fun p hp => (hin p hp).ext hX (fun _ h => h)⟩, hP.ext hX (fun _ h => h)⟩ hsm) ?_; intro v25 w5 hE5 hR5
      replace hX := hX.tr hE5
      replace hB1 := hB1.ext hE5 id
      subst hR5
      refine wl_val (rn_move (by conv => lhs; whnf)) ?_
      refine wl_val (rn_extract rfl rfl) ?_
      refine wl_val (rn_extract rfl rfl) ?_
      refine wl_val (rn_assign (by conv => lhs; whnf)) ?_
      refine wl_val (rn_assign (by conv => lhs; whnf)) ?_
      refine wl_nil ?_
      refine W_seq ?_
      refine W_region ?_
      refine wl_val (rn_loadB s_72 rfl rfl hB1) ?_
      refine wl_call e_26 rfl (merge_ok w5 s ⟨_, _, ps, rfl, hts, ⟨hT.ext hX (fun _ h => h), fun p hp => (hin p hp).ext hX (fun _ h => h)⟩, hP.ext hX (fun _ h => h)⟩ (by have := hsm.th; omega) (by have := hsm.ops; omega)) ?_; intro v29 w6 hE6 hR6
      replace hX := hX.tr hE6
      replace hB1 := hB1.ext hE6 id
      obtain ⟨o29, hO, ho⟩ := hR6
      obtain ⟨a29, c29, hv29⟩ := id hO.len; rw [List.length_map] at hv29; subst hv29
      refine wl_val (rn_assign (by conv => lhs; whnf)) ?_
      refine wl_nil ?_
      refine W_seq ?_
      refine W_seq ?_
      refine W_drawE mixed ?_; intro w7 hE7
      replace hX := hX.tr hE7
      replace hB1 := hB1.ext hE7 id
      replace hO := hO.ext hE7 (fun _ _ h => h)
      have hS := Ext.refl Non w7
      refine wd_take 0 _ _ rfl (by kernel_rfl) hS (yd_do fun A hA => rn_loadB s_72 rfl rfl (hB1.ext hA id)) ?_
      refine wd_take 2 _ _ rfl (by kernel_rfl) hS (yd_do fun A hA => rn_loadB s_72 rfl rfl (hB1.ext hA id)) ?_
      refine wd_only 1 _ rfl (by kernel_rfl) ?_
      refine s1_do ?_
      refine wl_call e_27 rfl (right_ok w7 s ⟨_, _, ps, rfl, hts, ⟨(hT.ext hX (fun _ h => h)).ext hS (fun _ h => h.elim), fun p hp => ((hin p hp).ext hX (fun _ h => h)).ext hS (fun _ h => h.elim)⟩, (hP.ext hX (fun _ h => h)).ext hS (fun _ h => h.elim)⟩ (by have := hsm.ops; omega)) ?_; intro v31 w8 hE8 hR8
      replace hS := hS.tr hE8
      subst hR8
      refine wl_nil ⟨hS, ?_⟩
      refine wd_only 3 _ rfl (by kernel_rfl) ?_
      refine s1_do ?_
      refine wl_call e_28 rfl (rright_ok w8 s ⟨_, _, ps, rfl, hts, ⟨(hT.ext hX (fun _ h => h)).ext hS (fun _ h => h.elim), fun p hp => ((hin p hp).ext hX (fun _ h => h)).ext hS (fun _ h => h.elim)⟩, (hP.ext hX (fun _ h => h)).ext hS (fun _ h => h.elim)⟩ (by have := hsm.ops; omega)) ?_; intro v33 w9 hE9 hR9
      replace hS := hS.tr hE9
      subst hR9
      refine wl_nil ⟨hS, ?_⟩
      refine wd_take 4 _ _ rfl (by kernel_rfl) hS (yd_do fun A hA => rn_bneq ub_4 rfl rfl) ?_
      refine wd_take 5 _ _ rfl (by kernel_rfl) hS (yd_do fun A hA => rn_move (by conv => lhs; whnf)) ?_
      refine wd_split (d := 35) rfl (fun hg35 => ?_) (fun hg35 => ?_)
      · exact absurd hg35 (by simp)
      · refine wd_take 6 _ _ rfl (by kernel_rfl) hS (yd_yes rfl (congrArg Value.bool hg35) fun A hA => rn_move (by conv => lhs; whnf)) ?_
        refine wd_take 7 _ _ rfl (by kernel_rfl) hS (yd_yes rfl (congrArg Value.bool hg35) fun A hA => rn_move (by conv => lhs; whnf)) ?_
        refine wd_take 8 _ _ rfl (by kernel_rfl) hS (yd_yes rfl (congrArg Value.bool hg35) fun A hA => rn_sneq rfl rfl) ?_
        refine wd_take 9 _ _ rfl (by kernel_rfl) hS (yd_do fun A hA => rn_pickF (congrArg Value.bool hg35) (by conv => lhs; whnf)) ?_
        refine wd_take 10 _ _ rfl (by kernel_rfl) hS (yd_do fun A hA => rn_move (by conv => lhs; whnf)) ?_
        refine wd_split (d := 40) rfl (fun hg40 => ?_) (fun hg40 => ?_)
        · exact absurd hg40 (by simp)
        · refine wd_take 11 _ _ rfl (by kernel_rfl) hS (yd_yes rfl (congrArg Value.bool hg40) fun A hA => rn_move (by conv => lhs; whnf)) ?_
          refine wd_take 12 _ _ rfl (by kernel_rfl) hS (yd_yes rfl (congrArg Value.bool hg40) fun A hA => rn_move (by conv => lhs; whnf)) ?_
          refine wd_take 13 _ _ rfl (by kernel_rfl) hS (yd_yes rfl (congrArg Value.bool hg40) fun A hA => rn_neq rfl rfl) ?_
          refine wd_take 14 _ _ rfl (by kernel_rfl) hS (yd_do fun A hA => rn_pickF (congrArg Value.bool hg40) (by conv => lhs; whnf)) ?_
          refine wd_take 15 _ _ rfl (by kernel_rfl) hS (yd_do fun A hA => rn_move (by conv => lhs; whnf)) ?_
          refine wd_split (d := 45) rfl (fun hg45 => ?_) (fun hg45 => ?_)
          · exact absurd hg45 (by simp)
          · refine wd_take 16 _ _ rfl (by kernel_rfl) hS (yd_yes rfl (congrArg Value.bool hg45) fun A hA => rn_move (by conv => lhs; whnf)) ?_
            refine wd_take 17 _ _ rfl (by kernel_rfl) hS (yd_yes rfl (congrArg Value.bool hg45) fun A hA => rn_len sl_78 rfl) ?_
            refine wd_take 18 _ _ rfl (by kernel_rfl) hS (yd_yes rfl (congrArg Value.bool hg45) fun A hA => rn_loadB s_72 rfl rfl (hB1.ext hA id)) ?_
            refine wd_only 19 _ rfl (by kernel_rfl) ?_
            refine s1_yes rfl (congrArg Value.bool hg45) ?_
            refine wl_call e_29 rfl (count_ok w9 s ⟨_, _, ps, rfl, hts, ⟨(hT.ext hX (fun _ h => h)).ext hS (fun _ h => h.elim), fun p hp => ((hin p hp).ext hX (fun _ h => h)).ext hS (fun _ h => h.elim)⟩, (hP.ext hX (fun _ h => h)).ext hS (fun _ h => h.elim)⟩ (by have := hsm.th; omega) (by have := hsm.ops; omega)) ?_; intro v49 w10 hE10 hR10
            replace hS := hS.tr hE10
            subst hR10
            refine wl_nil ⟨hS, ?_⟩
            refine wd_take 20 _ _ rfl (by kernel_rfl) hS (yd_yes rfl (congrArg Value.bool hg45) fun A hA => rn_neq rfl rfl) ?_
            refine wd_take 21 _ _ rfl (by kernel_rfl) hS (yd_do fun A hA => rn_pickF (congrArg Value.bool hg45) (by conv => lhs; whnf)) ?_
            refine wd_done (by kernel_rfl) ?_ _
            replace hX := hX.tr hS
            replace hB1 := hB1.ext hS id
            replace hO := hO.ext hS (fun _ _ h => h)
            refine W_cond rfl (fun hc2 => ?_) (fun hc2 => ?_)
            · exact absurd hc2 (by simp)
            · refine W_skip ?_
              refine W_seq ?_
              refine W_region ?_
              refine wl_val (rn_assign (by conv => lhs; whnf)) ?_
              refine wl_nil ?_
              refine W_seq ?_
              refine W_seq ?_
              refine W_region ?_
              refine wl_val (rn_assign (by conv => lhs; whnf)) ?_
              refine wl_nil ?_
              refine W_block ?_   -- block 0
              refine W_loopS (S := Nat) [1, 3, 6, 7, 8, 9] (fun i => [.pointer (some ⟨b1, 0, none⟩), Sv (if rightR s = true then textR s else []), .int .i64 (if rightR s = true then 0 else 10), .slice a29 s.ops.length c29, .int .i64 ((psOps (ps.take i)).length : Nat), .int .i64 (i : Nat)]) (fun i A => (Ext Non w A) ∧ (IsBox A b1 [.int .i64 s.subs, .int .i64 s.cap, .slice aT ps.length cT, .slice aP s.picks.length cP]) ∧ (Mine Non w b1) ∧ (i ≤ ps.length ∧ OwO A (.slice a29 s.ops.length c29) o29 5 (s.ops.map OpD.enc))) (fun i => ps.length - i) 0 ⟨rfl, rfl, rfl, rfl, rfl, rfl, trivial⟩ ⟨hX, hB1, hl1, ⟨Nat.zero_le _, hO⟩⟩ ?_
              rintro τ0 i A0 ⟨hX, hB1, hl1, hI0⟩
              obtain ⟨hil, hO⟩ := hI0
              refine W_seq ?_
              refine W_seq ?_
              refine W_region ?_
              refine wl_val (rn_move (by conv => lhs; whnf)) ?_
              refine wl_val (rn_fieldAddr f_72_2 (by decide) rfl) ?_
              refine wl_val (rn_load1 p_70 rfl hB1 rfl) ?_
              refine wl_val (rn_len sl_70 rfl) ?_
              refine wl_val (rn_lss rfl rfl) ?_
              refine wl_nil ?_
              refine W_cond rfl (fun hc3 => ?_) (fun hc3 => ?_)
              · have hlt := of_decide_eq_true hc3; simp only [Int.ofNat_lt] at hlt
                obtain ⟨⟨pv, pt⟩, hi⟩ : ∃ p, ps[i]? = some p := ⟨_, List.getElem?_eq_getElem hlt⟩
                have hpm := List.mem_of_getElem? hi
                have hpt := hin _ hpm
                obtain ⟨ai, ci, hpv, hpb⟩ := id hpt.len
                simp only [List.length_map] at hpv hpb
                subst hpv
                simp only at hpt hpb
                obtain ⟨bT, oT, ea⟩ := hT.base (by intro e; have := congrArg List.length e; simp only [List.length_map, List.length_nil] at this; omega); subst ea
                have hpl := psOps_len hpm
                simp only at hpl
                refine W_skip ?_
                refine W_seq ?_
                refine W_block ?_   -- block 1
                refine W_seq ?_
                refine W_region ?_
                refine wl_val (rn_assign (by conv => lhs; whnf)) ?_
                refine wl_nil ?_
                refine W_block ?_   -- block 2
                refine W_loopS (S := Nat) [1, 3, 6, 7, 8, 9, 10] (fun j => [.pointer (some ⟨b1, 0, none⟩), Sv (if rightR s = true then textR s else []), .int .i64 (if rightR s = true then 0 else 10), .slice a29 s.ops.length c29, .int .i64 ((psOps (ps.take i)).length + j : Nat), .int .i64 (i : Nat), .int .i64 (j : Nat)]) (fun j A => (Ext Non w A) ∧ (IsBox A b1 [.int .i64 s.subs, .int .i64 s.cap, .slice (some ⟨bT, oT, none⟩) ps.length cT, .slice aP s.picks.length cP]) ∧ (Mine Non w b1) ∧ (j ≤ pt.length ∧ OwO A (.slice a29 s.ops.length c29) o29 5 (s.ops.map OpD.enc))) (fun j => pt.length - j) 0 ⟨rfl, rfl, rfl, rfl, rfl, rfl, rfl, trivial⟩ ⟨hX, hB1, hl1, ⟨Nat.zero_le _, hO⟩⟩ ?_
                rintro τ1 j A1 ⟨hX, hB1, hl1, hI1⟩
                obtain ⟨hjl, hO⟩ := hI1
                refine W_seq ?_
                refine W_seq ?_
                refine W_region ?_
                refine wl_val (rn_move (by conv => lhs; whnf)) ?_
                refine wl_val (rn_fieldAddr f_72_2 (by decide) rfl) ?_
                refine wl_val (rn_load1 p_70 rfl hB1 rfl) ?_
                refine wl_val (rn_move (by conv => lhs; whnf)) ?_
                refine wl_val (rn_indexAddr sl_70 rfl rfl (by omega)) ?_
                refine wl_val (rn_load p_78 rfl ((hT.ext hX (fun _ h => h)).at0 (map_at hi) rfl)) ?_
                refine wl_val (rn_len sl_78 rfl) ?_
                refine wl_val (rn_lss rfl rfl) ?_
                refine wl_nil ?_
                refine W_cond rfl (fun hc4 => ?_) (fun hc4 => ?_)
                · have hlt2 := of_decide_eq_true hc4; simp only [Int.ofNat_lt] at hlt2
                  obtain ⟨x, hx⟩ : ∃ x, pt[j]? = some x := ⟨_, List.getElem?_eq_getElem hlt2⟩
                  obtain ⟨bi, oi, ea⟩ := hpt.base (by intro e; have := congrArg List.length e; simp only [List.length_map, List.length_nil] at this; omega); subst ea
                  have hk : s.ops[(psOps (ps.take i)).length + j]? = some x := by rw [hso]; exact psOps_at hi hx
                  have hkl := (List.getElem?_eq_some_iff.1 hk).1
                  obtain ⟨bO, oO, ea⟩ := (hO.sl (M := Non) (fun _ _ h => h)).base (by intro e; have := congrArg List.length e; simp only [List.length_map, List.length_nil] at this; omega); subst ea
                  refine W_skip ?_
                  refine W_seq ?_
                  refine W_block ?_   -- block 3
                  refine W_seq ?_
                  refine W_seq ?_
                  refine W_drawE mixed ?_; intro w11 hE11
                  replace hX := hX.tr hE11
                  replace hB1 := hB1.ext hE11 id
                  replace hO := hO.ext hE11 (fun _ _ h => h)
                  have hS := Ext.refl Non w11
                  refine wd_take 0 _ _ rfl (by kernel_rfl) hS (yd_do fun A hA => rn_move (by conv => lhs; whnf)) ?_
                  refine wd_take 1 _ _ rfl (by kernel_rfl) hS (yd_do fun A hA => rn_move (by conv => lhs; whnf)) ?_
                  refine wd_take 2 _ _ rfl (by kernel_rfl) hS (yd_do fun A hA => rn_indexAddr sl_78 rfl rfl (by omega)) ?_
                  refine wd_take 3 _ _ rfl (by kernel_rfl) hS (yd_do fun A hA => rn_loadS s_69 rfl rfl (((hO.sl (M := Non) (fun _ _ h => h)).ext hA (fun _ h => h.elim)).all0 (map_at hk))) ?_
                  refine wd_take 4 _ _ rfl (by kernel_rfl) hS (yd_do fun A hA => rn_fieldAddr f_72_2 (by decide) rfl) ?_
                  refine wd_take 5 _ _ rfl (by kernel_rfl) hS (yd_do fun A hA => rn_load1 p_70 rfl (hB1.ext hA id) rfl) ?_
                  refine wd_take 6 _ _ rfl (by kernel_rfl) hS (yd_do fun A hA => rn_move (by conv => lhs; whnf)) ?_
                  refine wd_take 7 _ _ rfl (by kernel_rfl) hS (yd_do fun A hA => rn_indexAddr sl_70 rfl rfl (by omega)) ?_
                  refine wd_take 8 _ _ rfl (by kernel_rfl) hS (yd_do fun A hA => rn_load p_78 rfl (((hT.ext hX (fun _ h => h)).ext hA (fun _ h => h.elim)).at0 (map_at hi) rfl)) ?_
                  refine wd_take 9 _ _ rfl (by kernel_rfl) hS (yd_do fun A hA => rn_move (by conv => lhs; whnf)) ?_
                  refine wd_take 10 _ _ rfl (by kernel_rfl) hS (yd_do fun A hA => rn_indexAddr sl_78 rfl rfl (by omega)) ?_
                  refine wd_take 11 _ _ rfl (by kernel_rfl) hS (yd_do fun A hA => rn_loadS s_69 rfl rfl (((hpt.ext hX (fun _ h => h)).ext hA (fun _ h => h.elim)).all0 (map_at hx))) ?_
                  refine wd_take 12 _ _ rfl (by kernel_rfl) hS (yd_do fun A hA => rn_neqS rfl rfl eg_69 (by decide) (op_eqs _ _)) ?_
                  refine wd_done (by kernel_rfl) ?_ _
                  replace hX := hX.tr hS
                  replace hB1 := hB1.ext hS id
                  replace hO := hO.ext hS (fun _ _ h => h)
                  refine W_cond rfl (fun hc5 => ?_) (fun hc5 => ?_)
                  · exact absurd hc5 (by simp)
                  · refine W_skip ?_
                    refine W_region ?_
                    refine wl_val (rn_move (by conv => lhs; whnf)) ?_
                    refine wl_val (rn_add rfl rfl (by omega)) ?_
                    refine wl_val (rn_assign (by conv => lhs; whnf)) ?_
                    refine wl_nil ?_
                    refine W_region ?_
                    refine wl_val (rn_move (by conv => lhs; whnf)) ?_
                    refine wl_val (rn_add rfl rfl (by omega)) ?_
                    refine wl_val (rn_assign (by conv => lhs; whnf)) ?_
                    refine wl_nil ?_
                    
                    exact ⟨rfl, j + 1, ⟨rfl, rfl, rfl, rfl, congrArg (Value.int .i64) (by omega), rfl, rfl, trivial⟩, ⟨hX, hB1, hl1, ⟨hlt2, hO⟩⟩, by show pt.length - (j + 1) < pt.length - j; omega⟩
                · have hge2 := of_decide_eq_false hc4; simp only [Int.ofNat_lt, Nat.not_lt] at hge2
                  have hje : j = pt.length := by omega
                  subst hje
                  refine W_exit ?_   -- exit 2
                  refine W_region ?_
                  refine wl_val (rn_move (by conv => lhs; whnf)) ?_
                  refine wl_val (rn_add rfl rfl (by omega)) ?_
                  refine wl_val (rn_assign (by conv => lhs; whnf)) ?_
                  refine wl_nil ?_
                  
                  exact ⟨rfl, i + 1, ⟨rfl, rfl, rfl, rfl, by rw [psOps_step hi, List.length_append]; rfl, rfl, trivial⟩, ⟨hX, hB1, hl1, ⟨hlt, hO⟩⟩, by show ps.length - (i + 1) < ps.length - i; omega⟩
              · have hge := of_decide_eq_false hc3; simp only [Int.ofNat_lt, Nat.not_lt] at hge
                have hie : i = ps.length := by omega
                subst hie
                refine W_exit ?_   -- exit 0
                refine W_seq ?_
                refine W_seq ?_
                refine W_region ?_
                refine wl_val (rn_move (by conv => lhs; whnf)) ?_
                refine wl_val (rn_neq rfl rfl) ?_
                refine wl_nil ?_
                refine W_cond rfl (fun hc6 => ?_) (fun hc6 => ?_)
                · refine W_seq ?_
                  refine W_region ?_
                  refine wl_val (rn_assign (by conv => lhs; whnf)) ?_
                  refine wl_nil ?_
                  refine W_ret ?_
                  first | exact ⟨_, resR1 (res1_tmp rfl), hX, rfl⟩
                · have hr : rightR s = true := by apply Classical.byContradiction; intro h; rw [if_neg h] at hc6; exact absurd hc6 (by decide)
                  have hrp := (right_iff s).1 hr
                  rw [if_pos hr]
                  refine W_skip ?_
                  refine W_seq ?_
                  refine W_region ?_
                  refine wl_val (rn_move (by conv => lhs; whnf)) ?_
                  refine wl_call e_30 rfl (sparse_ok A0 (cmdsOf s) (Runs_cmds hrp hsm) (cmds_len hsm).2 (by have := (cmds_len hsm).1; omega) (lines_lenF hrp hsm hts) (hTb.non hX) (hR.non hX)) ?_; intro v88 w12 hE12 hR12
                  replace hX := hX.tr hE12
                  replace hB1 := hB1.ext hE12 id
                  replace hO := hO.ext hE12 (fun _ _ h => h)
                  obtain ⟨q, rfl, hq⟩ := hR12
                  rw [(runs_cmds s).1] at hq
                  obtain ⟨vT2, vP2, ps2, rfl, hts2, hTh2, hP2⟩ := id hq
                  obtain ⟨aT2, cT2, rfl, _⟩ := id hTh2.1.len; obtain ⟨aP2, cP2, rfl, _⟩ := id hP2.len
                  obtain ⟨nq, hnq⟩ : ∃ n, n = (World.heap w12).size := ⟨_, rfl⟩
                  replace hq := hq.sub (M' := fun i => nq ≤ i) (fun i hi hlt => by have hi : nq ≤ i := hi; omega)
                  have hzq : nq ≤ (World.heap w12).size := Nat.le_of_eq hnq
                  refine wl_val (rn_move (by conv => lhs; whnf)) ?_
                  refine wl_val (rn_extract rfl rfl) ?_
                  refine wl_val (rn_extract rfl rfl) ?_
                  refine wl_val (rn_extract rfl rfl) ?_
                  refine wl_alloc z_72 ?_; intro b11 w13 hb11 hE13 hB11
                  have hn1_11 : b1 < b11 := Nat.lt_of_lt_of_le hB1.lt hb11
                  have hq11 : w.heap.size ≤ b11 := Nat.le_trans hX.size hb11
                  have hl11 : Mine Non w b11 := .inr hq11
                  have hnb11 : nq ≤ b11 := Nat.le_trans hzq hb11
                  replace hX := hX.tr hE13
                  replace hB1 := hB1.ext hE13 id
                  replace hq := hq.ext hE13 (fun _ h => h.elim)
                  replace hzq := Nat.le_trans hzq hE13.size
                  have hBo := hB11
                  refine wl_storeB s_72 rfl rfl rfl (fun v hv => by have hv2 : v ∈ [Value.int .i64 _, Value.int .i64 _, Value.slice _ _ _, Value.slice _ _ _] := hv; simp only [List.mem_cons, List.not_mem_nil, or_false] at hv2; rcases hv2 with rfl | rfl | rfl | rfl <;> rfl) hB11 rfl ?_; intro w14 hE14 hB11 hz14
                  replace hX := hX.mine hE14 hl11
                  replace hB1 := hB1.ext hE14 (fun h => by omega)
                  replace hq := hq.ext hE14 (fun i e => by subst e; exact hnb11)
                  replace hzq := Nat.le_trans hzq hE14.size
                  refine wl_val (rn_assign (by conv => lhs; whnf)) ?_
                  refine wl_val (rn_assign (by conv => lhs; whnf)) ?_
                  refine wl_nil ?_
                  refine W_seq ?_
                  refine W_region ?_
                  refine wl_val (rn_move (by conv => lhs; whnf)) ?_
                  refine wl_val (rn_eql rfl rfl) ?_
                  refine wl_val (rn_move (by conv => lhs; whnf)) ?_
                  refine wl_yes rfl rfl ?_
                  refine wl_val (rn_move (by conv => lhs; whnf)) ?_
                  refine wl_yes rfl rfl ?_
                  refine wl_val (rn_eql rfl rfl) ?_
                  refine wl_val (rn_pickT rfl (by conv => lhs; whnf)) ?_
                  refine wl_val (rn_move (by conv => lhs; whnf)) ?_
                  refine wl_yes rfl rfl ?_
                  refine wl_val (rn_loadB s_72 rfl rfl hB11) ?_
                  refine wl_yes rfl rfl ?_
                  refine wl_val (rn_loadB s_72 rfl rfl hB1) ?_
                  refine wl_yes rfl rfl ?_
                  refine wl_call e_31 rfl (same_ok w14 s (hq.sub (fun i hi _ => hi.elim)) ⟨_, _, ps, rfl, hts, ⟨hT.ext hX (fun _ h => h), fun p hp => (hin p hp).ext hX (fun _ h => h)⟩, hP.ext hX (fun _ h => h)⟩) ?_; intro v101 w15 hE15 hR15
                  replace hX := hX.tr hE15
                  replace hB1 := hB1.ext hE15 id; replace hB11 := hB11.ext hE15 id
                  replace hq := hq.ext hE15 (fun _ h => h.elim)
                  replace hzq := Nat.le_trans hzq hE15.size
                  subst hR15
                  refine wl_val (rn_pickT rfl (by conv => lhs; whnf)) ?_
                  refine wl_val (rn_assign (by conv => lhs; whnf)) ?_
                  refine wl_nil ?_
                  refine W_ret ?_
                  first | exact ⟨_, resR1 (res1_tmp rfl), hX, rfl⟩
end Go.Proofs.YthcclgoidchkdaaGreatDoorC

/- What the rows of the laws on texts share: how their arguments read. -/
set_option linter.unusedVariables false
set_option linter.unusedSimpArgs false
namespace Go.Proofs.YthcclgoidchkdaaGreatDoor
open Go.RowKit Go.Proofs.YthcclgoidchkdaaGreatDoorC Go.ChangeShapes
theorem own3 : ownKnob Tryz.prog.godebug = none := by kernel_rfl
theorem laidOut3 : laidOutB Tryz.prog = true := by kernel_rfl
end Go.Proofs.YthcclgoidchkdaaGreatDoor

/- How arguments of calls, operations, numbers read; the library's table of powers, off the row. -/
set_option linter.unusedVariables false
set_option linter.unusedSimpArgs false
namespace Go.Proofs.YthcclgoidchkdaaGreatDoor
open Go.RowKit Go.Proofs.YthcclgoidchkdaaGreatDoorC Go.ChangeShapes
theorem op_flat : flatT Tryz.prog 5 69 = some [.int .i64, .int .i64, .str, .str, .bool] := by kernel_rfl
theorem ops_of : ∀ (rows : List (List Value)), (∀ r ∈ rows, flatOk [.int .i64, .int .i64, .str, .str, .bool] r) → ∃ cs : List OpD, rows = cs.map OpD.enc
  | [], _ => ⟨[], rfl⟩
  | r :: rows, h => by
    obtain ⟨cs, hcs⟩ := ops_of rows (fun x hx => h x (by simp [hx]))
    have hr := h r (by simp)
    obtain ⟨_, r1, e1, ⟨a1, rfl, _⟩, h1⟩ := hr.cons
    obtain ⟨_, r2, e2, ⟨a2, rfl, _⟩, h2⟩ := h1.cons
    obtain ⟨_, r3, e3, ⟨a3, rfl, _⟩, h3⟩ := h2.cons
    obtain ⟨_, r4, e4, ⟨a4, rfl, _⟩, h4⟩ := h3.cons
    obtain ⟨_, r5, e5, ⟨a5, rfl⟩, h5⟩ := h4.cons
    have e6 := h5.nil
    exact ⟨⟨a1, a2, a3, a4, a5⟩ :: cs, by rw [hcs, e1, e2, e3, e4, e5, e6]; rfl⟩
theorem int_flat : flatT Tryz.prog 1 3 = some [.int .i64] := by kernel_rfl
theorem ints_of : ∀ (rows : List (List Value)), (∀ r ∈ rows, flatOk [.int .i64] r) → ∃ l : List Int, rows = l.map eI1
  | [], _ => ⟨[], rfl⟩
  | r :: rows, h => by
    obtain ⟨l, hl⟩ := ints_of rows (fun x hx => h x (by simp [hx]))
    obtain ⟨_, r1, e1, ⟨a1, rfl, _⟩, h1⟩ := (h r (by simp)).cons
    have e2 := h1.nil
    exact ⟨a1 :: l, by rw [hl, e1, e2]; rfl⟩
theorem laidMet_tail {P : Program} {W : World} {x : String × DataW Unit} {r : List (String × DataW Unit)} (h : laidMet P (x :: r) W) : laidMet P r W := by
  obtain ⟨ps, ⟨g, t, cs, fuel, p, q, _, _, _, _, hq, rfl⟩, hn, hp⟩ := h
  exact ⟨q, hq, (List.nodup_append.1 hn).2.1, fun b off hb => hp b off (by simp [hb])⟩
theorem laidMet_mem {P : Program} {W : World} : ∀ {L : List (String × DataW Unit)}, laidMet P L W → ∀ x ∈ L, ∃ r, laidMet P (x :: r) W
  | [], _, x, hx => by cases hx
  | y :: r, h, x, hx => by
    rcases List.mem_cons.1 hx with rfl | hx
    · exact ⟨r, h⟩
    · exact laidMet_mem (laidMet_tail h) x hx
theorem tab_ty : (Tryz.prog.globalNamed "internal/strconv.uint64pow10").bind (fun g => (Tryz.prog.globals[g]?).map (·.type)) = some 288 := by kernel_rfl
theorem tab_data : (Rows.laid_internal_strconv_uint64pow10 : DataW Unit) = Lib.tabData .u64 Lib.pow10Tab := by kernel_rfl
/-- The table stands, where the row's list names it. -/
theorem tab_of {L : List (String × DataW Unit)} {W : World} (hp : (L.all fun x => x.2.handleName?.isNone) = true) (h : laidMetH Tryz.prog L W) (hm : ("internal/strconv.uint64pow10", Rows.laid_internal_strconv_uint64pow10) ∈ L) : Tab W := by
  rw [MakeChecks.laidMetH_plain _ _ _ hp] at h
  obtain ⟨r, h⟩ := laidMet_mem h _ hm
  rw [tab_data] at h
  cases hg : Tryz.prog.globalNamed "internal/strconv.uint64pow10" with
  | none => have := tab_ty; rw [hg] at this; cases this
  | some g =>
    have hty := tab_ty
    rw [hg] at hty
    exact Lib.tabIs_of_head hg hty (n := 20) (e := 260) (by kernel_rfl) (by kernel_rfl) (by kernel_rfl) (by kernel_rfl) h
end Go.Proofs.YthcclgoidchkdaaGreatDoor

/- The library's two errors, off the row. -/
set_option linter.unusedVariables false
set_option linter.unusedSimpArgs false
namespace Go.Proofs.YthcclgoidchkdaaGreatDoor
open Go.RowKit Go.Proofs.YthcclgoidchkdaaGreatDoorC Go.ChangeShapes
theorem err_at {P : Program} {n name : String} {d : DataW Unit} {r : List (String × DataW Unit)} {W : World} {g : Nat} {ti : TypeId} {ms : Array (String × TypeId)} (hg : P.globalNamed n = some g) (hty : (P.globals[g]?).map (·.type) = some ti) (hi : P.underlying ti = some (.interface ms))
    (h : laidMet P ((n, .iface name d) :: r) W) : ∃ t p, W.cell? ⟨g, 0, none⟩ = some (.iface t p) := by
  obtain ⟨ps, ⟨g', t, cs, fuel, p, q, h1, h2, h3, h4, h5, h6⟩, _, _⟩ := h
  rw [hg] at h1; cases h1
  rw [hty] at h2; cases h2
  obtain ⟨f', u, v, hc, _⟩ := iface_of_trod hi h4
  refine ⟨u, v, ?_⟩
  unfold World.var? at h3
  rw [hg] at h3
  simp only [Option.bind_some] at h3
  cases hh : W.heap[g]? with
  | none => rw [hh] at h3; cases h3
  | some o =>
    rw [hh] at h3
    cases o with
    | cells c a b =>
      simp only [Option.some.injEq] at h3
      subst h3
      have : c = #[.iface u v] := by rw [← Array.toList_inj]; simpa using hc
      simp [World.cell?, hh, this]
    | _ => cases h3
theorem errs_of {L : List (String × DataW Unit)} {W : World} (hp : (L.all fun x => x.2.handleName?.isNone) = true) (h : laidMetH Tryz.prog L W) (h1 : ("strconv.ErrSyntax", Rows.laid_strconv_ErrSyntax) ∈ L) (h2 : ("strconv.ErrRange", Rows.laid_strconv_ErrRange) ∈ L) : ErrS W := by
  rw [MakeChecks.laidMetH_plain _ _ _ hp] at h
  obtain ⟨r1, k1⟩ := laidMet_mem h _ h1
  obtain ⟨r2, k2⟩ := laidMet_mem h _ h2
  exact ⟨err_at (n := "strconv.ErrSyntax") (ti := 169) (by kernel_rfl) (by kernel_rfl) Tryz.underlying169 k1, err_at (n := "strconv.ErrRange") (ti := 169) (by kernel_rfl) (by kernel_rfl) Tryz.underlying169 k2⟩
end Go.Proofs.YthcclgoidchkdaaGreatDoor

/- The row of a law that lists variables, its input's weights handed on; each rule holds of whatever program. -/
set_option linter.unusedVariables false
set_option linter.unusedSimpArgs false
namespace Go.Proofs.YthcclgoidchkdaaGreatDoorC
open Go.ChangeShapes Go.WideShapes Go.ChangeAt Go.RowKit
/-- A law that returns true, and leaves what was as it was: its row, where variables are laid. -/
theorem law_liftedW {laidL : List (String × DataW Unit)} {a : Assume} {C : Checked} {os : Os} {f : FuncId} {fn : Func} {s : ChangeSpec} {conds : List PathCond} {apart fresh handsOn : Bool} {H : Type} {enc : TypeId × Value → H} {tb : TypeId}
    (own : ownKnob C.prog.godebug = none) (started : os.Started) (noInit : C.prog.inits.idxOf? f = none) (hfn : C.prog.funcs[f]? = some fn)
    (witness : ∃ (w : World) (tape : Tape) (i : Input), w.os = os ∧ (w.forCall tape i).Shaped C.prog ∧ i.vars = [] ∧ Input.okWide C.prog (w.forCall tape i) .any w.heap.size f i ∧
      ((s.pre enc C.prog fn conds apart (w.forCall tape i).memory i.args ∧ laidMetH C.prog laidL (w.forCall tape i).memory) ∧ sizedMet enc C.prog fn (OpenSpec.ofChange s) apart (w.forCall tape i).memory i.args) ∧ a.holds C.prog (lone (Frame.enter C.prog f i.args .normal) [] (w.forCall tape i)))
    (laid : laidOutB C.prog = true) (hts : (fn.params.toList.all fun t => C.prog.readableRec t && decide (t < C.prog.types.size)) = true) (hres : fn.resultTypes.toList = [tb]) (htb : C.prog.underlying tb = some .bool) (hvars : s.vars = [])
    (hs : ∀ ds : List (DataW H), ds.length = fn.params.toList.length → s.fn H ds = { results := [.lit (.bool true)], args := ds })
    (contract : ∀ (W : World) (base : Nat) (args : Array Value) (ds : List (DataW H)) (ps : List MemPlace), (∀ (j : Nat) t v, fn.params[j]? = some t → args[j]? = some v → Value.okWide C.prog W .any base t v) →
      DataW.TrodAll enc C.prog W 0 (fun _ => true) true fn.params.toList args.toList ds ps → (DataW.weightsEach C.prog fn.params.toList ds).all (· ≤ reachBytes) = true → laidMetH C.prog laidL W → Fn C.prog f args W fun v _ => v = .bool true) :
    ReturnsInHanded a C os f .any (fun w args => (s.pre enc C.prog fn conds apart w args ∧ laidMetH C.prog laidL w) ∧ sizedMet enc C.prog fn (OpenSpec.ofChange s) apart w args) (s.post enc C.prog fn apart fresh handsOn false) := by
  refine returnsInHanded_of_change_and (X := fun w _ => laidMetH C.prog laidL w) (fun _ _ _ hh h => h.of_heap hh) own started noInit hfn witness ?_
  intro W base args ds gs before hval hW _ hwt hL _
  have hW' := hW
  obtain ⟨p, q, hA, hV, rfl, _, _⟩ := hW
  rw [hvars] at hV
  obtain ⟨rfl, rfl⟩ := trodVars_none hV
  have hvt : s.plain.varTypes C.prog = [] := by simp [ChangeSpec.plain, DataSpec.varTypes, hvars]
  rw [hvt, List.append_nil, List.append_nil] at hwt
  refine Calls.mono (contract W base args ds p hval hA hwt hL) fun e W' ⟨v, he, hE, hv⟩ => ?_
  subst hv
  refine ⟨_, he, ?_⟩
  have hlen : ∀ (ts : List TypeId) (vs : List Value) (ds : List (DataW H)) (ps : List MemPlace), DataW.TrodAll enc C.prog W 0 (fun _ => true) true ts vs ds ps → ds.length = ts.length := by
    intro ts
    induction ts with
    | nil => intro vs ds ps h; cases vs <;> cases ds <;> first | rfl | exact h.elim
    | cons t ts ih =>
      intro vs ds ps h
      cases vs with
      | nil => exact h.elim
      | cons v vs =>
        cases ds with
        | nil => exact h.elim
        | cons d ds => obtain ⟨p, q, _, h2, _⟩ := h; simp [ih _ _ _ h2]
  have hfn' : s.fn H (ds ++ []) = { results := [.lit (.bool true)], args := ds } := by rw [List.append_nil]; exact hs ds (hlen _ _ _ _ hA)
  refine ⟨ds, [], p ++ [], [], p, [], hW', ?_, ?_, ?_, hE.below.frame _, fun h => by cases h⟩
  · rw [hfn', hres]
    have : fn.resultTypes.size = 1 := by rw [← Array.length_toList, hres]; rfl
    rw [this]
    exact trodAll_mk1 (shut_bool htb true)
  · rw [hfn']
    exact trodAll_stays laid hE.below _ _ _ _ hts hA (fun x hx => by simpa using hW'.lt x (by simp [hx]))
  · rw [hfn', hvars]; rfl
end Go.Proofs.YthcclgoidchkdaaGreatDoorC
