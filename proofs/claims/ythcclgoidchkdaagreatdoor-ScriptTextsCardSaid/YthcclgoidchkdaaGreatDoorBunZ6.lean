/- Texts joined into one: OpN OpR Op8 Op9 Op10 Op11 Op12 Op13 OpL Op14 Op15. -/
import Derived.Test.YthcclgoidchkdaaGreatDoorBunZ4
import Derived.Lib.Atoi
import Derived.Lib.AtoiTie
import Derived.Lib.AtoiAll
import Derived.Test.YthcclgoidchkdaaGreatDoorBunZ3
import Derived.Test.YthcclgoidchkdaaGreatDoorBunZ5
import Derived.Shelf.Strconv.AtoiAll
/- Numerals of at most four digits; plain. -/
set_option linter.unusedVariables false
set_option linter.unusedSimpArgs false
namespace Go.Proofs.YthcclgoidchkdaaGreatDoorC
open Go.RowKit Go.Lib
theorem decFrom_app : ∀ (a b : Str) (acc : Nat), decFrom acc (a ++ b) = (decFrom acc a).bind fun n => decFrom n b
  | [], b, acc => rfl
  | x :: a, b, acc => by
    simp only [List.cons_append, decFrom]
    cases digitVal x with
    | none => rfl
    | some d => exact decFrom_app a b _
theorem digitVal_of {n : Nat} (h : n < 10) : digitVal (UInt8.ofNat (48 + n)) = some n := by
  have : ∀ k : Fin 10, digitVal (UInt8.ofNat (48 + k.val)) = some k.val := by decide
  exact this ⟨n, h⟩
theorem dec_num : ∀ n : Nat, decFrom 0 (decDigits n) = some n := by
  intro n
  induction n using Nat.strongRecOn with
  | ind n ih =>
    by_cases h : n < 10
    · rw [decDigits_one h]
      show (match digitVal (UInt8.ofNat (48 + n)) with | some d => some (0 * 10 + d) | none => none) = _
      rw [digitVal_of h]; simp
    · rw [dec_snoc h, decFrom_app, ih (n / 10) (by omega), decDigits_one (show n % 10 < 10 by omega)]
      show (match digitVal (UInt8.ofNat (48 + n % 10)) with | some d => some (n / 10 * 10 + d) | none => none) = _
      rw [digitVal_of (show n % 10 < 10 by omega)]
      exact congrArg some (by omega)
theorem dec_ne (n : Nat) : decDigits n ≠ [] := by
  intro h; have := decDigits_length n; rw [h, nDigits] at this; simp at this; split at this <;> omega
theorem dec_head : ∀ n : Nat, 1 ≤ n → (decDigits n)[0]? ≠ some 48 := by
  intro n
  induction n using Nat.strongRecOn with
  | ind n ih =>
    intro h1
    by_cases h : n < 10
    · rw [decDigits_one h]
      have : ∀ k : Fin 10, 1 ≤ k.val → ¬ UInt8.ofNat (48 + k.val) = 48 := by decide
      simpa using this ⟨n, h⟩ h1
    · rw [dec_snoc h, List.getElem?_append_left (by have := List.length_pos_iff.2 (dec_ne (n / 10)); exact this)]
      exact ih (n / 10) (by omega) (by omega)
/-- A number of at most four digits, as the document reads it. -/
def numS (s : Str) : Option Nat := if s.length < 1 ∨ 4 < s.length ∨ (1 < s.length ∧ s[0]? = some 48) then none else decFrom 0 s
theorem num_dec {n : Nat} (h : n ≤ 9999) : numS (decDigits n) = some n := by
  unfold numS
  rw [if_neg, dec_num]
  have hl := dec_len h
  have hp := List.length_pos_iff.2 (dec_ne n)
  rintro (h1 | h1 | ⟨h1, h2⟩)
  · omega
  · omega
  · refine dec_head n ?_ h2
    apply Classical.byContradiction
    intro h0
    rw [show n = 0 by omega, decDigits_one (by decide)] at h1
    simp at h1
theorem dec_of : ∀ (k : Nat) (s : Str) (n : Nat), s.length = k → decFrom 0 s = some n → s ≠ [] → (1 < s.length → s[0]? ≠ some 48) → decDigits n = s := by
  intro k
  induction k using Nat.strongRecOn with
  | ind k ih =>
    intro s n hk hd hne hh
    obtain ⟨t, c, rfl⟩ : ∃ t c, s = t ++ [c] := ⟨s.dropLast, s.getLast hne, (List.dropLast_concat_getLast hne).symm⟩
    rw [decFrom_app] at hd
    cases ht : decFrom 0 t with
    | none => rw [ht] at hd; cases hd
    | some m =>
      rw [ht] at hd
      simp only [Option.bind_some, decFrom] at hd
      cases hc : digitVal c with
      | none => rw [hc] at hd; cases hd
      | some d =>
        rw [hc] at hd
        simp only [Option.some.injEq] at hd
        have hcd : d < 10 ∧ c = UInt8.ofNat (48 + d) := by
          unfold digitVal at hc
          split at hc
          · rename_i h
            simp only [Option.some.injEq] at hc
            refine ⟨by omega, UInt8.toNat_inj.1 ?_⟩
            simp; omega
          · cases hc
        by_cases h0 : t = []
        · subst h0
          simp only [decFrom, Option.some.injEq] at ht
          subst ht
          rw [← hd, Nat.zero_mul, Nat.zero_add, decDigits_one hcd.1, hcd.2]; rfl
        · have hlt : 1 ≤ t.length := List.length_pos_iff.2 h0
          have hh2 : t[0]? ≠ some 48 := by
            have := hh (by simp; omega)
            rw [List.getElem?_append_left (by omega)] at this; exact this
          have h1 := ih t.length (by simp at hk; omega) t m rfl ht h0 (fun _ => hh2)
          have hm : 1 ≤ m := by
            apply Classical.byContradiction
            intro h2
            rw [show m = 0 by omega, decDigits_one (by decide)] at h1
            rw [← h1] at hh2; exact hh2 rfl
          rw [dec_snoc (show ¬ n < 10 by omega), show n / 10 = m by omega, show n % 10 = d by omega, h1, decDigits_one hcd.1, hcd.2]
theorem ndig_four {n : Nat} (h : (decDigits n).length ≤ 4) : n ≤ 9999 := by
  rw [decDigits_length] at h
  apply Classical.byContradiction
  intro h2
  rw [nDigits_big (by omega), nDigits_big (by omega), nDigits_big (by omega), nDigits_big (by omega)] at h
  have : 1 ≤ nDigits (n / 10 / 10 / 10 / 10) := by rw [nDigits]; split <;> omega
  omega
theorem of_num {s : Str} {n : Nat} (h : numS s = some n) : decDigits n = s ∧ n ≤ 9999 := by
  unfold numS at h
  split at h
  · cases h
  · rename_i h1
    simp only [not_or] at h1
    have := dec_of s.length s n rfl h (fun e => by rw [e] at h1; simp at h1) (fun h2 h3 => h1.2.2 ⟨h2, h3⟩)
    exact ⟨this, ndig_four (by rw [this]; omega)⟩
theorem num_iff (s : Str) (n : Nat) : numS s = some n ↔ decDigits n = s ∧ n ≤ 9999 := ⟨of_num, fun h => by rw [← h.1]; exact num_dec h.2⟩
theorem atoi_dec {n : Nat} (h : n ≤ 9999) : atoiAll (decDigits n) = .ok (n : Int) := by
  rw [atoiAll_short _ (by have := dec_len h; omega)]
  have hd := dec_num n
  have hne := dec_ne n
  cases hs : decDigits n with
  | nil => exact absurd hs hne
  | cons c r =>
    rw [hs] at hd
    have hc : digitVal c ≠ none := by intro e; simp [decFrom, e] at hd
    have hr : 48 ≤ c.toNat ∧ c.toNat ≤ 57 := by unfold digitVal at hc; split at hc; assumption; exact absurd rfl hc
    have h45 : (c == 45) = false := by rw [beq_eq_false_iff_ne]; intro e; rw [e] at hr; revert hr; decide
    have h43 : (c == 43) = false := by rw [beq_eq_false_iff_ne]; intro e; rw [e] at hr; revert hr; decide
    have e : atoi (c :: r) = some (n : Int) := by
      simp only [atoi, h45, h43, Bool.false_eq_true, if_false]
      unfold decNat
      simp [hd]
    rw [e]; rfl
theorem dec_noblank (n : Nat) : ∀ c ∈ decDigits n, c ≠ 32 := by
  intro c hc e
  obtain ⟨k, hk⟩ := List.getElem?_of_mem hc
  obtain ⟨d, hd⟩ := digit_of_decFrom _ 0 n (dec_num n) k c hk
  have h32 : digitVal 32 = none := by decide
  rw [e, h32] at hd; cases hd
end Go.Proofs.YthcclgoidchkdaaGreatDoorC

/- A line's operation; plain. -/
set_option linter.unusedVariables false
set_option linter.unusedSimpArgs false
namespace Go.Proofs.YthcclgoidchkdaaGreatDoorC
open Go.RowKit
def kindOf (h : Str) : Option OpD := if h = sSub then some (oK 1 false) else if h = sUnsub then some (oK 2 false) else if h = sPub then some (oK 3 false) else if h = sKeep then some (oK 3 true) else if h = sPoll then some (oK 4 false) else if h = sDrops then some (oK 5 false) else none
abbrev opV (o : OpD) : Value := .agg o.enc.toArray
theorem kind_get (h : Str) : mget h (List.map (fun p : Str × OpD => (p.1, opV p.2)) namesO) = (kindOf h).map opV := by
  unfold kindOf namesO
  simp only [List.map_cons, List.map_nil, mget]
  repeat' split
  all_goals first | rfl | (simp_all)
end Go.Proofs.YthcclgoidchkdaaGreatDoorC

/- Cutting a line at its blanks: the library's and the document's; a number's digits. -/
set_option linter.unusedVariables false
set_option linter.unusedSimpArgs false
set_option maxRecDepth 100000
namespace Go.Proofs.YthcclgoidchkdaaGreatDoorC
open Go.RowKit
theorem set_fill (done : List Str) (k : Nat) (x : Str) : ((done ++ List.replicate (k + 1) []).map eS1).set done.length [Sv x] = ((done ++ [x]) ++ List.replicate k []).map eS1 := by
  rw [List.map_append, List.set_append_right _ _ (by simp), List.length_map, Nat.sub_self, List.replicate_succ, List.map_cons, List.set_cons_zero]
  simp [eS1]
theorem make_fill (m : Nat) : List.replicate m [Sv []] = (([] : List Str) ++ List.replicate m []).map eS1 := by simp [eS1]

-- strings.genSplit
set_option maxHeartbeats 1600000 in
theorem genSplit_ok (w : World) (s : Str) (hn : s.length ≤ 1000000) : Fn Tryz.prog 151 #[Sv s, Sv [32], .int .i64 0, .int .i64 (-1)] w fun u w' => Sl Non w' u 1 ((spl 32 s).map eS1) := by
  have hcl := List.count_le_length (a := (32 : UInt8)) (l := s)
  have hX := Ext.refl Non w
  refine fn_of_W (args := [_, _, _, _]) Tryz.func151 rfl (by kernel_rfl) rfl ?_
  refine W_seq ?_
  refine W_region ?_
  refine wl_val (rn_assign (by conv => lhs; whnf)) ?_
  refine wl_nil ?_
  refine W_seq ?_
  refine W_seq ?_
  refine W_region ?_
  refine wl_val (rn_move (by conv => lhs; whnf)) ?_
  refine wl_val (rn_eql rfl rfl) ?_
  refine wl_nil ?_
  refine W_condF rfl ?_
  refine W_skip ?_
  refine W_seq ?_
  refine W_seq ?_
  refine W_region ?_
  refine wl_val (rn_move (by conv => lhs; whnf)) ?_
  refine wl_val (rn_seql rfl rfl) ?_
  refine wl_nil ?_
  refine W_cond rfl (fun hc1 => ?_) (fun hc1 => ?_)
  · exact absurd (of_decide_eq_true hc1) (by simp)
  · refine W_skip ?_
    refine W_seq ?_
    refine W_seq ?_
    refine W_region ?_
    refine wl_val (rn_move (by conv => lhs; whnf)) ?_
    refine wl_val (rn_lss rfl rfl) ?_
    refine wl_nil ?_
    refine W_condT rfl ?_
    refine W_region ?_
    refine wl_val (rn_move (by conv => lhs; whnf)) ?_
    refine wl_val (rn_move (by conv => lhs; whnf)) ?_
    refine wl_call e_203 rfl (scount_ok w s 32) ?_; intro v23 w1 hE1 hR1
    replace hX := hX.tr hE1
    subst hR1
    refine wl_val (Rn.cast (rn_add rfl rfl (by omega)) (v' := .int .i64 ((s.count 32 + 1 : Nat) : Int)) rfl) ?_
    refine wl_val (rn_assign (by conv => lhs; whnf)) ?_
    refine wl_nil ?_
    refine W_seq ?_
    refine W_region ?_
    refine wl_val (rn_move (by conv => lhs; whnf)) ?_
    refine wl_val (rn_move (by conv => lhs; whnf)) ?_
    refine wl_val (rn_slen us_9 rfl) ?_
    refine wl_val (rn_add rfl rfl (by omega)) ?_
    refine wl_val (Rn.cast (rn_min2 rfl rfl) (v' := .int .i64 ((s.count 32 + 1 : Nat) : Int)) (congrArg (Value.int .i64) (by split <;> omega))) ?_
    refine wl_val (rn_assign (by conv => lhs; whnf)) ?_
    refine wl_nil ?_
    refine W_seq ?_
    refine W_region ?_
    refine wl_val (rn_move (by conv => lhs; whnf)) ?_
    refine wl_make sl_22 rfl rfl rfl (by omega) (by simp only [big]; omega) ?_; intro w2 b31 hb31 hE2 hO31
    have hq31 : w.heap.size ≤ b31 := Nat.le_trans hX.size hb31
    rw [make_fill] at hO31
    replace hX := hX.tr hE2
    refine wl_val (rn_assign (by conv => lhs; whnf)) ?_
    refine wl_nil ?_
    refine W_seq ?_
    refine W_region ?_
    refine wl_val (rn_move (by conv => lhs; whnf)) ?_
    refine wl_val (Rn.cast (rn_sub rfl rfl (by omega)) (v' := .int .i64 (s.count 32 : Nat)) (congrArg (Value.int .i64) (by omega))) ?_
    refine wl_val (rn_assign (by conv => lhs; whnf)) ?_
    refine wl_nil ?_
    refine W_seq ?_
    refine W_region ?_
    refine wl_val (rn_assign (by conv => lhs; whnf)) ?_
    refine wl_nil ?_
    refine W_seq ?_
    refine W_block ?_   -- block 0
    refine W_loopS (S := Nat × List Str × Str) [0, 1, 2, 3, 9, 10] (fun ⟨i, done, r⟩ => [Sv r, Sv [32], .int .i64 0, .int .i64 (s.count 32 : Nat), .slice (some ⟨b31, 0, none⟩) (s.count 32 + 1) (s.count 32 + 1), .int .i64 (i : Nat)]) (fun ⟨i, done, r⟩ A => (Ext Non w A) ∧ (i ≤ s.count 32 ∧ i = done.length ∧ spl 32 s = done ++ spl 32 r ∧ r.length ≤ 1000000 ∧ Ow A (.slice (some ⟨b31, 0, none⟩) (s.count 32 + 1) (s.count 32 + 1)) b31 1 ((done ++ List.replicate (s.count 32 + 1 - i) []).map eS1) [])) (fun ⟨i, done, r⟩ => s.count 32 - i) (0, [], s) ⟨rfl, rfl, rfl, rfl, rfl, rfl, trivial⟩ ⟨hX, ⟨Nat.zero_le _, rfl, rfl, hn, hO31⟩⟩ ?_
    rintro τ0 ⟨i, done, r⟩ A0 ⟨hX, hI0⟩
    obtain ⟨hI, hdl, hsp, hrn, hO⟩ := hI0
    refine W_seq ?_
    refine W_seq ?_
    refine W_region ?_
    refine wl_val (rn_move (by conv => lhs; whnf)) ?_
    refine wl_val (rn_move (by conv => lhs; whnf)) ?_
    refine wl_val (rn_lss rfl rfl) ?_
    refine wl_nil ?_
    refine W_cond rfl (fun hc3 => ?_) (fun hc3 => ?_)
    · have hlt := of_decide_eq_true hc3; simp only [Int.ofNat_lt] at hlt
      have hmem : (32 : UInt8) ∈ r := by apply Classical.byContradiction; intro hno; have := spl_not hno; have h2 := congrArg List.length hsp; rw [spl_len, List.length_append, this] at h2; simp only [List.length_cons, List.length_nil] at h2; omega
      have hfi := fi_in hmem
      have hplt : (pre1 32 r).length < r.length := (List.getElem?_eq_some_iff.1 (pre1_mem hmem)).1
      refine W_skip ?_
      refine W_block ?_   -- block 1
      refine W_seq ?_
      refine W_region ?_
      refine wl_val (rn_move (by conv => lhs; whnf)) ?_
      refine wl_val (rn_move (by conv => lhs; whnf)) ?_
      refine wl_call e_149 rfl (sindex_ok A0 r 32) ?_; intro v39 w3 hE3 hR3
      replace hX := hX.tr hE3
      replace hO := hO.ext hE3 id
      subst hR3
      refine wl_val (rn_assign (by conv => lhs; whnf)) ?_
      refine wl_nil ?_
      refine W_seq ?_
      refine W_seq ?_
      refine W_region ?_
      refine wl_val (rn_move (by conv => lhs; whnf)) ?_
      refine wl_val (rn_lss rfl rfl) ?_
      refine wl_nil ?_
      refine W_cond rfl (fun hc4 => ?_) (fun hc4 => ?_)
      · exact absurd (of_decide_eq_true hc4) (by have := (fi_ge r 32).2 hmem; omega)
      · refine W_skip ?_
        refine W_seq ?_
        refine W_region ?_
        refine wl_val (rn_move (by conv => lhs; whnf)) ?_
        refine wl_val (rn_move (by conv => lhs; whnf)) ?_
        refine wl_val (rn_move (by conv => lhs; whnf)) ?_
        refine wl_val (rn_move (by conv => lhs; whnf)) ?_
        refine wl_val (rn_move (by conv => lhs; whnf)) ?_
        refine wl_val (Rn.cast (rn_add rfl rfl (by omega)) (v' := .int .i64 ((pre1 32 r).length : Nat)) (congrArg (Value.int .i64) (by rw [hfi]; omega))) ?_
        refine wl_val (Rn.cast (rn_sslice us_9 (l := 0) (h := (pre1 32 r).length) rfl rfl ⟨_, rfl⟩ (by omega) (by omega)) (v' := Sv (pre1 32 r)) (congrArg Sv (by rw [List.drop_zero, Nat.sub_zero, pre1_take]))) ?_
        refine wl_val (rn_indexAddr sl_22 rfl rfl (by omega)) ?_
        refine wl_storeE p_9 (i := i) (u := Sv (pre1 32 r)) rfl rfl rfl rfl hO (by simp only [List.length_map, List.length_append, List.length_replicate]; omega) ?_; intro w4 hE4 hO
        replace hX := hX.mine hE4 (.inr hq31)
        rw [show s.count 32 + 1 - i = (s.count 32 + 1 - (i + 1)) + 1 by omega, hdl, set_fill, ← hdl] at hO
        refine wl_nil ?_
        refine W_seq ?_
        refine W_region ?_
        refine wl_val (rn_move (by conv => lhs; whnf)) ?_
        refine wl_val (rn_move (by conv => lhs; whnf)) ?_
        refine wl_val (rn_move (by conv => lhs; whnf)) ?_
        refine wl_val (rn_slen us_9 rfl) ?_
        refine wl_val (Rn.cast (rn_add rfl rfl (by simp only [List.length_singleton]; omega)) (v' := .int .i64 (((pre1 32 r).length + 1 : Nat) : Int)) (congrArg (Value.int .i64) (by rw [hfi]; simp))) ?_
        refine wl_val (Rn.cast (rn_sslice us_9 (l := (pre1 32 r).length + 1) (h := r.length) rfl ⟨_, rfl⟩ rfl (by omega) (by omega)) (v' := Sv (r.drop ((pre1 32 r).length + 1))) (congrArg Sv (List.take_of_length_le (by rw [List.length_drop]; exact Nat.le_refl _)))) ?_
        refine wl_val (rn_assign (by conv => lhs; whnf)) ?_
        refine wl_nil ?_
        refine W_region ?_
        refine wl_val (rn_move (by conv => lhs; whnf)) ?_
        refine wl_val (rn_add rfl rfl (by omega)) ?_
        refine wl_val (rn_assign (by conv => lhs; whnf)) ?_
        refine wl_nil ?_
        exact ⟨rfl, (i + 1, done ++ [pre1 32 r], r.drop ((pre1 32 r).length + 1)), ⟨rfl, rfl, rfl, rfl, rfl, rfl, trivial⟩, ⟨hX, ⟨hlt, by simp [hdl], by rw [hsp, spl_cut hmem]; simp, by rw [List.length_drop]; omega, hO⟩⟩, by show s.count 32 - (i + 1) < s.count 32 - i; omega⟩
    · have hge := of_decide_eq_false hc3; simp only [Int.ofNat_lt, Nat.not_lt] at hge
      have hie : s.count 32 = i := by omega
      have hno : ¬ (32 : UInt8) ∈ r := by intro hm; have h2 := congrArg List.length hsp; rw [spl_len, List.length_append, spl_cut hm, List.length_cons] at h2; have := List.length_pos_iff.2 (spl_ne 32 (r.drop ((pre1 32 r).length + 1))); omega
      rw [spl_not hno] at hsp
      refine W_exit ?_   -- exit 0
      refine W_seq ?_
      refine W_region ?_
      refine wl_val (rn_move (by conv => lhs; whnf)) ?_
      refine wl_val (rn_move (by conv => lhs; whnf)) ?_
      refine wl_val (rn_move (by conv => lhs; whnf)) ?_
      refine wl_val (rn_indexAddr sl_22 rfl rfl (by omega)) ?_
      refine wl_storeE p_9 (i := i) (u := Sv r) rfl rfl rfl rfl hO (by simp only [List.length_map, List.length_append, List.length_replicate]; omega) ?_; intro w5 hE5 hO
      replace hX := hX.mine hE5 (.inr hq31)
      rw [show s.count 32 + 1 - i = 0 + 1 by omega, hdl, set_fill] at hO
      refine wl_nil ?_
      refine W_seq ?_
      refine W_region ?_
      refine wl_val (rn_move (by conv => lhs; whnf)) ?_
      refine wl_val (rn_move (by conv => lhs; whnf)) ?_
      refine wl_val (rn_add rfl rfl (by omega)) ?_
      refine wl_val (rn_slice0 sl_22 (h := i + 1) (m := s.count 32 + 1) rfl rfl ⟨_, rfl⟩ rfl (by simp) (by omega) (by omega)) ?_
      refine wl_val (rn_assign (by conv => lhs; whnf)) ?_
      refine wl_nil ?_
      refine W_ret ?_
      exact ⟨_, resR1 (res1_tmp rfl), hX, by have h := (hO.sl (M := Non) id); rw [hsp]; simp only [List.replicate_zero, List.append_nil] at h; rw [hie] at h; show Sl Non _ (.slice (some ⟨b31, 0, none⟩) (i + 1) (s.count 32 + 1)) 1 _; rw [hie]; exact h⟩
-- strings.Split
theorem split_ok (w : World) (s : Str) (hn : s.length ≤ 1000000) : Fn Tryz.prog 103 #[Sv s, Sv [32]] w fun u w' => Sl Non w' u 1 ((spl 32 s).map eS1) := by
  have hX := Ext.refl Non w
  refine fn_of_W (args := [_, _]) Tryz.func103 rfl (by kernel_rfl) rfl ?_
  refine W_seq ?_
  refine W_region ?_
  refine wl_val (rn_assign (by conv => lhs; whnf)) ?_
  refine wl_nil ?_
  refine W_seq ?_
  refine W_region ?_
  refine wl_val (rn_move (by conv => lhs; whnf)) ?_
  refine wl_val (rn_move (by conv => lhs; whnf)) ?_
  refine wl_call e_151 rfl (genSplit_ok w s hn) ?_; intro v7 w1 hE1 hR1
  replace hX := hX.tr hE1
  have hS7 := hR1
  refine wl_val (rn_assign (by conv => lhs; whnf)) ?_
  refine wl_nil ?_
  refine W_ret ?_
  exact ⟨_, resR1 (res1_tmp rfl), hX, hS7⟩
end Go.Proofs.YthcclgoidchkdaaGreatDoorC

/- Numbers read: the library's and the document's; an operation's fields from words. -/
set_option linter.unusedVariables false
set_option linter.unusedSimpArgs false
set_option maxRecDepth 100000
namespace Go.Proofs.YthcclgoidchkdaaGreatDoorC
open Go.RowKit Go.Shelf
def Tryz.laysC172_ren : Go.Shelf.Ren := ⟨fun | 172 => 205 | 244 => 238 | 245 => 239 | 247 => 263 | 279 => 264 | 280 => 265 | 281 => 266 | 282 => 267 | 287 => 278 | 316 => 279 | 171 => 50 | 205 => 280 | 321 => 285 | 322 => 286 | 243 => 90 | 246 => 141 | 283 => 194 | 284 => 195 | 285 => 196 | 286 => 197 | 129 => 228 | 317 => 227 | 318 => 229 | 319 => 230 | 320 => 231 | 337 => 259 | 338 => 260 | n => n, fun | 9 => 9 | 3 => 3 | 75 => 169 | 76 => 170 | 4 => 4 | 5 => 5 | 167 => 317 | 37 => 164 | 0 => 0 | 85 => 318 | 2 => 2 | 168 => 320 | 53 => 260 | 175 => 323 | 46 => 218 | 210 => 335 | 127 => 219 | 145 => 343 | 143 => 341 | 21 => 21 | 171 => 259 | 173 => 263 | 212 => 288 | 51 => 289 | 20 => 20 | 213 => 290 | 232 => 332 | 233 => 333 | 80 => 172 | n => n, fun | 15 => 6 | 16 => 7 | 17 => 0 | 18 => 4 | 19 => 5 | n => n⟩
theorem Tryz.laysC172 : Go.Proofs.LaysC.n172 Tryz.prog Tryz.laysC172_ren := {
  mixed := by kernel_rfl
  f129 := Tryz.func228.trans (congrArg some (by kernel_rfl))
  f171 := Tryz.func50.trans (congrArg some (by kernel_rfl))
  f172 := Tryz.func205.trans (congrArg some (by kernel_rfl))
  f205 := Tryz.func280.trans (congrArg some (by kernel_rfl))
  f243 := Tryz.func90.trans (congrArg some (by kernel_rfl))
  f244 := Tryz.func238.trans (congrArg some (by kernel_rfl))
  f245 := Tryz.func239.trans (congrArg some (by kernel_rfl))
  f246 := Tryz.func141.trans (congrArg some (by kernel_rfl))
  f247 := Tryz.func263.trans (congrArg some (by kernel_rfl))
  f279 := Tryz.func264.trans (congrArg some (by kernel_rfl))
  f280 := Tryz.func265.trans (congrArg some (by kernel_rfl))
  f281 := Tryz.func266.trans (congrArg some (by kernel_rfl))
  f282 := Tryz.func267.trans (congrArg some (by kernel_rfl))
  f283 := Tryz.func194.trans (congrArg some (by kernel_rfl))
  f284 := Tryz.func195.trans (congrArg some (by kernel_rfl))
  f285 := Tryz.func196.trans (congrArg some (by kernel_rfl))
  f286 := Tryz.func197.trans (congrArg some (by kernel_rfl))
  f287 := Tryz.func278.trans (congrArg some (by kernel_rfl))
  f316 := Tryz.func279.trans (congrArg some (by kernel_rfl))
  f317 := Tryz.func227.trans (congrArg some (by kernel_rfl))
  f318 := Tryz.func229.trans (congrArg some (by kernel_rfl))
  f319 := Tryz.func230.trans (congrArg some (by kernel_rfl))
  f320 := Tryz.func231.trans (congrArg some (by kernel_rfl))
  f321 := Tryz.func285.trans (congrArg some (by kernel_rfl))
  f322 := Tryz.func286.trans (congrArg some (by kernel_rfl))
  f337 := Tryz.func259.trans (congrArg some (by kernel_rfl))
  f338 := Tryz.func260.trans (congrArg some (by kernel_rfl))
  t0 := Tryz.underlying0
  a0 := Tryz.isAgg0
  z0 := Tryz.sizeOf0
  v0 := Tryz.zeroValue0
  t2 := Tryz.underlying2
  a2 := Tryz.isAgg2
  z2 := Tryz.sizeOf2
  v2 := Tryz.zeroValue2
  t3 := Tryz.underlying3
  a3 := Tryz.isAgg3
  z3 := Tryz.sizeOf3
  v3 := Tryz.zeroValue3
  t4 := Tryz.underlying4
  a4 := Tryz.isAgg4
  z4 := Tryz.sizeOf4
  v4 := Tryz.zeroValue4
  t5 := Tryz.underlying5
  a5 := Tryz.isAgg5
  z5 := Tryz.sizeOf5
  v5 := Tryz.zeroValue5
  t9 := Tryz.underlying9
  a9 := Tryz.isAgg9
  z9 := Tryz.sizeOf9
  v9 := Tryz.zeroValue9
  t20 := Tryz.underlying20
  a20 := Tryz.isAgg20
  z20 := Tryz.sizeOf20
  v20 := Tryz.zeroValue20
  t21 := Tryz.underlying21
  a21 := Tryz.isAgg21
  z21 := Tryz.sizeOf21
  v21 := Tryz.zeroValue21
  t37 := Tryz.underlying164
  a37 := Tryz.isAgg164
  z37 := Tryz.sizeOf164
  v37 := Tryz.zeroValue164
  t46 := Tryz.underlying218
  a46 := Tryz.isAgg218
  z46 := Tryz.sizeOf218
  v46 := Tryz.zeroValue218
  t51 := Tryz.underlying289
  a51 := Tryz.isAgg289
  z51 := Tryz.sizeOf289
  v51 := Tryz.zeroValue289
  t53 := Tryz.underlying260
  a53 := Tryz.isAgg260
  z53 := Tryz.sizeOf260
  v53 := Tryz.zeroValue260
  t75 := Tryz.underlying169
  a75 := Tryz.isAgg169
  z75 := Tryz.sizeOf169
  v75 := Tryz.zeroValue169
  t76 := Tryz.underlying170
  a76 := Tryz.isAgg170
  z76 := Tryz.sizeOf170
  v76 := Tryz.zeroValue170
  t85 := Tryz.underlying318
  a85 := Tryz.isAgg318
  z85 := Tryz.sizeOf318
  v85 := Tryz.zeroValue318
  t127 := Tryz.underlying219
  a127 := Tryz.isAgg219
  z127 := Tryz.sizeOf219
  v127 := Tryz.zeroValue219
  t143 := Tryz.underlying341
  a143 := Tryz.isAgg341
  z143 := Tryz.sizeOf341
  v143 := Tryz.zeroValue341
  t145 := Tryz.underlying343
  a145 := Tryz.isAgg343
  z145 := Tryz.sizeOf343
  v145 := Tryz.zeroValue343
  t167 := Tryz.underlying317
  a167 := Tryz.isAgg317
  z167 := Tryz.sizeOf317
  v167 := Tryz.zeroValue317
  t168 := Tryz.underlying320
  a168 := Tryz.isAgg320
  z168 := Tryz.sizeOf320
  v168 := Tryz.zeroValue320
  t171 := Tryz.underlying259
  a171 := Tryz.isAgg259
  z171 := Tryz.sizeOf259
  v171 := Tryz.zeroValue259
  t173 := Tryz.underlying263
  a173 := Tryz.isAgg263
  z173 := Tryz.sizeOf263
  v173 := Tryz.zeroValue263
  t175 := Tryz.underlying323
  a175 := Tryz.isAgg323
  z175 := Tryz.sizeOf323
  v175 := Tryz.zeroValue323
  t210 := Tryz.underlying335
  a210 := Tryz.isAgg335
  z210 := Tryz.sizeOf335
  v210 := Tryz.zeroValue335
  t212 := Tryz.underlying288
  a212 := Tryz.isAgg288
  z212 := Tryz.sizeOf288
  v212 := Tryz.zeroValue288
  t213 := Tryz.underlying290
  a213 := Tryz.isAgg290
  z213 := Tryz.sizeOf290
  t232 := Tryz.underlying332
  a232 := Tryz.isAgg332
  z232 := Tryz.sizeOf332
  v232 := Tryz.zeroValue332
  t233 := Tryz.underlying333
  a233 := Tryz.isAgg333
  z233 := Tryz.sizeOf333
  v233 := Tryz.zeroValue333
  g15 := by kernel_rfl
  g16 := by kernel_rfl
  g17 := by kernel_rfl
  g18 := by kernel_rfl
  g19 := by kernel_rfl
  t80 := Tryz.underlying172
  a80 := Tryz.isAgg172
  z80 := Tryz.sizeOf172
  v80 := Tryz.zeroValue172
  i0 := by kernel_rfl
  i2 := by kernel_rfl
  i3 := by kernel_rfl
  i4 := by kernel_rfl
  i5 := by kernel_rfl
  i9 := by kernel_rfl
  i20 := by kernel_rfl
  i21 := by kernel_rfl
  i37 := by kernel_rfl
  i46 := by kernel_rfl
  i51 := by kernel_rfl
  i53 := by kernel_rfl
  i75 := by kernel_rfl
  i76 := by kernel_rfl
  i80 := by kernel_rfl
  i85 := by kernel_rfl
  i127 := by kernel_rfl
  i143 := by kernel_rfl
  i145 := by kernel_rfl
  i167 := by kernel_rfl
  i168 := by kernel_rfl
  i171 := by kernel_rfl
  i173 := by kernel_rfl
  i175 := by kernel_rfl
  i210 := by kernel_rfl
  i212 := by kernel_rfl
  i232 := by kernel_rfl
  i233 := by kernel_rfl
  m15 := by kernel_rfl
  m16 := by kernel_rfl
  m17 := by kernel_rfl
  m18 := by kernel_rfl
  m19 := by kernel_rfl
  c0 := by kernel_rfl
  c2 := by kernel_rfl
  c3 := by kernel_rfl
  c4 := by kernel_rfl
  c5 := by kernel_rfl
  c9 := by kernel_rfl
  c20 := by kernel_rfl
  c21 := by kernel_rfl
  c37 := by kernel_rfl
  c46 := by kernel_rfl
  c51 := by kernel_rfl
  c53 := by kernel_rfl
  c75 := by kernel_rfl
  c76 := by kernel_rfl
  c80 := by kernel_rfl
  c85 := by kernel_rfl
  c127 := by kernel_rfl
  c143 := by kernel_rfl
  c145 := by kernel_rfl
  c167 := by kernel_rfl
  c168 := by kernel_rfl
  c171 := by kernel_rfl
  c173 := by kernel_rfl
  c175 := by kernel_rfl
  c210 := by kernel_rfl
  c212 := by kernel_rfl
  c213 := by kernel_rfl
  c232 := by kernel_rfl
  c233 := by kernel_rfl }

/-- What the library's Atoi answers. -/
def AT (s : Str) (n : Int) (e : Value) : Prop := (e = .nilIface ∧ Lib.atoiAll s = .ok n) ∨ ((∃ t z, e = .iface t z) ∧ ∀ m, Lib.atoiAll s ≠ .ok m)
theorem AT.is {s : Str} {n : Int} {e : Value} (h : AT s n e) : IsE e := by rcases h with ⟨h, _⟩ | ⟨h, _⟩; exact .inl h; exact .inr h
theorem atoi_ok (w : World) (s : Str) (hn : s.length ≤ 1000000) (hS : ErrS w) : Fn Tryz.prog 205 #[Sv s] w fun u w' => ∃ n e, u = .tuple #[.int .i64 n, e] ∧ AT s n e := by
  have hl : (⟨s.toArray⟩ : ByteArray).data.toList = s := by simp
  have hz : (⟨s.toArray⟩ : ByteArray).size = s.length := by simp [ByteArray.size]
  obtain ⟨⟨t0, p0, h0⟩, t1, p1, h1⟩ := hS
  cases h : Lib.atoiAll s with
  | ok v =>
    refine Calls.mono (Any.strconv_Atoi_ok Tryz.laysC172 ⟨s.toArray⟩ (by rw [hz]; omega) v (by rw [hl]; exact h) w) fun e w' hx => ?_
    obtain ⟨e1, e2⟩ := hx
    refine ⟨_, e1, ?_, v, _, rfl, .inl ⟨rfl, h⟩⟩
    rcases e2 with rfl | ⟨t, rfl⟩
    · exact Ext.refl _ _
    · exact Ext.of_below (Lib.bytesWorld_below _ _ _)
  | _ =>
    first
    | refine Calls.mono (Any.strconv_Atoi_syntax Tryz.laysC172 ⟨s.toArray⟩ (by rw [hz]; omega) (by rw [hl]; exact h) _ w h0 (.inr ⟨_, _, rfl⟩)) fun e w' hx => ?_
      obtain ⟨N, e1, _, _, e2⟩ := hx
      exact ⟨_, e1, Ext.of_below e2, _, _, rfl, .inr ⟨⟨_, _, rfl⟩, fun m hm => by rw [h] at hm; cases hm⟩⟩
    | refine Calls.mono (Any.strconv_Atoi_range Tryz.laysC172 ⟨s.toArray⟩ (by rw [hz]; omega) (by rw [hl]; exact h) _ w h1 (.inr ⟨_, _, rfl⟩)) fun e w' hx => ?_
      obtain ⟨N, e1, _, _, e2⟩ := hx
      exact ⟨_, e1, Ext.of_below e2, _, _, rfl, .inr ⟨⟨_, _, rfl⟩, fun m hm => by rw [h] at hm; cases hm⟩⟩
-- bellman/op.fill$1
theorem fillT_ok (w : World) (b0 k : Nat) (cs : List Value) (hB0 : IsBox w b0 cs) (hk : k < cs.length) (s : Str) (hn : s.length ≤ 4000) (hR : ErrS w) : FnM Tryz.prog (fun i => i = b0) 240 #[.pointer (some ⟨b0, k, none⟩), Sv s] w fun u w' => u = .bool (unR s).isSome ∧ IsBox w' b0 (cs.set k (Sv ((unR s).getD []))) := by
  have hl0 : Mine (fun i => i = b0) w b0 := .inl rfl
  have hX := Ext.refl (fun i => i = b0) w
  refine fnM_of_W (args := [_, _]) Tryz.func240 rfl (by kernel_rfl) rfl ?_
  refine W_seq ?_
  refine W_region ?_
  refine wl_val (rn_assign (by conv => lhs; whnf)) ?_
  refine wl_nil ?_
  refine W_seq ?_
  refine W_region ?_
  refine wl_val (rn_move (by conv => lhs; whnf)) ?_
  refine wl_call e_241 rfl (ounword_ok w s hn hR) ?_; intro v9 w1 hE1 hR1
  replace hX := hX.tr hE1
  replace hB0 := hB0.ext hE1 id
  subst hR1
  refine wl_val (rn_move (by conv => lhs; whnf)) ?_
  refine wl_val (rn_extract rfl rfl) ?_
  refine wl_val (rn_extract rfl rfl) ?_
  refine wl_val (rn_assign (by conv => lhs; whnf)) ?_
  refine wl_val (rn_assign (by conv => lhs; whnf)) ?_
  refine wl_nil ?_
  refine W_seq ?_
  refine W_region ?_
  refine wl_val (rn_move (by conv => lhs; whnf)) ?_
  refine wl_val (rn_move (by conv => lhs; whnf)) ?_
  refine wl_val (rn_nilCheck rfl) ?_
  refine wl_store1 (b := b0) p_9 rfl rfl rfl rfl hB0 hk ?_; intro w2 hE2 hB0 hz2
  replace hX := hX.mine hE2 hl0
  refine wl_nil ?_
  refine W_seq ?_
  refine W_region ?_
  refine wl_val (rn_move (by conv => lhs; whnf)) ?_
  refine wl_val (rn_assign (by conv => lhs; whnf)) ?_
  refine wl_nil ?_
  refine W_ret ?_
  exact ⟨_, resR1 (res1_tmp rfl), hX, ⟨rfl, hB0⟩⟩
end Go.Proofs.YthcclgoidchkdaaGreatDoorC

/- An operation's fields from words. -/
set_option linter.unusedVariables false
set_option linter.unusedSimpArgs false
set_option maxRecDepth 100000
namespace Go.Proofs.YthcclgoidchkdaaGreatDoorC
open Go.RowKit
/-- What an operation of a kind is, with fields from words. -/
def fillR (x : OpD) (l : List Str) : Option OpD :=
  if x.kind = 3 then (match l with
    | [a, b] => (match unR a, unR b with | some t, some p => some ⟨x.kind, x.sub, t, p, x.keep⟩ | _, _ => none)
    | _ => none)
  else match l with
    | [] => none
    | a :: r => (match Lib.atoiAll a with
      | .ok n => if x.kind = 4 ∨ x.kind = 5 then (match r with | [] => some ⟨x.kind, n, x.text, x.payload, x.keep⟩ | _ => none) else (match r with | [b] => (match unR b with | some t => some ⟨x.kind, n, t, x.payload, x.keep⟩ | none => none) | _ => none)
      | _ => none)
theorem two_of {l : List Str} (h : l.length = 2) : ∃ a b, l = [a, b] := match l, h with | [a, b], _ => ⟨a, b, rfl⟩
theorem one_of {a : Str} {r : List Str} (h : (a :: r).length = 2) : ∃ b, r = [b] := match r, h with | [b], _ => ⟨b, rfl⟩
theorem fill3 (sb : Int) (tx pl : Str) (kp : Bool) (a b : Str) : fillR ⟨3, sb, tx, pl, kp⟩ [a, b] = match unR a, unR b with | some t, some p => some ⟨3, sb, t, p, kp⟩ | _, _ => none := by unfold fillR; rw [if_pos rfl]
theorem fill3n (sb : Int) (tx pl : Str) (kp : Bool) {l : List Str} (h : ¬ l.length = 2) : fillR ⟨3, sb, tx, pl, kp⟩ l = none := by
  unfold fillR; rw [if_pos rfl]
  match l, h with
  | [], _ => rfl
  | [_], _ => rfl
  | [_, _], h => exact absurd rfl h
  | _ :: _ :: _ :: _, _ => rfl
theorem fillN {kd sb : Int} {tx pl : Str} {kp : Bool} (k3 : ¬ kd = 3) : fillR ⟨kd, sb, tx, pl, kp⟩ [] = none := by unfold fillR; rw [if_neg k3]
theorem fillE {kd sb : Int} {tx pl : Str} {kp : Bool} (k3 : ¬ kd = 3) {a : Str} {r : List Str} (h : ∀ m, Lib.atoiAll a ≠ .ok m) : fillR ⟨kd, sb, tx, pl, kp⟩ (a :: r) = none := by
  unfold fillR; rw [if_neg k3]
  cases ha : Lib.atoiAll a with
  | ok m => exact absurd ha (h m)
  | _ => simp only [ha]
theorem fill45 {kd sb n : Int} {tx pl : Str} {kp : Bool} (k3 : ¬ kd = 3) (k45 : kd = 4 ∨ kd = 5) {a : Str} {r : List Str} (h : Lib.atoiAll a = .ok n) : fillR ⟨kd, sb, tx, pl, kp⟩ (a :: r) = match r with | [] => some ⟨kd, n, tx, pl, kp⟩ | _ => none := by
  unfold fillR; rw [if_neg k3]; simp only [h]; rw [if_pos k45]
theorem fill12 {kd sb n : Int} {tx pl : Str} {kp : Bool} (k3 : ¬ kd = 3) (k45 : ¬ (kd = 4 ∨ kd = 5)) {a : Str} {r : List Str} (h : Lib.atoiAll a = .ok n) : fillR ⟨kd, sb, tx, pl, kp⟩ (a :: r) = match r with | [b] => (match unR b with | some t => some ⟨kd, n, t, pl, kp⟩ | none => none) | _ => none := by
  unfold fillR; rw [if_neg k3]; simp only [h]; rw [if_neg k45]
theorem fill12s {kd sb n : Int} {tx pl : Str} {kp : Bool} (k3 : ¬ kd = 3) (k45 : ¬ (kd = 4 ∨ kd = 5)) {a b : Str} (h : Lib.atoiAll a = .ok n) : (fillR ⟨kd, sb, tx, pl, kp⟩ [a, b]).isSome = (unR b).isSome := by
  rw [fill12 k3 k45 h]; cases hb : unR b <;> simp only [hb] <;> rfl
theorem fill12n {kd sb n : Int} {tx pl : Str} {kp : Bool} (k3 : ¬ kd = 3) (k45 : ¬ (kd = 4 ∨ kd = 5)) {a : Str} {r : List Str} (h : Lib.atoiAll a = .ok n) (hl : ¬ (a :: r).length = 2) : fillR ⟨kd, sb, tx, pl, kp⟩ (a :: r) = none := by
  rw [fill12 k3 k45 h]
  match r, hl with
  | [], _ => rfl
  | [_], h => exact absurd rfl h
  | _ :: _ :: _, _ => rfl
-- bellman/op.fill
set_option maxHeartbeats 1600000 in
theorem fill_ok (w : World) (b0 : Nat) (h1b : errN < b0) (x : OpD) (hB0 : IsBox w b0 x.enc) (l : List Str) (hln : ∀ a ∈ l, a.length ≤ 4000) {v : Value} (hs : Sl (fun i => i = b0) w v 1 (l.map eS1)) (hR : ErrS w) : FnM Tryz.prog (fun i => i = b0) 206 #[.pointer (some ⟨b0, 0, none⟩), v] w fun u w' => u = .bool (fillR x l).isSome ∧ ∃ y : OpD, IsBox w' b0 y.enc ∧ ∀ z, fillR x l = some z → y = z := by
  obtain ⟨kd, sb, tx, pl, kp⟩ := x
  have hl0 : Mine (fun i => i = b0) w b0 := .inl rfl
  obtain ⟨al, cl, rfl, hbl⟩ := hs.len
  simp only [List.length_map] at hs hbl ⊢
  have hX := Ext.refl (fun i => i = b0) w
  refine fnM_of_W (args := [_, _]) Tryz.func206 rfl (by kernel_rfl) rfl ?_
  refine W_seq ?_
  refine W_region ?_
  refine wl_val (rn_assign (by conv => lhs; whnf)) ?_
  refine wl_nil ?_
  refine W_seq ?_
  refine W_region ?_
  refine wl_val (rn_assign (by conv => lhs; whnf)) ?_
  refine wl_nil ?_
  refine W_seq ?_
  refine W_seq ?_
  refine W_region ?_
  refine wl_val (rn_move (by conv => lhs; whnf)) ?_
  refine wl_val (rn_nilCheck rfl) ?_
  refine wl_val (rn_fieldAddr f_69_0 (by decide) rfl) ?_
  refine wl_val (rn_load1 p_3 rfl hB0 rfl) ?_
  refine wl_val (rn_eql rfl rfl) ?_
  refine wl_nil ?_
  refine W_cond rfl (fun hc0 => ?_) (fun hc0 => ?_)
  · obtain rfl : kd = 3 := of_decide_eq_true hc0
    refine W_seq ?_
    refine W_drawF (fun i => i = b0) mixed ?_; intro w1 hE1
    replace hX := hX.tr hE1
    replace hB0 := hB0.ext hE1 id
    replace hs := hs.ext hE1 (fun _ h => h.elim)
    replace hR := hR.non hE1
    have hS := Ext.refl (fun i => i = b0) w1
    have hzd0 := hB0.lt
    refine wd_take 0 _ _ rfl (by kernel_rfl) hS (yd_do fun A hA => rn_move (by conv => lhs; whnf)) ?_
    refine wd_take 1 _ _ rfl (by kernel_rfl) hS (yd_do fun A hA => rn_len sl_22 rfl) ?_
    refine wd_take 2 _ _ rfl (by kernel_rfl) hS (yd_do fun A hA => rn_eql rfl rfl) ?_
    refine wd_take 3 _ _ rfl (by kernel_rfl) hS (yd_do fun A hA => rn_move (by conv => lhs; whnf)) ?_
    refine wd_split (d := 16) rfl (fun hg16 => ?_) (fun hg16 => ?_)
    · obtain ⟨a, b, rfl⟩ := two_of (l := l) (by have := of_decide_eq_true hg16; omega)
      obtain ⟨bb, oo, ea⟩ := hs.base (by simp); subst ea
      refine wd_take 4 _ _ rfl (by kernel_rfl) hS (yd_yes rfl (congrArg Value.bool hg16) fun A hA => rn_move (by conv => lhs; whnf)) ?_
      refine wd_take 5 _ _ rfl (by kernel_rfl) hS (yd_yes rfl (congrArg Value.bool hg16) fun A hA => rn_move (by conv => lhs; whnf)) ?_
      refine wd_take 6 _ _ rfl (by kernel_rfl) hS (yd_yes rfl (congrArg Value.bool hg16) fun A hA => rn_nilCheck rfl) ?_
      refine wd_take 7 _ _ rfl (by kernel_rfl) hS (yd_yes rfl (congrArg Value.bool hg16) fun A hA => rn_fieldAddr f_69_2 (by decide) rfl) ?_
      refine wd_take 8 _ _ rfl (by kernel_rfl) hS (yd_yes rfl (congrArg Value.bool hg16) fun A hA => rn_move (by conv => lhs; whnf)) ?_
      refine wd_take 9 _ _ rfl (by kernel_rfl) hS (yd_yes rfl (congrArg Value.bool hg16) fun A hA => rn_indexAddr sl_22 rfl rfl (by simp)) ?_
      refine wd_take 10 _ _ rfl (by kernel_rfl) hS (yd_yes rfl (congrArg Value.bool hg16) fun A hA => rn_load p_9 rfl ((hs.ext hA (fun _ h => h)).at0 (eS_at (i := 0) (x := a) rfl) rfl)) ?_
      refine wd_only 11 _ rfl (by kernel_rfl) ?_
      refine s1_yes rfl (congrArg Value.bool hg16) ?_
      refine wl_callF rfl e_240 rfl (fillT_ok w1 b0 2 _ hB0 (Nat.le_of_ble_eq_true rfl) a (hln _ (by simp)) (hR.ext hS (B := b0) (fun i h => Nat.le_of_eq (Eq.symm h)) h1b)) ?_; rintro v24 w2 hE2 ⟨rfl, hB0⟩
      replace hS := hS.trans hE2
      refine wl_nil ⟨hS, ?_⟩
      refine wd_take 12 _ _ rfl (by kernel_rfl) hS (yd_do fun A hA => rn_pickT (congrArg Value.bool hg16) (by conv => lhs; whnf)) ?_
      refine wd_take 13 _ _ rfl (by kernel_rfl) hS (yd_do fun A hA => rn_move (by conv => lhs; whnf)) ?_
      refine wd_split (d := 26) rfl (fun hg26 => ?_) (fun hg26 => ?_)
      · obtain ⟨ta, hta⟩ := Option.isSome_iff_exists.1 hg26
        refine wd_take 14 _ _ rfl (by kernel_rfl) hS (yd_yes rfl (congrArg Value.bool hg26) fun A hA => rn_move (by conv => lhs; whnf)) ?_
        refine wd_take 15 _ _ rfl (by kernel_rfl) hS (yd_yes rfl (congrArg Value.bool hg26) fun A hA => rn_move (by conv => lhs; whnf)) ?_
        refine wd_take 16 _ _ rfl (by kernel_rfl) hS (yd_yes rfl (congrArg Value.bool hg26) fun A hA => rn_nilCheck rfl) ?_
        refine wd_take 17 _ _ rfl (by kernel_rfl) hS (yd_yes rfl (congrArg Value.bool hg26) fun A hA => rn_fieldAddr f_69_3 (by decide) rfl) ?_
        refine wd_take 18 _ _ rfl (by kernel_rfl) hS (yd_yes rfl (congrArg Value.bool hg26) fun A hA => rn_move (by conv => lhs; whnf)) ?_
        refine wd_take 19 _ _ rfl (by kernel_rfl) hS (yd_yes rfl (congrArg Value.bool hg26) fun A hA => rn_indexAddr sl_22 rfl rfl (by simp)) ?_
        refine wd_take 20 _ _ rfl (by kernel_rfl) hS (yd_yes rfl (congrArg Value.bool hg26) fun A hA => rn_load p_9 rfl ((hs.ext hA (fun _ h => h)).at0 (eS_at (i := 1) (x := b) rfl) rfl)) ?_
        refine wd_only 21 _ rfl (by kernel_rfl) ?_
        refine s1_yes rfl (congrArg Value.bool hg26) ?_
        refine wl_callF rfl e_240 rfl (fillT_ok w2 b0 3 _ hB0 (Nat.le_of_ble_eq_true rfl) b (hln _ (by simp)) (hR.ext hS (B := b0) (fun i h => Nat.le_of_eq (Eq.symm h)) h1b)) ?_; rintro v34 w3 hE3 ⟨rfl, hB0⟩
        replace hS := hS.trans hE3
        refine wl_nil ⟨hS, ?_⟩
        refine wd_take 22 _ _ rfl (by kernel_rfl) hS (yd_do fun A hA => rn_pickT (congrArg Value.bool hg26) (by conv => lhs; whnf)) ?_
        refine wd_take 23 _ _ rfl (by kernel_rfl) hS (yd_do fun A hA => rn_assign (by conv => lhs; whnf)) ?_
        refine wd_done (by kernel_rfl) ?_ _
        replace hX := hX.mine hS hl0
        refine W_ret ?_
        first | exact ⟨_, resR1 (res1_tmp rfl), hX, ⟨by rw [fill3, hta]; cases unR b <;> rfl, ⟨3, sb, (unR a).getD [], (unR b).getD [], kp⟩, hB0, fun z hz => by rw [fill3, hta] at hz; cases hb : unR b with | none => (rw [hb] at hz; cases hz) | some p => (rw [hb] at hz; simp only [Option.some.injEq] at hz; rw [← hz, hta]; rfl)⟩⟩ | exact ⟨_, resR1 (res1_tmp rfl), hX, ⟨by rw [hno, hta]; rfl, ⟨3, sb, (unR a).getD [], pl, kp⟩, hB0, fun z hz => by rw [hno] at hz; cases hz⟩⟩ | exact ⟨_, resR1 (res1_tmp rfl), hX, ⟨by rw [hno]; rfl, ⟨kd, sb, tx, pl, kp⟩, hB0, fun z hz => by rw [hno] at hz; cases hz⟩⟩ | exact ⟨_, resR1 (res1_tmp rfl), hX, ⟨by rw [hno]; rfl, ⟨3, sb, tx, pl, kp⟩, hB0, fun z hz => by rw [hno] at hz; cases hz⟩⟩ | exact ⟨_, resR1 (res1_tmp rfl), hX, ⟨by rw [hno]; rfl, ⟨kd, n, tx, pl, kp⟩, hB0, fun z hz => by rw [hno] at hz; cases hz⟩⟩ | exact ⟨_, resR1 (res1_tmp rfl), hX, ⟨by rw [fill45 k3 k45 hok]; exact congrArg Value.bool (by cases r with | nil => rfl | cons b q => exact decide_eq_false (by simp only [List.length_cons]; omega)), ⟨kd, n, tx, pl, kp⟩, hB0, fun z hz => by rw [fill45 k3 k45 hok] at hz; cases r with | nil => (simp only [Option.some.injEq] at hz; exact hz) | cons b q => cases hz⟩⟩ | exact ⟨_, resR1 (res1_tmp rfl), hX, ⟨by rw [fill12s k3 k45 hok]; rfl, ⟨kd, n, (unR b).getD [], pl, kp⟩, hB0, fun z hz => by rw [fill12 k3 k45 hok] at hz; cases hb : unR b with | none => (simp only [hb] at hz; cases hz) | some p => (simp only [hb, Option.some.injEq] at hz; rw [← hz]; rfl)⟩⟩
      · have hta : unR a = none := by cases h : unR a with | none => rfl | some t => (rw [h] at hg26; cases hg26)
        have hno : fillR ⟨3, sb, tx, pl, kp⟩ [a, b] = none := by rw [fill3, hta]
        refine wd_take 14 _ _ rfl (by kernel_rfl) hS (yd_no rfl (congrArg Value.bool hg26)) ?_
        refine wd_take 15 _ _ rfl (by kernel_rfl) hS (yd_no rfl (congrArg Value.bool hg26)) ?_
        refine wd_take 16 _ _ rfl (by kernel_rfl) hS (yd_no rfl (congrArg Value.bool hg26)) ?_
        refine wd_take 17 _ _ rfl (by kernel_rfl) hS (yd_no rfl (congrArg Value.bool hg26)) ?_
        refine wd_take 18 _ _ rfl (by kernel_rfl) hS (yd_no rfl (congrArg Value.bool hg26)) ?_
        refine wd_take 19 _ _ rfl (by kernel_rfl) hS (yd_no rfl (congrArg Value.bool hg26)) ?_
        refine wd_take 20 _ _ rfl (by kernel_rfl) hS (yd_no rfl (congrArg Value.bool hg26)) ?_
        refine wd_only 21 _ rfl (by kernel_rfl) ?_
        refine s1_no rfl (congrArg Value.bool hg26) ⟨hS, ?_⟩
        refine wd_take 22 _ _ rfl (by kernel_rfl) hS (yd_do fun A hA => rn_pickF (congrArg Value.bool hg26) (by conv => lhs; whnf)) ?_
        refine wd_take 23 _ _ rfl (by kernel_rfl) hS (yd_do fun A hA => rn_assign (by conv => lhs; whnf)) ?_
        refine wd_done (by kernel_rfl) ?_ _
        replace hX := hX.mine hS hl0
        refine W_ret ?_
        first | exact ⟨_, resR1 (res1_tmp rfl), hX, ⟨by rw [fill3, hta]; cases unR b <;> rfl, ⟨3, sb, (unR a).getD [], (unR b).getD [], kp⟩, hB0, fun z hz => by rw [fill3, hta] at hz; cases hb : unR b with | none => (rw [hb] at hz; cases hz) | some p => (rw [hb] at hz; simp only [Option.some.injEq] at hz; rw [← hz, hta]; rfl)⟩⟩ | exact ⟨_, resR1 (res1_tmp rfl), hX, ⟨by rw [hno, hta]; rfl, ⟨3, sb, (unR a).getD [], pl, kp⟩, hB0, fun z hz => by rw [hno] at hz; cases hz⟩⟩ | exact ⟨_, resR1 (res1_tmp rfl), hX, ⟨by rw [hno]; rfl, ⟨kd, sb, tx, pl, kp⟩, hB0, fun z hz => by rw [hno] at hz; cases hz⟩⟩ | exact ⟨_, resR1 (res1_tmp rfl), hX, ⟨by rw [hno]; rfl, ⟨3, sb, tx, pl, kp⟩, hB0, fun z hz => by rw [hno] at hz; cases hz⟩⟩ | exact ⟨_, resR1 (res1_tmp rfl), hX, ⟨by rw [hno]; rfl, ⟨kd, n, tx, pl, kp⟩, hB0, fun z hz => by rw [hno] at hz; cases hz⟩⟩ | exact ⟨_, resR1 (res1_tmp rfl), hX, ⟨by rw [fill45 k3 k45 hok]; exact congrArg Value.bool (by cases r with | nil => rfl | cons b q => exact decide_eq_false (by simp only [List.length_cons]; omega)), ⟨kd, n, tx, pl, kp⟩, hB0, fun z hz => by rw [fill45 k3 k45 hok] at hz; cases r with | nil => (simp only [Option.some.injEq] at hz; exact hz) | cons b q => cases hz⟩⟩ | exact ⟨_, resR1 (res1_tmp rfl), hX, ⟨by rw [fill12s k3 k45 hok]; rfl, ⟨kd, n, (unR b).getD [], pl, kp⟩, hB0, fun z hz => by rw [fill12 k3 k45 hok] at hz; cases hb : unR b with | none => (simp only [hb] at hz; cases hz) | some p => (simp only [hb, Option.some.injEq] at hz; rw [← hz]; rfl)⟩⟩
    · have hno := fill3n sb tx pl kp (l := l) (by have := of_decide_eq_false hg16; omega)
      refine wd_take 4 _ _ rfl (by kernel_rfl) hS (yd_no rfl (congrArg Value.bool hg16)) ?_
      refine wd_take 5 _ _ rfl (by kernel_rfl) hS (yd_no rfl (congrArg Value.bool hg16)) ?_
      refine wd_take 6 _ _ rfl (by kernel_rfl) hS (yd_no rfl (congrArg Value.bool hg16)) ?_
      refine wd_take 7 _ _ rfl (by kernel_rfl) hS (yd_no rfl (congrArg Value.bool hg16)) ?_
      refine wd_take 8 _ _ rfl (by kernel_rfl) hS (yd_no rfl (congrArg Value.bool hg16)) ?_
      refine wd_take 9 _ _ rfl (by kernel_rfl) hS (yd_no rfl (congrArg Value.bool hg16)) ?_
      refine wd_take 10 _ _ rfl (by kernel_rfl) hS (yd_no rfl (congrArg Value.bool hg16)) ?_
      refine wd_only 11 _ rfl (by kernel_rfl) ?_
      refine s1_no rfl (congrArg Value.bool hg16) ⟨hS, ?_⟩
      refine wd_take 12 _ _ rfl (by kernel_rfl) hS (yd_do fun A hA => rn_pickF (congrArg Value.bool hg16) (by conv => lhs; whnf)) ?_
      refine wd_take 13 _ _ rfl (by kernel_rfl) hS (yd_do fun A hA => rn_move (by conv => lhs; whnf)) ?_
      refine wd_take 14 _ _ rfl (by kernel_rfl) hS (yd_no rfl rfl) ?_
      refine wd_take 15 _ _ rfl (by kernel_rfl) hS (yd_no rfl rfl) ?_
      refine wd_take 16 _ _ rfl (by kernel_rfl) hS (yd_no rfl rfl) ?_
      refine wd_take 17 _ _ rfl (by kernel_rfl) hS (yd_no rfl rfl) ?_
      refine wd_take 18 _ _ rfl (by kernel_rfl) hS (yd_no rfl rfl) ?_
      refine wd_take 19 _ _ rfl (by kernel_rfl) hS (yd_no rfl rfl) ?_
      refine wd_take 20 _ _ rfl (by kernel_rfl) hS (yd_no rfl rfl) ?_
      refine wd_only 21 _ rfl (by kernel_rfl) ?_
      refine s1_no rfl rfl ⟨hS, ?_⟩
      refine wd_take 22 _ _ rfl (by kernel_rfl) hS (yd_do fun A hA => rn_pickF rfl (by conv => lhs; whnf)) ?_
      refine wd_take 23 _ _ rfl (by kernel_rfl) hS (yd_do fun A hA => rn_assign (by conv => lhs; whnf)) ?_
      refine wd_done (by kernel_rfl) ?_ _
      replace hX := hX.mine hS hl0
      refine W_ret ?_
      first | exact ⟨_, resR1 (res1_tmp rfl), hX, ⟨by rw [fill3, hta]; cases unR b <;> rfl, ⟨3, sb, (unR a).getD [], (unR b).getD [], kp⟩, hB0, fun z hz => by rw [fill3, hta] at hz; cases hb : unR b with | none => (rw [hb] at hz; cases hz) | some p => (rw [hb] at hz; simp only [Option.some.injEq] at hz; rw [← hz, hta]; rfl)⟩⟩ | exact ⟨_, resR1 (res1_tmp rfl), hX, ⟨by rw [hno, hta]; rfl, ⟨3, sb, (unR a).getD [], pl, kp⟩, hB0, fun z hz => by rw [hno] at hz; cases hz⟩⟩ | exact ⟨_, resR1 (res1_tmp rfl), hX, ⟨by rw [hno]; rfl, ⟨kd, sb, tx, pl, kp⟩, hB0, fun z hz => by rw [hno] at hz; cases hz⟩⟩ | exact ⟨_, resR1 (res1_tmp rfl), hX, ⟨by rw [hno]; rfl, ⟨3, sb, tx, pl, kp⟩, hB0, fun z hz => by rw [hno] at hz; cases hz⟩⟩ | exact ⟨_, resR1 (res1_tmp rfl), hX, ⟨by rw [hno]; rfl, ⟨kd, n, tx, pl, kp⟩, hB0, fun z hz => by rw [hno] at hz; cases hz⟩⟩ | exact ⟨_, resR1 (res1_tmp rfl), hX, ⟨by rw [fill45 k3 k45 hok]; exact congrArg Value.bool (by cases r with | nil => rfl | cons b q => exact decide_eq_false (by simp only [List.length_cons]; omega)), ⟨kd, n, tx, pl, kp⟩, hB0, fun z hz => by rw [fill45 k3 k45 hok] at hz; cases r with | nil => (simp only [Option.some.injEq] at hz; exact hz) | cons b q => cases hz⟩⟩ | exact ⟨_, resR1 (res1_tmp rfl), hX, ⟨by rw [fill12s k3 k45 hok]; rfl, ⟨kd, n, (unR b).getD [], pl, kp⟩, hB0, fun z hz => by rw [fill12 k3 k45 hok] at hz; cases hb : unR b with | none => (simp only [hb] at hz; cases hz) | some p => (simp only [hb, Option.some.injEq] at hz; rw [← hz]; rfl)⟩⟩
  · have k3 : ¬ kd = 3 := of_decide_eq_false hc0
    refine W_skip ?_
    refine W_seq ?_
    refine W_seq ?_
    refine W_region ?_
    refine wl_val (rn_move (by conv => lhs; whnf)) ?_
    refine wl_val (rn_len sl_22 rfl) ?_
    refine wl_val (rn_eql rfl rfl) ?_
    refine wl_nil ?_
    refine W_cond rfl (fun hc1 => ?_) (fun hc1 => ?_)
    · obtain rfl : l = [] := by cases l with | nil => rfl | cons a r => exact absurd (of_decide_eq_true hc1) (by simp; omega)
      have hno := fillN (sb := sb) (tx := tx) (pl := pl) (kp := kp) k3
      refine W_seq ?_
      refine W_region ?_
      refine wl_val (rn_assign (by conv => lhs; whnf)) ?_
      refine wl_nil ?_
      refine W_ret ?_
      first | exact ⟨_, resR1 (res1_tmp rfl), hX, ⟨by rw [fill3, hta]; cases unR b <;> rfl, ⟨3, sb, (unR a).getD [], (unR b).getD [], kp⟩, hB0, fun z hz => by rw [fill3, hta] at hz; cases hb : unR b with | none => (rw [hb] at hz; cases hz) | some p => (rw [hb] at hz; simp only [Option.some.injEq] at hz; rw [← hz, hta]; rfl)⟩⟩ | exact ⟨_, resR1 (res1_tmp rfl), hX, ⟨by rw [hno, hta]; rfl, ⟨3, sb, (unR a).getD [], pl, kp⟩, hB0, fun z hz => by rw [hno] at hz; cases hz⟩⟩ | exact ⟨_, resR1 (res1_tmp rfl), hX, ⟨by rw [hno]; rfl, ⟨kd, sb, tx, pl, kp⟩, hB0, fun z hz => by rw [hno] at hz; cases hz⟩⟩ | exact ⟨_, resR1 (res1_tmp rfl), hX, ⟨by rw [hno]; rfl, ⟨3, sb, tx, pl, kp⟩, hB0, fun z hz => by rw [hno] at hz; cases hz⟩⟩ | exact ⟨_, resR1 (res1_tmp rfl), hX, ⟨by rw [hno]; rfl, ⟨kd, n, tx, pl, kp⟩, hB0, fun z hz => by rw [hno] at hz; cases hz⟩⟩ | exact ⟨_, resR1 (res1_tmp rfl), hX, ⟨by rw [fill45 k3 k45 hok]; exact congrArg Value.bool (by cases r with | nil => rfl | cons b q => exact decide_eq_false (by simp only [List.length_cons]; omega)), ⟨kd, n, tx, pl, kp⟩, hB0, fun z hz => by rw [fill45 k3 k45 hok] at hz; cases r with | nil => (simp only [Option.some.injEq] at hz; exact hz) | cons b q => cases hz⟩⟩ | exact ⟨_, resR1 (res1_tmp rfl), hX, ⟨by rw [fill12s k3 k45 hok]; rfl, ⟨kd, n, (unR b).getD [], pl, kp⟩, hB0, fun z hz => by rw [fill12 k3 k45 hok] at hz; cases hb : unR b with | none => (simp only [hb] at hz; cases hz) | some p => (simp only [hb, Option.some.injEq] at hz; rw [← hz]; rfl)⟩⟩
    · obtain ⟨a, r, rfl⟩ : ∃ a r, l = a :: r := by cases l with | nil => exact absurd rfl (of_decide_eq_false hc1) | cons a r => exact ⟨a, r, rfl⟩
      obtain ⟨bb, oo, ea⟩ := hs.base (by simp); subst ea
      refine W_skip ?_
      refine W_seq ?_
      refine W_region ?_
      refine wl_val (rn_move (by conv => lhs; whnf)) ?_
      refine wl_val (rn_indexAddr sl_22 rfl rfl (by simp)) ?_
      refine wl_val (rn_load p_9 rfl (hs.at0 (eS_at (i := 0) (x := a) rfl) rfl)) ?_
      refine wl_call e_205 rfl (atoi_ok w a (by have := hln a (by simp); omega) hR) ?_; intro v43 w4 hE4 hR4
      replace hX := hX.tr hE4
      replace hB0 := hB0.ext hE4 id
      replace hs := hs.ext hE4 (fun _ h => h.elim)
      replace hR := hR.non hE4
      obtain ⟨n, e, rfl, hA⟩ := hR4
      refine wl_val (rn_move (by conv => lhs; whnf)) ?_
      refine wl_val (rn_extract rfl rfl) ?_
      refine wl_val (rn_extract rfl rfl) ?_
      refine wl_val (rn_assign (by conv => lhs; whnf)) ?_
      refine wl_val (rn_assign (by conv => lhs; whnf)) ?_
      refine wl_nil ?_
      refine W_seq ?_
      refine W_region ?_
      refine wl_val (rn_move (by conv => lhs; whnf)) ?_
      refine wl_val (rn_move (by conv => lhs; whnf)) ?_
      refine wl_val (rn_nilCheck rfl) ?_
      refine wl_val (rn_fieldAddr f_69_1 (by decide) rfl) ?_
      have hBo := hB0
      refine wl_store1 (b := b0) p_3 rfl (by conv => lhs; whnf) rfl rfl hB0 (Nat.le_of_ble_eq_true rfl) ?_; intro w5 hE5 hB0 hz5
      replace hX := hX.mine hE5 hl0
      replace hs := hs.ext hE5 (fun _ h => h)
      replace hR := hR.ext hE5 (B := b0) (fun i h => Nat.le_of_eq (Eq.symm h)) h1b
      refine wl_nil ?_
      refine W_seq ?_
      refine W_seq ?_
      refine W_region ?_
      refine wl_val (rn_move (by conv => lhs; whnf)) ?_
      refine wl_val (rn_errQ (by kernel_rfl) rfl hA.is) ?_
      refine wl_nil ?_
      refine W_cond rfl (fun hc2 => ?_) (fun hc2 => ?_)
      · have hc2 : isErr e = true := hc2
        have hno : fillR ⟨kd, sb, tx, pl, kp⟩ (a :: r) = none := by rcases hA with ⟨h, _⟩ | ⟨_, h⟩; subst h; cases hc2; exact fillE k3 h
        refine W_seq ?_
        refine W_region ?_
        refine wl_val (rn_assign (by conv => lhs; whnf)) ?_
        refine wl_nil ?_
        refine W_ret ?_
        first | exact ⟨_, resR1 (res1_tmp rfl), hX, ⟨by rw [fill3, hta]; cases unR b <;> rfl, ⟨3, sb, (unR a).getD [], (unR b).getD [], kp⟩, hB0, fun z hz => by rw [fill3, hta] at hz; cases hb : unR b with | none => (rw [hb] at hz; cases hz) | some p => (rw [hb] at hz; simp only [Option.some.injEq] at hz; rw [← hz, hta]; rfl)⟩⟩ | exact ⟨_, resR1 (res1_tmp rfl), hX, ⟨by rw [hno, hta]; rfl, ⟨3, sb, (unR a).getD [], pl, kp⟩, hB0, fun z hz => by rw [hno] at hz; cases hz⟩⟩ | exact ⟨_, resR1 (res1_tmp rfl), hX, ⟨by rw [hno]; rfl, ⟨kd, sb, tx, pl, kp⟩, hB0, fun z hz => by rw [hno] at hz; cases hz⟩⟩ | exact ⟨_, resR1 (res1_tmp rfl), hX, ⟨by rw [hno]; rfl, ⟨3, sb, tx, pl, kp⟩, hB0, fun z hz => by rw [hno] at hz; cases hz⟩⟩ | exact ⟨_, resR1 (res1_tmp rfl), hX, ⟨by rw [hno]; rfl, ⟨kd, n, tx, pl, kp⟩, hB0, fun z hz => by rw [hno] at hz; cases hz⟩⟩ | exact ⟨_, resR1 (res1_tmp rfl), hX, ⟨by rw [fill45 k3 k45 hok]; exact congrArg Value.bool (by cases r with | nil => rfl | cons b q => exact decide_eq_false (by simp only [List.length_cons]; omega)), ⟨kd, n, tx, pl, kp⟩, hB0, fun z hz => by rw [fill45 k3 k45 hok] at hz; cases r with | nil => (simp only [Option.some.injEq] at hz; exact hz) | cons b q => cases hz⟩⟩ | exact ⟨_, resR1 (res1_tmp rfl), hX, ⟨by rw [fill12s k3 k45 hok]; rfl, ⟨kd, n, (unR b).getD [], pl, kp⟩, hB0, fun z hz => by rw [fill12 k3 k45 hok] at hz; cases hb : unR b with | none => (simp only [hb] at hz; cases hz) | some p => (simp only [hb, Option.some.injEq] at hz; rw [← hz]; rfl)⟩⟩
      · have hc2 : isErr e = false := hc2
        obtain ⟨rfl, hok⟩ : e = .nilIface ∧ Lib.atoiAll a = .ok n := by rcases hA with h | ⟨⟨_, _, h⟩, _⟩; exact h; subst h; cases hc2
        refine W_skip ?_
        refine W_seq ?_
        refine W_seq ?_
        refine W_region ?_
        refine wl_val (rn_move (by conv => lhs; whnf)) ?_
        refine wl_val (rn_nilCheck rfl) ?_
        refine wl_val (rn_fieldAddr f_69_0 (by decide) rfl) ?_
        refine wl_val (rn_load1 p_3 rfl hB0 rfl) ?_
        refine wl_val (rn_eql rfl rfl) ?_
        refine wl_val (rn_move (by conv => lhs; whnf)) ?_
        refine wl_split (d := 57) rfl (fun hg57 => ?_) (fun hg57 => ?_)
        · have k45 : kd = 4 ∨ kd = 5 := .inl (of_decide_eq_true hg57)
          refine wl_no rfl (congrArg Value.bool hg57) ?_
          refine wl_no rfl (congrArg Value.bool hg57) ?_
          refine wl_no rfl (congrArg Value.bool hg57) ?_
          refine wl_no rfl (congrArg Value.bool hg57) ?_
          refine wl_no rfl (congrArg Value.bool hg57) ?_
          refine wl_val (rn_pickT (congrArg Value.bool hg57) (by conv => lhs; whnf)) ?_
          refine wl_nil ?_
          refine W_condT rfl ?_
          refine W_seq ?_
          refine W_region ?_
          refine wl_val (rn_move (by conv => lhs; whnf)) ?_
          refine wl_val (rn_len sl_22 rfl) ?_
          refine wl_val (rn_eql rfl rfl) ?_
          refine wl_val (rn_assign (by conv => lhs; whnf)) ?_
          refine wl_nil ?_
          refine W_ret ?_
          first | exact ⟨_, resR1 (res1_tmp rfl), hX, ⟨by rw [fill3, hta]; cases unR b <;> rfl, ⟨3, sb, (unR a).getD [], (unR b).getD [], kp⟩, hB0, fun z hz => by rw [fill3, hta] at hz; cases hb : unR b with | none => (rw [hb] at hz; cases hz) | some p => (rw [hb] at hz; simp only [Option.some.injEq] at hz; rw [← hz, hta]; rfl)⟩⟩ | exact ⟨_, resR1 (res1_tmp rfl), hX, ⟨by rw [hno, hta]; rfl, ⟨3, sb, (unR a).getD [], pl, kp⟩, hB0, fun z hz => by rw [hno] at hz; cases hz⟩⟩ | exact ⟨_, resR1 (res1_tmp rfl), hX, ⟨by rw [hno]; rfl, ⟨kd, sb, tx, pl, kp⟩, hB0, fun z hz => by rw [hno] at hz; cases hz⟩⟩ | exact ⟨_, resR1 (res1_tmp rfl), hX, ⟨by rw [hno]; rfl, ⟨3, sb, tx, pl, kp⟩, hB0, fun z hz => by rw [hno] at hz; cases hz⟩⟩ | exact ⟨_, resR1 (res1_tmp rfl), hX, ⟨by rw [hno]; rfl, ⟨kd, n, tx, pl, kp⟩, hB0, fun z hz => by rw [hno] at hz; cases hz⟩⟩ | exact ⟨_, resR1 (res1_tmp rfl), hX, ⟨by rw [fill45 k3 k45 hok]; exact congrArg Value.bool (by cases r with | nil => rfl | cons b q => exact decide_eq_false (by simp only [List.length_cons]; omega)), ⟨kd, n, tx, pl, kp⟩, hB0, fun z hz => by rw [fill45 k3 k45 hok] at hz; cases r with | nil => (simp only [Option.some.injEq] at hz; exact hz) | cons b q => cases hz⟩⟩ | exact ⟨_, resR1 (res1_tmp rfl), hX, ⟨by rw [fill12s k3 k45 hok]; rfl, ⟨kd, n, (unR b).getD [], pl, kp⟩, hB0, fun z hz => by rw [fill12 k3 k45 hok] at hz; cases hb : unR b with | none => (simp only [hb] at hz; cases hz) | some p => (simp only [hb, Option.some.injEq] at hz; rw [← hz]; rfl)⟩⟩
        · have k4 : ¬ kd = 4 := of_decide_eq_false hg57
          refine wl_yes rfl (congrArg Value.bool hg57) ?_
          refine wl_val (rn_move (by conv => lhs; whnf)) ?_
          refine wl_yes rfl (congrArg Value.bool hg57) ?_
          refine wl_val (rn_nilCheck rfl) ?_
          refine wl_yes rfl (congrArg Value.bool hg57) ?_
          refine wl_val (rn_fieldAddr f_69_0 (by decide) rfl) ?_
          refine wl_yes rfl (congrArg Value.bool hg57) ?_
          refine wl_val (rn_load1 p_3 rfl hB0 rfl) ?_
          refine wl_yes rfl (congrArg Value.bool hg57) ?_
          refine wl_val (rn_eql rfl rfl) ?_
          refine wl_val (rn_pickF (congrArg Value.bool hg57) (by conv => lhs; whnf)) ?_
          refine wl_nil ?_
          refine W_cond rfl (fun hc3 => ?_) (fun hc3 => ?_)
          · have k45 : kd = 4 ∨ kd = 5 := .inr (of_decide_eq_true hc3)
            refine W_seq ?_
            refine W_region ?_
            refine wl_val (rn_move (by conv => lhs; whnf)) ?_
            refine wl_val (rn_len sl_22 rfl) ?_
            refine wl_val (rn_eql rfl rfl) ?_
            refine wl_val (rn_assign (by conv => lhs; whnf)) ?_
            refine wl_nil ?_
            refine W_ret ?_
            first | exact ⟨_, resR1 (res1_tmp rfl), hX, ⟨by rw [fill3, hta]; cases unR b <;> rfl, ⟨3, sb, (unR a).getD [], (unR b).getD [], kp⟩, hB0, fun z hz => by rw [fill3, hta] at hz; cases hb : unR b with | none => (rw [hb] at hz; cases hz) | some p => (rw [hb] at hz; simp only [Option.some.injEq] at hz; rw [← hz, hta]; rfl)⟩⟩ | exact ⟨_, resR1 (res1_tmp rfl), hX, ⟨by rw [hno, hta]; rfl, ⟨3, sb, (unR a).getD [], pl, kp⟩, hB0, fun z hz => by rw [hno] at hz; cases hz⟩⟩ | exact ⟨_, resR1 (res1_tmp rfl), hX, ⟨by rw [hno]; rfl, ⟨kd, sb, tx, pl, kp⟩, hB0, fun z hz => by rw [hno] at hz; cases hz⟩⟩ | exact ⟨_, resR1 (res1_tmp rfl), hX, ⟨by rw [hno]; rfl, ⟨3, sb, tx, pl, kp⟩, hB0, fun z hz => by rw [hno] at hz; cases hz⟩⟩ | exact ⟨_, resR1 (res1_tmp rfl), hX, ⟨by rw [hno]; rfl, ⟨kd, n, tx, pl, kp⟩, hB0, fun z hz => by rw [hno] at hz; cases hz⟩⟩ | exact ⟨_, resR1 (res1_tmp rfl), hX, ⟨by rw [fill45 k3 k45 hok]; exact congrArg Value.bool (by cases r with | nil => rfl | cons b q => exact decide_eq_false (by simp only [List.length_cons]; omega)), ⟨kd, n, tx, pl, kp⟩, hB0, fun z hz => by rw [fill45 k3 k45 hok] at hz; cases r with | nil => (simp only [Option.some.injEq] at hz; exact hz) | cons b q => cases hz⟩⟩ | exact ⟨_, resR1 (res1_tmp rfl), hX, ⟨by rw [fill12s k3 k45 hok]; rfl, ⟨kd, n, (unR b).getD [], pl, kp⟩, hB0, fun z hz => by rw [fill12 k3 k45 hok] at hz; cases hb : unR b with | none => (simp only [hb] at hz; cases hz) | some p => (simp only [hb, Option.some.injEq] at hz; rw [← hz]; rfl)⟩⟩
          · have k45 : ¬ (kd = 4 ∨ kd = 5) := fun h => h.elim k4 (of_decide_eq_false hc3)
            refine W_skip ?_
            refine W_seq ?_
            refine W_drawF (fun i => i = b0) mixed ?_; intro w6 hE6
            replace hX := hX.tr hE6
            replace hB0 := hB0.ext hE6 id
            replace hs := hs.ext hE6 (fun _ h => h.elim)
            replace hR := hR.non hE6
            have hS := Ext.refl (fun i => i = b0) w6
            have hzd0 := hB0.lt
            refine wd_take 0 _ _ rfl (by kernel_rfl) hS (yd_do fun A hA => rn_move (by conv => lhs; whnf)) ?_
            refine wd_take 1 _ _ rfl (by kernel_rfl) hS (yd_do fun A hA => rn_len sl_22 rfl) ?_
            refine wd_take 2 _ _ rfl (by kernel_rfl) hS (yd_do fun A hA => rn_eql rfl rfl) ?_
            refine wd_take 3 _ _ rfl (by kernel_rfl) hS (yd_do fun A hA => rn_move (by conv => lhs; whnf)) ?_
            refine wd_split (d := 70) rfl (fun hg70 => ?_) (fun hg70 => ?_)
            · obtain ⟨b, rfl⟩ := one_of (a := a) (r := r) (by have := of_decide_eq_true hg70; omega)
              refine wd_take 4 _ _ rfl (by kernel_rfl) hS (yd_yes rfl (congrArg Value.bool hg70) fun A hA => rn_move (by conv => lhs; whnf)) ?_
              refine wd_take 5 _ _ rfl (by kernel_rfl) hS (yd_yes rfl (congrArg Value.bool hg70) fun A hA => rn_move (by conv => lhs; whnf)) ?_
              refine wd_take 6 _ _ rfl (by kernel_rfl) hS (yd_yes rfl (congrArg Value.bool hg70) fun A hA => rn_nilCheck rfl) ?_
              refine wd_take 7 _ _ rfl (by kernel_rfl) hS (yd_yes rfl (congrArg Value.bool hg70) fun A hA => rn_fieldAddr f_69_2 (by decide) rfl) ?_
              refine wd_take 8 _ _ rfl (by kernel_rfl) hS (yd_yes rfl (congrArg Value.bool hg70) fun A hA => rn_move (by conv => lhs; whnf)) ?_
              refine wd_take 9 _ _ rfl (by kernel_rfl) hS (yd_yes rfl (congrArg Value.bool hg70) fun A hA => rn_indexAddr sl_22 rfl rfl (by simp)) ?_
              refine wd_take 10 _ _ rfl (by kernel_rfl) hS (yd_yes rfl (congrArg Value.bool hg70) fun A hA => rn_load p_9 rfl ((hs.ext hA (fun _ h => h)).at0 (eS_at (i := 1) (x := b) rfl) rfl)) ?_
              refine wd_only 11 _ rfl (by kernel_rfl) ?_
              refine s1_yes rfl (congrArg Value.bool hg70) ?_
              refine wl_callF rfl e_240 rfl (fillT_ok w6 b0 2 _ hB0 (Nat.le_of_ble_eq_true rfl) b (hln _ (by simp)) (hR.ext hS (B := b0) (fun i h => Nat.le_of_eq (Eq.symm h)) h1b)) ?_; rintro v78 w7 hE7 ⟨rfl, hB0⟩
              replace hS := hS.trans hE7
              refine wl_nil ⟨hS, ?_⟩
              refine wd_take 12 _ _ rfl (by kernel_rfl) hS (yd_do fun A hA => rn_pickT (congrArg Value.bool hg70) (by conv => lhs; whnf)) ?_
              refine wd_take 13 _ _ rfl (by kernel_rfl) hS (yd_do fun A hA => rn_assign (by conv => lhs; whnf)) ?_
              refine wd_done (by kernel_rfl) ?_ _
              replace hX := hX.mine hS hl0
              refine W_ret ?_
              first | exact ⟨_, resR1 (res1_tmp rfl), hX, ⟨by rw [fill3, hta]; cases unR b <;> rfl, ⟨3, sb, (unR a).getD [], (unR b).getD [], kp⟩, hB0, fun z hz => by rw [fill3, hta] at hz; cases hb : unR b with | none => (rw [hb] at hz; cases hz) | some p => (rw [hb] at hz; simp only [Option.some.injEq] at hz; rw [← hz, hta]; rfl)⟩⟩ | exact ⟨_, resR1 (res1_tmp rfl), hX, ⟨by rw [hno, hta]; rfl, ⟨3, sb, (unR a).getD [], pl, kp⟩, hB0, fun z hz => by rw [hno] at hz; cases hz⟩⟩ | exact ⟨_, resR1 (res1_tmp rfl), hX, ⟨by rw [hno]; rfl, ⟨kd, sb, tx, pl, kp⟩, hB0, fun z hz => by rw [hno] at hz; cases hz⟩⟩ | exact ⟨_, resR1 (res1_tmp rfl), hX, ⟨by rw [hno]; rfl, ⟨3, sb, tx, pl, kp⟩, hB0, fun z hz => by rw [hno] at hz; cases hz⟩⟩ | exact ⟨_, resR1 (res1_tmp rfl), hX, ⟨by rw [hno]; rfl, ⟨kd, n, tx, pl, kp⟩, hB0, fun z hz => by rw [hno] at hz; cases hz⟩⟩ | exact ⟨_, resR1 (res1_tmp rfl), hX, ⟨by rw [fill45 k3 k45 hok]; exact congrArg Value.bool (by cases r with | nil => rfl | cons b q => exact decide_eq_false (by simp only [List.length_cons]; omega)), ⟨kd, n, tx, pl, kp⟩, hB0, fun z hz => by rw [fill45 k3 k45 hok] at hz; cases r with | nil => (simp only [Option.some.injEq] at hz; exact hz) | cons b q => cases hz⟩⟩ | exact ⟨_, resR1 (res1_tmp rfl), hX, ⟨by rw [fill12s k3 k45 hok]; rfl, ⟨kd, n, (unR b).getD [], pl, kp⟩, hB0, fun z hz => by rw [fill12 k3 k45 hok] at hz; cases hb : unR b with | none => (simp only [hb] at hz; cases hz) | some p => (simp only [hb, Option.some.injEq] at hz; rw [← hz]; rfl)⟩⟩
            · have hno := fill12n (sb := sb) (tx := tx) (pl := pl) (kp := kp) k3 k45 hok (fun h => of_decide_eq_false hg70 (congrArg (fun q : Nat => (q : Int)) h))
              refine wd_take 4 _ _ rfl (by kernel_rfl) hS (yd_no rfl (congrArg Value.bool hg70)) ?_
              refine wd_take 5 _ _ rfl (by kernel_rfl) hS (yd_no rfl (congrArg Value.bool hg70)) ?_
              refine wd_take 6 _ _ rfl (by kernel_rfl) hS (yd_no rfl (congrArg Value.bool hg70)) ?_
              refine wd_take 7 _ _ rfl (by kernel_rfl) hS (yd_no rfl (congrArg Value.bool hg70)) ?_
              refine wd_take 8 _ _ rfl (by kernel_rfl) hS (yd_no rfl (congrArg Value.bool hg70)) ?_
              refine wd_take 9 _ _ rfl (by kernel_rfl) hS (yd_no rfl (congrArg Value.bool hg70)) ?_
              refine wd_take 10 _ _ rfl (by kernel_rfl) hS (yd_no rfl (congrArg Value.bool hg70)) ?_
              refine wd_only 11 _ rfl (by kernel_rfl) ?_
              refine s1_no rfl (congrArg Value.bool hg70) ⟨hS, ?_⟩
              refine wd_take 12 _ _ rfl (by kernel_rfl) hS (yd_do fun A hA => rn_pickF (congrArg Value.bool hg70) (by conv => lhs; whnf)) ?_
              refine wd_take 13 _ _ rfl (by kernel_rfl) hS (yd_do fun A hA => rn_assign (by conv => lhs; whnf)) ?_
              refine wd_done (by kernel_rfl) ?_ _
              replace hX := hX.mine hS hl0
              refine W_ret ?_
              first | exact ⟨_, resR1 (res1_tmp rfl), hX, ⟨by rw [fill3, hta]; cases unR b <;> rfl, ⟨3, sb, (unR a).getD [], (unR b).getD [], kp⟩, hB0, fun z hz => by rw [fill3, hta] at hz; cases hb : unR b with | none => (rw [hb] at hz; cases hz) | some p => (rw [hb] at hz; simp only [Option.some.injEq] at hz; rw [← hz, hta]; rfl)⟩⟩ | exact ⟨_, resR1 (res1_tmp rfl), hX, ⟨by rw [hno, hta]; rfl, ⟨3, sb, (unR a).getD [], pl, kp⟩, hB0, fun z hz => by rw [hno] at hz; cases hz⟩⟩ | exact ⟨_, resR1 (res1_tmp rfl), hX, ⟨by rw [hno]; rfl, ⟨kd, sb, tx, pl, kp⟩, hB0, fun z hz => by rw [hno] at hz; cases hz⟩⟩ | exact ⟨_, resR1 (res1_tmp rfl), hX, ⟨by rw [hno]; rfl, ⟨3, sb, tx, pl, kp⟩, hB0, fun z hz => by rw [hno] at hz; cases hz⟩⟩ | exact ⟨_, resR1 (res1_tmp rfl), hX, ⟨by rw [hno]; rfl, ⟨kd, n, tx, pl, kp⟩, hB0, fun z hz => by rw [hno] at hz; cases hz⟩⟩ | exact ⟨_, resR1 (res1_tmp rfl), hX, ⟨by rw [fill45 k3 k45 hok]; exact congrArg Value.bool (by cases r with | nil => rfl | cons b q => exact decide_eq_false (by simp only [List.length_cons]; omega)), ⟨kd, n, tx, pl, kp⟩, hB0, fun z hz => by rw [fill45 k3 k45 hok] at hz; cases r with | nil => (simp only [Option.some.injEq] at hz; exact hz) | cons b q => cases hz⟩⟩ | exact ⟨_, resR1 (res1_tmp rfl), hX, ⟨by rw [fill12s k3 k45 hok]; rfl, ⟨kd, n, (unR b).getD [], pl, kp⟩, hB0, fun z hz => by rw [fill12 k3 k45 hok] at hz; cases hb : unR b with | none => (simp only [hb] at hz; cases hz) | some p => (simp only [hb, Option.some.injEq] at hz; rw [← hz]; rfl)⟩⟩
end Go.Proofs.YthcclgoidchkdaaGreatDoorC

/- The operation of a line: the program's. -/
set_option linter.unusedVariables false
set_option linter.unusedSimpArgs false
set_option maxRecDepth 100000
namespace Go.Proofs.YthcclgoidchkdaaGreatDoorC
open Go.RowKit
def parseR (s : Str) : OpD × Int :=
  match spl 32 s with
  | [] => (oK 0 false, 11)
  | h :: r => match kindOf h with
    | none => (oK 0 false, 11)
    | some o => match fillR o r with
      | none => (oK 0 false, 10)
      | some z => if plainR z = true ∧ lineR z = s then (z, 0) else (oK 0 false, 10)
theorem parse_no {s h : Str} {r : List Str} (hs : spl 32 s = h :: r) (hk : kindOf h = none) : parseR s = (oK 0 false, 11) := by unfold parseR; rw [hs]; simp only [hk]
theorem parse_nofill {s h : Str} {r : List Str} {o : OpD} (hs : spl 32 s = h :: r) (hk : kindOf h = some o) (hf : fillR o r = none) : parseR s = (oK 0 false, 10) := by unfold parseR; rw [hs]; simp only [hk, hf]
theorem parse_fill {s h : Str} {r : List Str} {o z : OpD} (hs : spl 32 s = h :: r) (hk : kindOf h = some o) (hf : fillR o r = some z) : parseR s = if plainR z = true ∧ lineR z = s then (z, 0) else (oK 0 false, 10) := by unfold parseR; rw [hs]; simp only [hk, hf]
theorem sl_up {w : World} {v : Value} {k : Nat} {rows : List (List Value)} (h : Sl Non w v k rows) {n : Nat} (hn : n = w.heap.size) : Sl (fun i => n ≤ i) w v k rows := h.sub fun i h1 h2 => by omega
theorem sl_cap {M : Nat → Prop} {w : World} {a : Option Addr} {m c k : Nat} {rows : List (List Value)} (h : Sl M w (.slice a m c) k rows) : m ≤ c := by
  obtain ⟨⟨a', c', e, h1, _⟩, _⟩ := h
  simp only [Value.slice.injEq] at e
  omega
theorem sl_tail {M : Nat → Prop} {w : World} {a : Option Addr} {c : Nat} {h : Str} {r : List Str} (hs : Sl M w (.slice a (h :: r).length c) 1 ((h :: r).map eS1)) : Sl M w (.slice (if c = 1 then a else a.map (·.add (1 * 1))) ((h :: r).length - 1) (c - 1)) 1 (r.map eS1) := by
  have := hs.cut (l := 1) (h := (h :: r).length) (m := c) (by simp) (Nat.le_refl _) (sl_cap hs) (Nat.le_refl _)
  have e : (((h :: r).map eS1).drop 1).take ((h :: r).length - 1) = r.map eS1 := by rw [List.map_cons, List.drop_succ_cons, List.drop_zero]; exact List.take_of_length_le (by simp)
  rw [e] at this; exact this
theorem kind_bare {h : Str} {o : OpD} (hk : kindOf h = some o) : o.text = [] ∧ o.payload = [] := by
  unfold kindOf at hk
  repeat' split at hk
  all_goals first | (cases hk; exact ⟨rfl, rfl⟩) | cases hk
theorem word_ge (s : Str) : s.length ≤ (wordR s).length := by
  have h : ∀ t : Str, t.length ≤ (wordL t).length := fun t => by induction t with
    | nil => exact Nat.le_refl _
    | cons c t ih =>
      have : 1 ≤ (wordB c).length := by unfold wordB; split <;> simp
      simp only [wordL, List.length_append, List.length_cons]; omega
  unfold wordR
  split
  · rename_i e; rw [e]; simp
  · exact h s
theorem unR_len {w s : Str} (h : unR w = some s) : s.length ≤ w.length := by have := word_ge s; rw [word_unR h] at this; exact this
theorem fill_len {o z : OpD} {r : List Str} (ho : o.text = [] ∧ o.payload = []) (hr : ∀ a ∈ r, a.length ≤ 4000) (h : fillR o r = some z) : z.text.length ≤ 4000 ∧ z.payload.length ≤ 4000 := by
  unfold fillR at h
  split at h
  · split at h
    · split at h
      · rename_i t p h1 h2
        simp only [Option.some.injEq] at h; subst h
        exact ⟨Nat.le_trans (unR_len h1) (hr _ (by simp)), Nat.le_trans (unR_len h2) (hr _ (by simp))⟩
      · cases h
    · cases h
  · split at h
    · cases h
    · split at h
      · split at h
        · split at h
          · simp only [Option.some.injEq] at h; subst h; simp [ho.1, ho.2]
          · cases h
        · split at h
          · split at h
            · rename_i t h1
              simp only [Option.some.injEq] at h; subst h
              exact ⟨Nat.le_trans (unR_len h1) (hr _ (by simp)), by simp [ho.2]⟩
            · cases h
          · cases h
      · cases h
-- bellman/op.Parse
set_option maxHeartbeats 1600000 in
theorem parse_ok (w : World) (s : Str) (hn : s.length ≤ 4000) (hT : Tab w) (hR : ErrS w) : Fn Tryz.prog 154 #[Sv s] w fun u w' => u = .tuple #[.agg (parseR s).1.enc.toArray, .int .i64 (parseR s).2] := by
  have hG := hT.gl (Nat.le_refl w.heap.size); have hTw := hR.two
  have hX := Ext.refl Non w
  refine fn_of_W (args := [_]) Tryz.func154 rfl (by kernel_rfl) rfl ?_
  refine W_seq ?_
  refine W_region ?_
  refine wl_alloc z_69 ?_; intro b2 w1 hb2 hE1 hB2
  have hq2 : w.heap.size ≤ b2 := Nat.le_trans hX.size hb2
  have hl2 : Mine Non w b2 := .inr hq2
  replace hX := hX.tr hE1
  replace hT := hT.non hE1
  replace hR := hR.non hE1
  refine wl_val (rn_assign (by conv => lhs; whnf)) ?_
  refine wl_nil ?_
  refine W_seq ?_
  refine W_region ?_
  refine wl_val (rn_move (by conv => lhs; whnf)) ?_
  refine wl_call e_103 rfl (split_ok w1 s (by omega)) ?_; intro v10 w2 hE2 hR2
  replace hX := hX.tr hE2
  replace hB2 := hB2.ext hE2 id
  replace hT := hT.non hE2
  replace hR := hR.non hE2
  have hs10 := hR2
  obtain ⟨h, r, hsp⟩ := spl_ex 32 s
  rw [hsp] at hs10
  obtain ⟨a10, c10, hv10, hbl⟩ := id hs10.len; subst hv10
  obtain ⟨bb, oo, ea⟩ := hs10.base (by simp); subst ea
  simp only [List.length_map] at hs10 hbl ⊢
  obtain ⟨n10, hn10⟩ : ∃ n, n = (World.heap w2).size := ⟨_, rfl⟩
  replace hs10 := sl_up hs10 hn10
  have hz10 : n10 ≤ (World.heap w2).size := Nat.le_of_eq hn10
  have hcap := sl_cap hs10; have hlen1 : 1 ≤ (h :: r).length := by simp
  have h2n : b2 < n10 := by have := hB2.lt; omega
  have hln : ∀ a ∈ r, a.length ≤ 4000 := fun a ha => Nat.le_trans (spl_le (b := 32) (s := s) (by rw [hsp]; exact List.mem_cons_of_mem _ ha)) hn
  refine wl_val (rn_assign (by conv => lhs; whnf)) ?_
  refine wl_nil ?_
  refine W_cut (T := Unit × Nat) [0, 2, 4, 5, 6] (fun ⟨_, b5⟩ => [Sv s, .pointer (some ⟨b2, 0, none⟩), .slice (some ⟨bb, oo, none⟩) (h :: r).length c10, .pointer (some ⟨b5, 0, none⟩), .bool (kindOf h).isSome]) (fun ⟨_, b5⟩ A => (Ext Non w A) ∧ (IsBox A b2 (oK 0 false).enc) ∧ (IsBox A b5 ((kindOf h).getD (oK 0 false)).enc) ∧ (Mine Non w b2) ∧ (Mine Non w b5) ∧ (Tab A ∧ ErrS A ∧ Sl (fun i => n10 ≤ i) A (.slice (some ⟨bb, oo, none⟩) (h :: r).length c10) 1 ((h :: r).map eS1) ∧ n10 ≤ b5 ∧ n10 ≤ A.heap.size)) ?_ ?_
  · refine W_drawX (fun j => false) mixed ?_; intro w3 hE3
    replace hX := hX.tr hE3
    replace hB2 := hB2.ext hE3 id
    replace hT := hT.non hE3
    replace hR := hR.non hE3
    replace hs10 := hs10.ext hE3 (fun _ h => h.elim)
    replace hz10 := Nat.le_trans hz10 hE3.size
    have hS := Ext.refl Non w3
    refine wx_take 1 [2, 3, 4, 5, 6, 7, 9, 10] _ _ rfl (by kernel_rfl) hS (yd_do fun A hA => rn_move (by conv => lhs; whnf)) ?_
    refine wx_take 2 [3, 4, 5, 6, 7, 9, 10] _ _ rfl (by kernel_rfl) hS (yd_do fun A hA => rn_indexAddr sl_22 rfl rfl (by simp)) ?_
    refine wx_take 3 [4, 5, 6, 7, 9, 10] _ _ rfl (by kernel_rfl) hS (yd_do fun A hA => rn_load p_9 rfl ((hs10.ext hA (fun _ h => h.elim)).at0 (eS_at (i := 0) (x := h) rfl) rfl)) ?_
    refine wx_two 0 8 _ _ rfl rfl (by kernel_rfl) ?_ ?_
    · refine s1_do ?_
      refine wl_call e_142 rfl (names_ok w3) ?_; intro v12 w4 hE4 hR4
      replace hS := hS.tr hE4
      obtain ⟨b12, rfl, hM12, hq12⟩ := hR4
      refine wl_nil ⟨fun _ => hS, ?_⟩
      refine wx_two 4 8 _ _ rfl rfl (by kernel_rfl) ?_ ?_
      · refine s1_do ?_
        refine wl_val (rn_lookup2 mp_so rfl rfl hM12 (kind_get h)) ?_
        refine wl_nil ⟨fun _ => hS, ?_⟩
        refine wx_take 5 [6, 7, 9, 10] _ _ rfl (by kernel_rfl) hS (yd_do fun A hA => rn_move (by conv => lhs; whnf)) ?_
        refine wx_take 6 [9, 10] _ _ rfl (by kernel_rfl) hS (yd_do fun A hA => Rn.cast (rn_extract rfl rfl) (v' := opV ((kindOf h).getD (oK 0 false))) (by cases kindOf h <;> rfl)) ?_
        refine wx_take 7 [10] _ _ rfl (by kernel_rfl) hS (yd_do fun A hA => Rn.cast (rn_extract rfl rfl) (v' := .bool (kindOf h).isSome) (by cases kindOf h <;> rfl)) ?_
        refine wx_only 8 _ rfl (by kernel_rfl) ?_
        refine s1_do ?_
        refine wl_alloc z_69 ?_; intro b5 w5 hb5 hE5 hB5
        have hn2_5 : b2 < b5 := Nat.lt_of_lt_of_le (Nat.lt_of_lt_of_le hB2.lt hS.size) hb5
        have hq5 : w.heap.size ≤ b5 := Nat.le_trans (hX.tr hS).size hb5
        have hl5 : Mine Non w b5 := .inr hq5
        have hn5 : n10 ≤ b5 := Nat.le_trans hz10 (Nat.le_trans hS.size hb5)
        have hm5 : w3.heap.size ≤ b5 := Nat.le_trans hS.size hb5
        replace hS := hS.tr hE5
        replace hM12 := hM12.ext hE5 id
        refine wl_nil ⟨fun _ => hS, ?_⟩
        refine wx_only 9 _ rfl (by kernel_rfl) ?_
        refine s1_do ?_
        refine wl_storeB s_69 rfl rfl rfl (OpD.one _) hB5 rfl ?_; intro w6 hE6 hB5 hz6
        replace hS := hS.mine hE6 (.inr (by omega))
        replace hM12 := True.intro
        refine wl_nil ⟨fun _ => hS, ?_⟩
        refine wx_take 10 [] _ _ rfl (by kernel_rfl) hS (yd_do fun A hA => rn_assign (by conv => lhs; whnf)) ?_
        refine wx_done (by kernel_rfl) ?_ _
        replace hX := hX.tr hS
        replace hB2 := hB2.ext hS id
        replace hT := hT.non hS
        replace hR := hR.non hS
        replace hs10 := hs10.ext hS (fun _ h => h.elim)
        replace hz10 := Nat.le_trans hz10 hS.size
        exact ⟨rfl, ((), b5), ⟨rfl, rfl, rfl, rfl, rfl, trivial⟩, ⟨hX, hB2, hB5, hl2, hl5, ⟨hT, hR, hs10, hn5, hz10⟩⟩⟩
      · refine s1_do ?_
        refine wl_alloc z_69 ?_; intro b5 w7 hb5 hE7 hB5
        have hn2_5 : b2 < b5 := Nat.lt_of_lt_of_le (Nat.lt_of_lt_of_le hB2.lt hS.size) hb5
        have hq5 : w.heap.size ≤ b5 := Nat.le_trans (hX.tr hS).size hb5
        have hl5 : Mine Non w b5 := .inr hq5
        have hn5 : n10 ≤ b5 := Nat.le_trans hz10 (Nat.le_trans hS.size hb5)
        have hm5 : w3.heap.size ≤ b5 := Nat.le_trans hS.size hb5
        replace hS := hS.tr hE7
        replace hM12 := hM12.ext hE7 id
        refine wl_nil ⟨fun _ => hS, ?_⟩
        refine wx_only 4 _ rfl (by kernel_rfl) ?_
        refine s1_do ?_
        refine wl_val (rn_lookup2 mp_so rfl rfl hM12 (kind_get h)) ?_
        refine wl_nil ⟨fun _ => hS, ?_⟩
        refine wx_take 5 [6, 7, 9, 10] _ _ rfl (by kernel_rfl) hS (yd_do fun A hA => rn_move (by conv => lhs; whnf)) ?_
        refine wx_take 6 [9, 10] _ _ rfl (by kernel_rfl) hS (yd_do fun A hA => Rn.cast (rn_extract rfl rfl) (v' := opV ((kindOf h).getD (oK 0 false))) (by cases kindOf h <;> rfl)) ?_
        refine wx_take 7 [10] _ _ rfl (by kernel_rfl) hS (yd_do fun A hA => Rn.cast (rn_extract rfl rfl) (v' := .bool (kindOf h).isSome) (by cases kindOf h <;> rfl)) ?_
        refine wx_only 9 _ rfl (by kernel_rfl) ?_
        refine s1_do ?_
        refine wl_storeB s_69 rfl rfl rfl (OpD.one _) hB5 rfl ?_; intro w8 hE8 hB5 hz8
        replace hS := hS.mine hE8 (.inr (by omega))
        replace hM12 := True.intro
        refine wl_nil ⟨fun _ => hS, ?_⟩
        refine wx_take 10 [] _ _ rfl (by kernel_rfl) hS (yd_do fun A hA => rn_assign (by conv => lhs; whnf)) ?_
        refine wx_done (by kernel_rfl) ?_ _
        replace hX := hX.tr hS
        replace hB2 := hB2.ext hS id
        replace hT := hT.non hS
        replace hR := hR.non hS
        replace hs10 := hs10.ext hS (fun _ h => h.elim)
        replace hz10 := Nat.le_trans hz10 hS.size
        exact ⟨rfl, ((), b5), ⟨rfl, rfl, rfl, rfl, rfl, trivial⟩, ⟨hX, hB2, hB5, hl2, hl5, ⟨hT, hR, hs10, hn5, hz10⟩⟩⟩
    · refine s1_do ?_
      refine wl_alloc z_69 ?_; intro b5 w9 hb5 hE9 hB5
      have hn2_5 : b2 < b5 := Nat.lt_of_lt_of_le (Nat.lt_of_lt_of_le hB2.lt hS.size) hb5
      have hq5 : w.heap.size ≤ b5 := Nat.le_trans (hX.tr hS).size hb5
      have hl5 : Mine Non w b5 := .inr hq5
      have hn5 : n10 ≤ b5 := Nat.le_trans hz10 (Nat.le_trans hS.size hb5)
      have hm5 : w3.heap.size ≤ b5 := Nat.le_trans hS.size hb5
      replace hS := hS.tr hE9
      refine wl_nil ⟨fun _ => hS, ?_⟩
      refine wx_only 0 _ rfl (by kernel_rfl) ?_
      refine s1_do ?_
      refine wl_call e_142 rfl (names_ok w9) ?_; intro v12 w10 hE10 hR10
      replace hB5 := hB5.ext hE10 id
      replace hS := hS.tr hE10
      obtain ⟨b12, rfl, hM12, hq12⟩ := hR10
      refine wl_nil ⟨fun _ => hS, ?_⟩
      refine wx_only 4 _ rfl (by kernel_rfl) ?_
      refine s1_do ?_
      refine wl_val (rn_lookup2 mp_so rfl rfl hM12 (kind_get h)) ?_
      refine wl_nil ⟨fun _ => hS, ?_⟩
      refine wx_take 5 [6, 7, 9, 10] _ _ rfl (by kernel_rfl) hS (yd_do fun A hA => rn_move (by conv => lhs; whnf)) ?_
      refine wx_take 6 [9, 10] _ _ rfl (by kernel_rfl) hS (yd_do fun A hA => Rn.cast (rn_extract rfl rfl) (v' := opV ((kindOf h).getD (oK 0 false))) (by cases kindOf h <;> rfl)) ?_
      refine wx_take 7 [10] _ _ rfl (by kernel_rfl) hS (yd_do fun A hA => Rn.cast (rn_extract rfl rfl) (v' := .bool (kindOf h).isSome) (by cases kindOf h <;> rfl)) ?_
      refine wx_only 9 _ rfl (by kernel_rfl) ?_
      refine s1_do ?_
      refine wl_storeB s_69 rfl rfl rfl (OpD.one _) hB5 rfl ?_; intro w11 hE11 hB5 hz11
      replace hS := hS.mine hE11 (.inr (by omega))
      replace hM12 := True.intro
      refine wl_nil ⟨fun _ => hS, ?_⟩
      refine wx_take 10 [] _ _ rfl (by kernel_rfl) hS (yd_do fun A hA => rn_assign (by conv => lhs; whnf)) ?_
      refine wx_done (by kernel_rfl) ?_ _
      replace hX := hX.tr hS
      replace hB2 := hB2.ext hS id
      replace hT := hT.non hS
      replace hR := hR.non hS
      replace hs10 := hs10.ext hS (fun _ h => h.elim)
      replace hz10 := Nat.le_trans hz10 hS.size
      exact ⟨rfl, ((), b5), ⟨rfl, rfl, rfl, rfl, rfl, trivial⟩, ⟨hX, hB2, hB5, hl2, hl5, ⟨hT, hR, hs10, hn5, hz10⟩⟩⟩
  · rintro τ902 ⟨_, b5⟩ C2 ⟨hX, hB2, hB5, hl2, hl5, hI⟩
    obtain ⟨hT, hR, hs10, hn5, hz10⟩ := hI
    have hq5 : w.heap.size ≤ b5 := by rcases hl5 with h | h; exact h.elim; exact h
    refine W_seq ?_
    refine W_seq ?_
    refine W_region ?_
    refine wl_val (rn_move (by conv => lhs; whnf)) ?_
    refine wl_val (rn_not rfl) ?_
    refine wl_nil ?_
    refine W_cond rfl (fun hc0 => ?_) (fun hc0 => ?_)
    · have hk : kindOf h = none := by cases hk : kindOf h with | none => rfl | some o => (rw [hk] at hc0; cases hc0)
      have hpr := parse_no hsp hk
      refine W_seq ?_
      refine W_region ?_
      refine wl_val (rn_build' b_69 rfl rfl (cs := (oK 0 false).enc) rfl) ?_
      have hBo := hB2
      refine wl_storeB s_69 rfl rfl rfl (OpD.one _) hB2 rfl ?_; intro w12 hE12 hB2 hz12
      replace hX := hX.mine hE12 hl2
      replace hB5 := hB5.ext hE12 (fun h => by omega)
      replace hT := hT.ext hE12 (B := w.heap.size) (fun j hj => by subst hj; rcases hl2 with h | h; exact h.elim; exact h) hG
      replace hR := hR.ext hE12 (B := w.heap.size) (fun j hj => by subst hj; rcases hl2 with h | h; exact h.elim; exact h) hTw
      replace hs10 := True.intro
      replace hz10 := True.intro
      refine wl_val (rn_assign (by conv => lhs; whnf)) ?_
      refine wl_nil ?_
      refine W_ret ?_
      exact ⟨_, resR2 (res1_box s_69 rfl hB2 rfl) (res1_tmp rfl), hX, by rw [hpr]; rfl⟩
    · obtain ⟨o, hk⟩ : ∃ o, kindOf h = some o := by cases hk : kindOf h with | none => (rw [hk] at hc0; cases hc0) | some o => exact ⟨o, rfl⟩
      rw [hk] at hB5; simp only [Option.getD_some] at hB5
      refine W_skip ?_
      refine W_seq ?_
      refine W_seq ?_
      refine W_region ?_
      refine wl_val (rn_move (by conv => lhs; whnf)) ?_
      refine wl_val (rn_slice sl_22 (l := 1) (h := (h :: r).length) (m := c10) rfl ⟨_, rfl⟩ rfl rfl (by simp) (by omega) (by omega) (by omega)) ?_
      refine wl_callM e_206 rfl (fill_ok C2 b5 (by omega) o hB5 r hln ((sl_tail hs10).sub (fun i h _ => by omega)) hR) ?_; rintro v24 w13 hE13 ⟨rfl, y, hB5, hy⟩
      replace hX := hX.mine hE13 hl5; replace hB2 := hB2.ext hE13 (fun e => by omega)
      replace hT := hT.ext hE13 (B := w.heap.size) (fun j hj => by omega) hG; replace hR := hR.ext hE13 (B := w.heap.size) (fun j hj => by omega) hTw
      refine wl_val (rn_not rfl) ?_
      refine wl_nil ?_
      refine W_cond rfl (fun hc1 => ?_) (fun hc1 => ?_)
      · have hno : fillR o r = none := by cases hf : fillR o r with | none => rfl | some z => (rw [hf] at hc1; cases hc1)
        have hpr := parse_nofill hsp hk hno
        refine W_seq ?_
        refine W_region ?_
        refine wl_val (rn_build' b_69 rfl rfl (cs := (oK 0 false).enc) rfl) ?_
        have hBo := hB2
        refine wl_storeB s_69 rfl rfl rfl (OpD.one _) hB2 rfl ?_; intro w14 hE14 hB2 hz14
        replace hX := hX.mine hE14 hl2
        replace hB5 := hB5.ext hE14 (fun h => by omega)
        replace hT := hT.ext hE14 (B := w.heap.size) (fun j hj => by subst hj; rcases hl2 with h | h; exact h.elim; exact h) hG
        replace hR := hR.ext hE14 (B := w.heap.size) (fun j hj => by subst hj; rcases hl2 with h | h; exact h.elim; exact h) hTw
        refine wl_val (rn_assign (by conv => lhs; whnf)) ?_
        refine wl_nil ?_
        refine W_ret ?_
        exact ⟨_, resR2 (res1_box s_69 rfl hB2 rfl) (res1_tmp rfl), hX, by rw [hpr]; rfl⟩
      · obtain ⟨z, hf⟩ : ∃ z, fillR o r = some z := by cases hf : fillR o r with | none => (rw [hf] at hc1; cases hc1) | some z => exact ⟨z, rfl⟩
        obtain rfl := hy z hf
        have hpf := parse_fill hsp hk hf; have hzl := fill_len (kind_bare hk) hln hf
        refine W_skip ?_
        refine W_seq ?_
        refine W_seq ?_
        refine W_region ?_
        refine wl_val (rn_loadB s_69 rfl rfl hB5) ?_
        refine wl_call e_51 rfl (line_ok w13 y hzl.1 hzl.2 hT) ?_; intro v29 w15 hE15 hR15
        replace hX := hX.tr hE15
        replace hB2 := hB2.ext hE15 id; replace hB5 := hB5.ext hE15 id
        replace hT := hT.non hE15
        replace hR := hR.non hE15
        subst hR15
        refine wl_val (rn_move (by conv => lhs; whnf)) ?_
        refine wl_val (rn_extract rfl rfl) ?_
        refine wl_val (rn_extract rfl rfl) ?_
        refine wl_val (rn_assign (by conv => lhs; whnf)) ?_
        refine wl_val (rn_assign (by conv => lhs; whnf)) ?_
        refine wl_nil ?_
        refine W_seq ?_
        refine W_region ?_
        refine wl_val (rn_move (by conv => lhs; whnf)) ?_
        refine wl_val (rn_neq rfl rfl) ?_
        refine wl_val (rn_move (by conv => lhs; whnf)) ?_
        refine wl_split (d := 34) rfl (fun hg34 => ?_) (fun hg34 => ?_)
        · have hp : ¬ plainR y = true := fun hp => by rw [if_pos hp] at hg34; exact absurd hg34 (by decide)
          have hpr : parseR s = (oK 0 false, 10) := by rw [hpf, if_neg (fun h => hp h.1)]
          refine wl_no rfl (congrArg Value.bool hg34) ?_
          refine wl_no rfl (congrArg Value.bool hg34) ?_
          refine wl_no rfl (congrArg Value.bool hg34) ?_
          refine wl_val (rn_pickT (congrArg Value.bool hg34) (by conv => lhs; whnf)) ?_
          refine wl_nil ?_
          refine W_condT rfl ?_
          refine W_seq ?_
          refine W_region ?_
          refine wl_val (rn_build' b_69 rfl rfl (cs := (oK 0 false).enc) rfl) ?_
          have hBo := hB2
          refine wl_storeB s_69 rfl rfl rfl (OpD.one _) hB2 rfl ?_; intro w16 hE16 hB2 hz16
          replace hX := hX.mine hE16 hl2
          replace hB5 := hB5.ext hE16 (fun h => by omega)
          replace hT := hT.ext hE16 (B := w.heap.size) (fun j hj => by subst hj; rcases hl2 with h | h; exact h.elim; exact h) hG
          replace hR := hR.ext hE16 (B := w.heap.size) (fun j hj => by subst hj; rcases hl2 with h | h; exact h.elim; exact h) hTw
          refine wl_val (rn_assign (by conv => lhs; whnf)) ?_
          refine wl_nil ?_
          refine W_ret ?_
          exact ⟨_, resR2 (res1_box s_69 rfl hB2 rfl) (res1_tmp rfl), hX, by rw [hpr]; rfl⟩
        · have hp : plainR y = true := by apply Classical.byContradiction; intro hp; rw [if_neg hp] at hg34; exact absurd hg34 (by decide)
          refine wl_yes rfl (congrArg Value.bool hg34) ?_
          refine wl_val (rn_move (by conv => lhs; whnf)) ?_
          refine wl_yes rfl (congrArg Value.bool hg34) ?_
          refine wl_val (rn_move (by conv => lhs; whnf)) ?_
          refine wl_yes rfl (congrArg Value.bool hg34) ?_
          refine wl_val (rn_sneq rfl rfl) ?_
          refine wl_val (rn_pickF (congrArg Value.bool hg34) (by conv => lhs; whnf)) ?_
          refine wl_nil ?_
          refine W_cond rfl (fun hc2 => ?_) (fun hc2 => ?_)
          · have hl := of_decide_eq_true hc2
            rw [if_pos hp] at hl
            have hpr : parseR s = (oK 0 false, 10) := by rw [hpf, if_neg (fun h => hl h.2)]
            refine W_seq ?_
            refine W_region ?_
            refine wl_val (rn_build' b_69 rfl rfl (cs := (oK 0 false).enc) rfl) ?_
            have hBo := hB2
            refine wl_storeB s_69 rfl rfl rfl (OpD.one _) hB2 rfl ?_; intro w17 hE17 hB2 hz17
            replace hX := hX.mine hE17 hl2
            replace hB5 := hB5.ext hE17 (fun h => by omega)
            replace hT := hT.ext hE17 (B := w.heap.size) (fun j hj => by subst hj; rcases hl2 with h | h; exact h.elim; exact h) hG
            replace hR := hR.ext hE17 (B := w.heap.size) (fun j hj => by subst hj; rcases hl2 with h | h; exact h.elim; exact h) hTw
            refine wl_val (rn_assign (by conv => lhs; whnf)) ?_
            refine wl_nil ?_
            refine W_ret ?_
            exact ⟨_, resR2 (res1_box s_69 rfl hB2 rfl) (res1_tmp rfl), hX, by rw [hpr]; rfl⟩
          · have hl := Classical.not_not.1 (of_decide_eq_false hc2)
            rw [if_pos hp] at hl
            have hpr : parseR s = (y, 0) := by rw [hpf, if_pos ⟨hp, hl⟩]
            refine W_skip ?_
            refine W_seq ?_
            refine W_region ?_
            refine wl_val (rn_loadB s_69 rfl rfl hB5) ?_
            have hBo := hB2
            refine wl_storeB s_69 rfl rfl rfl (OpD.one _) hB2 rfl ?_; intro w18 hE18 hB2 hz18
            replace hX := hX.mine hE18 hl2
            replace hB5 := hB5.ext hE18 (fun h => by omega)
            replace hT := hT.ext hE18 (B := w.heap.size) (fun j hj => by subst hj; rcases hl2 with h | h; exact h.elim; exact h) hG
            replace hR := hR.ext hE18 (B := w.heap.size) (fun j hj => by subst hj; rcases hl2 with h | h; exact h.elim; exact h) hTw
            refine wl_val (rn_assign (by conv => lhs; whnf)) ?_
            refine wl_nil ?_
            refine W_ret ?_
            exact ⟨_, resR2 (res1_box s_69 rfl hB2 rfl) (res1_tmp rfl), hX, by rw [hpr]; rfl⟩
end Go.Proofs.YthcclgoidchkdaaGreatDoorC

/- The operation of a line: what the document reads is what the program takes; plain. -/
set_option linter.unusedVariables false
set_option linter.unusedSimpArgs false
set_option maxRecDepth 100000
namespace Go.Proofs.YthcclgoidchkdaaGreatDoorC
open Go.RowKit
theorem kind_cases {h : Str} {o : OpD} (hk : kindOf h = some o) : (h = sSub ∧ o = oK 1 false) ∨ (h = sUnsub ∧ o = oK 2 false) ∨ (h = sPub ∧ o = oK 3 false) ∨ (h = sKeep ∧ o = oK 3 true) ∨ (h = sPoll ∧ o = oK 4 false) ∨ (h = sDrops ∧ o = oK 5 false) := by
  unfold kindOf at hk
  split at hk
  · rename_i e; cases hk; exact .inl ⟨e, rfl⟩
  · split at hk
    · rename_i e; cases hk; exact .inr (.inl ⟨e, rfl⟩)
    · split at hk
      · rename_i e; cases hk; exact .inr (.inr (.inl ⟨e, rfl⟩))
      · split at hk
        · rename_i e; cases hk; exact .inr (.inr (.inr (.inl ⟨e, rfl⟩)))
        · split at hk
          · rename_i e; cases hk; exact .inr (.inr (.inr (.inr (.inl ⟨e, rfl⟩))))
          · split at hk
            · rename_i e; cases hk; exact .inr (.inr (.inr (.inr (.inr ⟨e, rfl⟩))))
            · cases hk
theorem join_cons2 (x y : Str) (r : List Str) : Lib.join (x :: y :: r) [32] = x ++ 32 :: Lib.join (y :: r) [32] := by
  rw [Lib.join_cons, Lib.join_cons]; simp [Lib.joinTail]
theorem line_spl : ∀ s : Str, Lib.join (spl 32 s) [32] = s
  | [] => rfl
  | c :: s => by
    have ih := line_spl s
    obtain ⟨l, r, h⟩ := spl_ex 32 s
    rw [h] at ih
    by_cases hc : c = 32
    · subst hc
      rw [spl_eq, h, join_cons2, ih]; rfl
    · rw [spl_neq hc h]
      cases r with
      | nil => rw [Lib.join_one] at ih ⊢; rw [ih]
      | cons y r => rw [join_cons2] at ih ⊢; rw [List.cons_append, ih]
/-- What the document takes. -/
def docF (o : OpD) (r : List Str) : Option OpD :=
  if o.kind = 3 then (match r with | [a, b] => (match unR a, unR b with | some t, some p => some ⟨3, 0, t, p, o.keep⟩ | _, _ => none) | _ => none)
  else if o.kind < 3 then (match r with | [a, b] => (match numS a, unR b with | some n, some t => some ⟨o.kind, (n : Int), t, [], false⟩ | _, _ => none) | _ => none)
  else (match r with | [a] => (match numS a with | some n => some ⟨o.kind, (n : Int), [], [], false⟩ | none => none) | _ => none)
/-- A number that is read loosely, and told as it was read. -/
theorem loose {a : Str} {n : Int} (h0 : 0 ≤ n) (h1 : n ≤ 9999) (h : Lib.itoa n = a) : numS a = some n.toNat := by
  obtain ⟨m, rfl⟩ : ∃ m : Nat, n = (m : Int) := ⟨n.toNat, by omega⟩
  rw [itoa_nat] at h
  exact (num_iff a m).2 ⟨h, by omega⟩
theorem doc12 {k : Int} {hd a b s : Str} (hk : k = 1 ∨ k = 2) (hn : nameR (oK k false) = hd) (hs : s = hd ++ 32 :: (a ++ 32 :: b)) :
    (match fillR (oK k false) [a, b] with | none => (oK 0 false, (10 : Int)) | some z => if plainR z = true ∧ lineR z = s then (z, 0) else (oK 0 false, 10)) = match docF (oK k false) [a, b] with | some z => (z, 0) | none => (oK 0 false, 10) := by
  have k3 : ¬ k = 3 := by omega
  have k45 : ¬ (k = 4 ∨ k = 5) := by omega
  have hdoc : docF (oK k false) [a, b] = match numS a, unR b with | some n, some t => some ⟨k, (n : Int), t, [], false⟩ | _, _ => none := by unfold docF; rw [if_neg k3, if_pos (show k < 3 by omega)]
  have hline : ∀ (n : Int) (t : Str), lineR ⟨k, n, t, [], false⟩ = hd ++ 32 :: (Lib.itoa n ++ 32 :: wordR t) := fun n t => by
    unfold lineR wordsR; rw [if_neg k3, if_pos hk, join3]; rw [← hn]; rfl
  rw [hdoc]
  cases hb : unR b with
  | none =>
    have e1 : fillR (oK k false) [a, b] = none := by
      cases ha : Lib.atoiAll a with
      | ok n => rw [fill12 k3 k45 ha]; simp only [hb]
      | _ => exact fillE k3 (fun m h => by rw [ha] at h; cases h)
    rw [e1]; cases numS a <;> rfl
  | some t =>
    have hwb := word_unR hb
    cases hnum : numS a with
    | some n =>
      obtain ⟨h1, h2⟩ := of_num hnum
      have ha : Lib.atoiAll a = .ok (n : Int) := by rw [← h1]; exact atoi_dec h2
      rw [fill12 k3 k45 ha]; simp only [hb]
      rw [if_pos]
      refine ⟨(plain_iff _).2 (.inr (.inl ⟨hk, by simp, by simp; omega, rfl, rfl⟩)), ?_⟩
      rw [hline, hs, itoa_nat, h1, hwb]
    | none =>
      cases ha : Lib.atoiAll a with
      | ok n =>
        rw [fill12 k3 k45 ha]; simp only [hb]
        rw [if_neg]
        rintro ⟨h1, h2⟩
        have hp := (plain_iff _).1 h1
        have hr : 0 ≤ n ∧ n ≤ 9999 := by
          rcases hp with ⟨h, _⟩ | ⟨_, h, h3, _⟩ | ⟨h, _⟩
          · exact absurd h k3
          · exact ⟨h, h3⟩
          · exact absurd h k45
        rw [hline, hs, hwb] at h2
        have h3 := List.append_cancel_left h2
        simp only [List.cons.injEq, true_and] at h3
        have h4 := List.append_cancel_right h3
        rw [loose hr.1 hr.2 h4] at hnum; cases hnum
      | _ => rw [fillE k3 (fun m h => by rw [ha] at h; cases h)]
theorem doc45 {k : Int} {hd a s : Str} (hk : k = 4 ∨ k = 5) (hn : nameR (oK k false) = hd) (hs : s = hd ++ 32 :: a) :
    (match fillR (oK k false) [a] with | none => (oK 0 false, (10 : Int)) | some z => if plainR z = true ∧ lineR z = s then (z, 0) else (oK 0 false, 10)) = match docF (oK k false) [a] with | some z => (z, 0) | none => (oK 0 false, 10) := by
  have k3 : ¬ k = 3 := by omega
  have k12 : ¬ (k = 1 ∨ k = 2) := by omega
  have hdoc : docF (oK k false) [a] = match numS a with | some n => some ⟨k, (n : Int), [], [], false⟩ | none => none := by unfold docF; rw [if_neg k3, if_neg (show ¬ k < 3 by omega)]
  have hline : ∀ (n : Int), lineR ⟨k, n, [], [], false⟩ = hd ++ 32 :: Lib.itoa n := fun n => by
    unfold lineR wordsR; rw [if_neg k3, if_neg k12, join2]; rw [← hn]; rfl
  rw [hdoc]
  cases hnum : numS a with
  | some n =>
    obtain ⟨h1, h2⟩ := of_num hnum
    have ha : Lib.atoiAll a = .ok (n : Int) := by rw [← h1]; exact atoi_dec h2
    rw [fill45 k3 hk ha]; simp only
    rw [if_pos]
    refine ⟨(plain_iff _).2 (.inr (.inr ⟨hk, by simp, by simp; omega, rfl, rfl, rfl⟩)), ?_⟩
    rw [hline, hs, itoa_nat, h1]
  | none =>
    cases ha : Lib.atoiAll a with
    | ok n =>
      rw [fill45 k3 hk ha]; simp only
      rw [if_neg]
      rintro ⟨h1, h2⟩
      have hp := (plain_iff _).1 h1
      have hr : 0 ≤ n ∧ n ≤ 9999 := by
        rcases hp with ⟨h, _⟩ | ⟨h, _⟩ | ⟨_, h, h3, _⟩
        · exact absurd h k3
        · exact absurd h k12
        · exact ⟨h, h3⟩
      rw [hline, hs] at h2
      have h3 := List.append_cancel_left h2
      simp only [List.cons.injEq, true_and] at h3
      rw [loose hr.1 hr.2 h3] at hnum; cases hnum
    | _ => rw [fillE k3 (fun m h => by rw [ha] at h; cases h)]
theorem doc3 {kp : Bool} {hd a b s : Str} (hn : nameR (oK 3 kp) = hd) (hs : s = hd ++ 32 :: (a ++ 32 :: b)) :
    (match fillR (oK 3 kp) [a, b] with | none => (oK 0 false, (10 : Int)) | some z => if plainR z = true ∧ lineR z = s then (z, 0) else (oK 0 false, 10)) = match docF (oK 3 kp) [a, b] with | some z => (z, 0) | none => (oK 0 false, 10) := by
  have hdoc : docF (oK 3 kp) [a, b] = match unR a, unR b with | some t, some p => some ⟨3, 0, t, p, kp⟩ | _, _ => none := by unfold docF; rw [if_pos rfl]
  rw [hdoc, fill3]
  cases ha : unR a with
  | none => rfl
  | some t =>
    cases hb : unR b with
    | none => rfl
    | some p =>
      simp only
      rw [if_pos]
      refine ⟨(plain_iff _).2 (.inl ⟨rfl, rfl⟩), ?_⟩
      unfold lineR wordsR
      rw [if_pos rfl, join3, hs, ← hn, word_unR ha, word_unR hb]; rfl
theorem fill12w {k : Int} (hk : k = 1 ∨ k = 2) {r : List Str} (hr : ¬ r.length = 2) : fillR (oK k false) r = none := by
  have k3 : ¬ k = 3 := by omega
  cases r with
  | nil => exact fillN k3
  | cons a r =>
    cases ha : Lib.atoiAll a with
    | ok n => exact fill12n k3 (by omega) ha hr
    | _ => exact fillE k3 (fun m h => by rw [ha] at h; cases h)
theorem fill45w {k : Int} (hk : k = 4 ∨ k = 5) {r : List Str} (hr : ¬ r.length = 1) : fillR (oK k false) r = none := by
  have k3 : ¬ k = 3 := by omega
  cases r with
  | nil => exact fillN k3
  | cons a r =>
    cases ha : Lib.atoiAll a with
    | ok n =>
      rw [fill45 k3 hk ha]
      cases r with
      | nil => exact absurd rfl hr
      | cons b q => rfl
    | _ => exact fillE k3 (fun m h => by rw [ha] at h; cases h)
theorem docF12w {k : Int} (hk : k = 1 ∨ k = 2) {r : List Str} (hr : ¬ r.length = 2) : docF (oK k false) r = none := by
  unfold docF; rw [if_neg (show ¬ k = 3 by omega), if_pos (show k < 3 by omega)]
  match r, hr with
  | [], _ => rfl
  | [_], _ => rfl
  | [_, _], h => exact absurd rfl h
  | _ :: _ :: _ :: _, _ => rfl
theorem docF45w {k : Int} (hk : k = 4 ∨ k = 5) {r : List Str} (hr : ¬ r.length = 1) : docF (oK k false) r = none := by
  unfold docF; rw [if_neg (show ¬ k = 3 by omega), if_neg (show ¬ k < 3 by omega)]
  match r, hr with
  | [], _ => rfl
  | [_], h => exact absurd rfl h
  | _ :: _ :: _, _ => rfl
theorem docF3w {kp : Bool} {r : List Str} (hr : ¬ r.length = 2) : docF (oK 3 kp) r = none := by
  unfold docF; rw [if_pos (show (3 : Int) = 3 from rfl)]
  match r, hr with
  | [], _ => rfl
  | [_], _ => rfl
  | [_, _], h => exact absurd rfl h
  | _ :: _ :: _ :: _, _ => rfl
theorem parse_is {s h : Str} {r : List Str} {o : OpD} (hs : spl 32 s = h :: r) (hk : kindOf h = some o) : parseR s = match fillR o r with | none => (oK 0 false, (10 : Int)) | some z => if plainR z = true ∧ lineR z = s then (z, 0) else (oK 0 false, 10) := by
  unfold parseR; rw [hs]; simp only [hk] <;> cases fillR o r <;> rfl
theorem one_list {r : List Str} (h : r.length = 1) : ∃ a, r = [a] := match r, h with | [a], _ => ⟨a, rfl⟩
theorem parse_doc {s h : Str} {r : List Str} {o : OpD} (hs : spl 32 s = h :: r) (hk : kindOf h = some o) : parseR s = match docF o r with | some z => (z, 0) | none => (oK 0 false, 10) := by
  have hj := line_spl s
  rw [hs] at hj
  rw [parse_is hs hk]
  have p12 : ∀ (k : Int) (hd : Str), k = 1 ∨ k = 2 → nameR (oK k false) = hd → Lib.join (hd :: r) [32] = s → (match fillR (oK k false) r with | none => (oK 0 false, (10 : Int)) | some z => if plainR z = true ∧ lineR z = s then (z, 0) else (oK 0 false, 10)) = match docF (oK k false) r with | some z => (z, 0) | none => (oK 0 false, 10) := by
    intro k hd h1 h2 h3
    by_cases hl : r.length = 2
    · obtain ⟨a, b, rfl⟩ := two_of hl
      rw [join3] at h3
      exact doc12 h1 h2 h3.symm
    · rw [fill12w h1 hl, docF12w h1 hl]
  have p45 : ∀ (k : Int) (hd : Str), k = 4 ∨ k = 5 → nameR (oK k false) = hd → Lib.join (hd :: r) [32] = s → (match fillR (oK k false) r with | none => (oK 0 false, (10 : Int)) | some z => if plainR z = true ∧ lineR z = s then (z, 0) else (oK 0 false, 10)) = match docF (oK k false) r with | some z => (z, 0) | none => (oK 0 false, 10) := by
    intro k hd h1 h2 h3
    by_cases hl : r.length = 1
    · obtain ⟨a, rfl⟩ := one_list hl
      rw [join2] at h3
      exact doc45 h1 h2 h3.symm
    · rw [fill45w h1 hl, docF45w h1 hl]
  have p3 : ∀ (kp : Bool) (hd : Str), nameR (oK 3 kp) = hd → Lib.join (hd :: r) [32] = s → (match fillR (oK 3 kp) r with | none => (oK 0 false, (10 : Int)) | some z => if plainR z = true ∧ lineR z = s then (z, 0) else (oK 0 false, 10)) = match docF (oK 3 kp) r with | some z => (z, 0) | none => (oK 0 false, 10) := by
    intro kp hd h2 h3
    by_cases hl : r.length = 2
    · obtain ⟨a, b, rfl⟩ := two_of hl
      rw [join3] at h3
      exact doc3 h2 h3.symm
    · rw [fill3n _ _ _ _ hl, docF3w hl]
  rcases kind_cases hk with ⟨rfl, rfl⟩ | ⟨rfl, rfl⟩ | ⟨rfl, rfl⟩ | ⟨rfl, rfl⟩ | ⟨rfl, rfl⟩ | ⟨rfl, rfl⟩
  · exact p12 1 _ (.inl rfl) rfl hj
  · exact p12 2 _ (.inr rfl) rfl hj
  · exact p3 false _ rfl hj
  · exact p3 true _ rfl hj
  · exact p45 4 _ (.inl rfl) rfl hj
  · exact p45 5 _ (.inr rfl) rfl hj
end Go.Proofs.YthcclgoidchkdaaGreatDoorC

/- The operation of a line: the document's. -/
set_option linter.unusedVariables false
set_option linter.unusedSimpArgs false
set_option maxRecDepth 100000
namespace Go.Proofs.YthcclgoidchkdaaGreatDoorC
open Go.RowKit
theorem docF3 {kb : Bool} {a b : Str} : docF (oK 3 kb) [a, b] = match unR a, unR b with | some t, some p => some ⟨3, 0, t, p, kb⟩ | _, _ => none := by unfold docF; rw [if_pos (show (3 : Int) = 3 from rfl)] <;> cases ha : unR a <;> cases hb : unR b <;> simp only [ha, hb]
theorem docF12 {k : Int} (hk : k = 1 ∨ k = 2) {a b : Str} : docF (oK k false) [a, b] = match numS a, unR b with | some n, some t => some ⟨k, (n : Int), t, [], false⟩ | _, _ => none := by unfold docF; rw [if_neg (show ¬ k = 3 by omega), if_pos (show k < 3 by omega)] <;> cases ha : numS a <;> cases hb : unR b <;> simp only [ha, hb]
theorem docF45 {k : Int} (hk : k = 4 ∨ k = 5) {a : Str} : docF (oK k false) [a] = match numS a with | some n => some ⟨k, (n : Int), [], [], false⟩ | none => none := by unfold docF; rw [if_neg (show ¬ k = 3 by omega), if_neg (show ¬ k < 3 by omega)] <;> cases ha : numS a <;> simp only [ha]
end Go.Proofs.YthcclgoidchkdaaGreatDoorC

/- A plain operation is read from its line again; plain. -/
set_option linter.unusedVariables false
set_option linter.unusedSimpArgs false
namespace Go.Proofs.YthcclgoidchkdaaGreatDoorC
open Go.RowKit
theorem spl_word {a s : Str} (h : ¬ (32 : UInt8) ∈ a) : spl 32 (a ++ 32 :: s) = a :: spl 32 s := by
  induction a with
  | nil => exact spl_eq 32 s
  | cons c a ih =>
    simp only [List.mem_cons, not_or] at h
    rw [List.cons_append, spl_neq (fun e => h.1 e.symm) (ih h.2)]
theorem spl_join : ∀ (l : List Str), l ≠ [] → (∀ a ∈ l, ¬ (32 : UInt8) ∈ a) → spl 32 (Lib.join l [32]) = l
  | [], h, _ => absurd rfl h
  | [a], _, h => by rw [Lib.join_one]; exact spl_not (h a (by simp))
  | a :: b :: l, _, h => by
    rw [join_cons2, spl_word (h a (by simp)), spl_join (b :: l) (by simp) (fun x hx => h x (List.mem_cons_of_mem _ hx))]
theorem hexd_nb {n : Nat} (h : n < 16) : hexd n ≠ 32 := by
  have : ∀ n : Fin 16, hexd n.val ≠ 32 := by decide +kernel
  exact this ⟨n, h⟩
theorem wordL_nb : ∀ s : Str, ¬ (32 : UInt8) ∈ wordL s
  | [] => by simp [wordL]
  | c :: s => by
    have ih := wordL_nb s
    unfold wordL wordB
    rw [List.mem_append]
    rintro (h | h)
    · split at h
      · rename_i hp
        simp only [List.mem_cons, List.not_mem_nil, or_false] at h
        subst h; revert hp; decide
      · simp only [List.mem_cons, List.not_mem_nil, or_false] at h
        rcases h with h | h | h
        · revert h; decide
        · exact hexd_nb (by have := c.toNat_lt; omega) h.symm
        · exact hexd_nb (Nat.mod_lt _ (by decide)) h.symm
    · exact ih h
theorem wordR_nb (s : Str) : ¬ (32 : UInt8) ∈ wordR s := by
  unfold wordR; split
  · decide
  · exact wordL_nb s
theorem dec_nb (n : Nat) : ¬ (32 : UInt8) ∈ Lib.decDigits n := fun h => dec_noblank n 32 h rfl
theorem itoa_nb {n : Int} (h : 0 ≤ n) : ¬ (32 : UInt8) ∈ Lib.itoa n := by rw [itoa_sub h]; exact dec_nb _
theorem name_nb (x : OpD) : ¬ (32 : UInt8) ∈ nameR x := by unfold nameR; (repeat' split) <;> decide
theorem kind_name {x : OpD} (h : plainR x = true) : kindOf (nameR x) = some (oK x.kind x.keep) := by
  have hp := (plain_iff x).1 h
  obtain ⟨k, s, t, p, b⟩ := x
  rcases hp with ⟨h1, _⟩ | ⟨h1, _, _, _, h2⟩ | ⟨h1, _, _, _, _, h2⟩ <;> simp only at h1
  · subst h1; cases b <;> rfl
  · simp only at h2; subst h2; rcases h1 with rfl | rfl <;> rfl
  · simp only at h2; subst h2; rcases h1 with rfl | rfl <;> rfl
theorem parse_line {x : OpD} (h : plainR x = true) : parseR (lineR x) = (x, 0) := by
  have hp := (plain_iff x).1 h
  have hk := kind_name h
  have hn := name_nb x
  have hsub : 0 ≤ x.sub ∧ x.sub ≤ 9999 := by rcases hp with ⟨_, h⟩ | ⟨_, h, h2, _⟩ | ⟨_, h, h2, _⟩; omega; exact ⟨h, h2⟩; exact ⟨h, h2⟩
  have hi := itoa_nb hsub.1
  have hnum : numS (Lib.itoa x.sub) = some x.sub.toNat := by rw [itoa_sub hsub.1]; exact num_dec (by omega)
  have hw : ∀ a ∈ wordsR x, ¬ (32 : UInt8) ∈ a := by
    intro a ha
    unfold wordsR at ha
    split at ha
    · simp only [List.mem_cons, List.not_mem_nil, or_false] at ha
      rcases ha with rfl | rfl | rfl; exact hn; exact wordR_nb _; exact wordR_nb _
    · split at ha
      · simp only [List.mem_cons, List.not_mem_nil, or_false] at ha
        rcases ha with rfl | rfl | rfl; exact hn; exact hi; exact wordR_nb _
      · simp only [List.mem_cons, List.not_mem_nil, or_false] at ha
        rcases ha with rfl | rfl; exact hn; exact hi
  have hne : wordsR x ≠ [] := by unfold wordsR; (repeat' split) <;> simp
  have hs := spl_join _ hne hw
  change spl 32 (lineR x) = _ at hs
  have hnn : (x.sub.toNat : Int) = x.sub := Int.toNat_of_nonneg hsub.1
  obtain ⟨k, s, t, p, b⟩ := x
  simp only at hp hk hn hsub hi hnum hnn
  rcases hp with ⟨h1, h0⟩ | ⟨h1, _, _, h3, h2⟩ | ⟨h1, _, _, h4, h3, h2⟩
  · replace h1 : k = 3 := h1; replace h0 : s = 0 := h0; subst h1; subst h0
    rw [show wordsR ⟨3, 0, t, p, b⟩ = [nameR ⟨3, 0, t, p, b⟩, wordR t, wordR p] from if_pos rfl] at hs
    rw [parse_doc hs hk, docF3, unR_word, unR_word]
  · replace h1 : k = 1 ∨ k = 2 := h1; replace h3 : p = [] := h3; replace h2 : b = false := h2; subst h3; subst h2
    rw [show wordsR ⟨k, s, t, [], false⟩ = [nameR ⟨k, s, t, [], false⟩, Lib.itoa s, wordR t] from by unfold wordsR; rw [if_neg (show ¬ k = 3 by omega), if_pos h1]] at hs
    rw [parse_doc hs hk, docF12 h1, hnum, unR_word]; simp only [hnn]
  · replace h1 : k = 4 ∨ k = 5 := h1; replace h4 : t = [] := h4; replace h3 : p = [] := h3; replace h2 : b = false := h2; subst h4; subst h3; subst h2
    rw [show wordsR ⟨k, s, [], [], false⟩ = [nameR ⟨k, s, [], [], false⟩, Lib.itoa s] from by unfold wordsR; rw [if_neg (show ¬ k = 3 by omega), if_neg (show ¬ (k = 1 ∨ k = 2) by omega)]] at hs
    rw [parse_doc hs hk, docF45 h1, hnum]; simp only [hnn]
theorem lineR_len {x : OpD} (h : plainR x = true) : (lineR x).length ≤ 3 * x.text.length + 3 * x.payload.length + 20 := by
  have hp := (plain_iff x).1 h
  have h1 := wordR_len x.text; have h2 := wordR_len x.payload; have h3 := name_len x
  have hsub : 0 ≤ x.sub ∧ x.sub ≤ 9999 := by rcases hp with ⟨_, h⟩ | ⟨_, h, h2, _⟩ | ⟨_, h, h2, _⟩; omega; exact ⟨h, h2⟩; exact ⟨h, h2⟩
  have h4 : (Lib.itoa x.sub).length ≤ 4 := by rw [itoa_sub hsub.1]; exact dec_len (by omega)
  unfold lineR wordsR
  split
  · rw [join3]; simp only [List.length_append, List.length_cons]; omega
  · split
    · rw [join3]; simp only [List.length_append, List.length_cons]; omega
    · rw [join2]; simp only [List.length_append, List.length_cons]; omega
end Go.Proofs.YthcclgoidchkdaaGreatDoorC

/- Layer 19: the laws. -/
set_option linter.unusedVariables false
set_option linter.unusedSimpArgs false
set_option maxRecDepth 100000
namespace Go.Proofs.YthcclgoidchkdaaGreatDoorC
open Go.RowKit
end Go.Proofs.YthcclgoidchkdaaGreatDoorC

/- Layer 19: OpLines. -/
set_option linter.unusedVariables false
set_option linter.unusedSimpArgs false
set_option maxRecDepth 100000
namespace Go.Proofs.YthcclgoidchkdaaGreatDoorC
open Go.RowKit
end Go.Proofs.YthcclgoidchkdaaGreatDoorC
