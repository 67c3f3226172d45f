/- Answers read from texts: the document's. -/
import Derived.Test.YthcclgoidchkdaaDoorBunV9
set_option linter.unusedVariables false
set_option linter.unusedSimpArgs false
set_option maxRecDepth 100000
namespace Go.Proofs.YthcclgoidchkdaaDoorC
open Go.RowKit
def numV (ng : Bool) (v : Str) : Option Int :=
  if ng = true then (if v = [48] then none else match natM v with | some n => if n ≤ 1000000 then some (-(n : Int)) else none | none => none)
  else match natM v with | some n => if n ≤ 1000000 then some (n : Int) else none | none => none
theorem num_neg {s : Str} (h : s[0]? = some 45) : numM s = numV true (s.drop 1) := by unfold numM numV; rw [if_pos h, if_pos rfl] <;> rfl
theorem num_pos {s : Str} (h : ¬ s[0]? = some 45) : numM s = numV false s := by unfold numM numV; rw [if_neg h, if_neg (by decide)] <;> rfl
theorem numV_none {ng : Bool} {v : Str} (h : natM v = none) : numV ng v = none := by unfold numV; rw [h]; split; split <;> rfl; rfl
theorem numV_48 {ng : Bool} {v : Str} (h : ng = true) (h2 : v = [48]) : numV ng v = none := by unfold numV; rw [if_pos h, if_pos h2]
theorem numV_big {ng : Bool} {v : Str} {n : Nat} (h : natM v = some n) (h2 : ¬ n ≤ 1000000) : numV ng v = none := by
  unfold numV; rw [h]; simp only [if_neg h2]
  split
  · split <;> rfl
  · rfl
theorem numV_t {v : Str} {n : Nat} (h : natM v = some n) (h2 : n ≤ 1000000) (h3 : ¬ v = [48]) : numV true v = some (-(n : Int)) := by
  unfold numV; rw [h, if_pos rfl, if_neg h3]; exact if_pos h2
theorem numV_f {v : Str} {n : Nat} (h : natM v = some n) (h2 : n ≤ 1000000) : numV false v = some (n : Int) := by
  unfold numV; rw [h, if_neg (by decide)]; exact if_pos h2
theorem docE_eq (b : Str) : docT [sErr, b] = match numM b with | some n => if 0 < n ∧ n ≤ 12 then some ⟨n, 0, 0, mZ⟩ else none | none => none := by
  show (if sErr = sErr then (match numM b with | some n => if 0 < n ∧ n ≤ 12 then some (⟨n, 0, 0, mZ⟩ : AnsD) else none | none => none) else none) = _
  rw [if_pos rfl]
theorem docE {b : Str} (h : (numM b).isSome = true) : docT [sErr, b] = if 0 < (numM b).getD 0 ∧ (numM b).getD 0 ≤ 12 then some ⟨(numM b).getD 0, 0, 0, mZ⟩ else none := by
  obtain ⟨n, hn⟩ := Option.isSome_iff_exists.1 h
  rw [docE_eq, hn]; rfl
theorem isNone_of {α : Type} {x : Option α} (h : x.isSome = false) : x = none := by cases x with | none => rfl | some _ => cases h
theorem docE0 {b : Str} (h : (numM b).isSome = false) : docT [sErr, b] = none := by rw [docE_eq, isNone_of h]
theorem doc3_eq (x y : Str) : docT [sOk, x, y] = match numM x, numM y with | some m, some n => some ⟨0, m, n, mZ⟩ | _, _ => none := by
  show (if sOk = sOk then (match numM x, numM y with | some m, some n => some (⟨0, m, n, mZ⟩ : AnsD) | _, _ => none) else none) = _
  rw [if_pos rfl]
theorem doc3y {x y : Str} (hx : (numM x).isSome = true) (hy : (numM y).isSome = true) : docT [sOk, x, y] = some ⟨0, (numM x).getD 0, (numM y).getD 0, mZ⟩ := by
  obtain ⟨m, hx⟩ := Option.isSome_iff_exists.1 hx
  obtain ⟨n, hy⟩ := Option.isSome_iff_exists.1 hy
  rw [doc3_eq, hx, hy]; rfl
theorem doc3n {x y : Str} (h : (numM x).isSome = false ∨ (numM y).isSome = false) : docT [sOk, x, y] = none := by
  rw [doc3_eq]
  rcases h with h | h
  · rw [isNone_of h]
  · rw [isNone_of h]; cases numM x <;> rfl
theorem doc6_eq (x y t p k : Str) : docT [sOk, x, y, t, p, k] = match numM x, numM y with | some m, some n => (match unR t, unR p with | some tt, some pp => if (k = sKept ∨ k = sNew) ∧ ¬ (tt = [] ∧ pp = [] ∧ k = sNew) then some ⟨0, m, n, ⟨tt, pp, decide (k = sKept)⟩⟩ else none | _, _ => none) | _, _ => none := by
  show (if sOk = sOk then (match numM x, numM y with | some m, some n => (match unR t, unR p with | some tt, some pp => if (k = sKept ∨ k = sNew) ∧ ¬ (tt = [] ∧ pp = [] ∧ k = sNew) then some (⟨0, m, n, ⟨tt, pp, decide (k = sKept)⟩⟩ : AnsD) else none | _, _ => none) | _, _ => none) else none) = _
  rw [if_pos rfl]
theorem doc6n {x y t p k : Str} (h : (numM x).isSome = false ∨ (numM y).isSome = false ∨ (unR t).isSome = false ∨ (unR p).isSome = false) : docT [sOk, x, y, t, p, k] = none := by
  rw [doc6_eq]
  rcases h with h | h | h | h
  · rw [isNone_of h]
  · rw [isNone_of h]; cases numM x <;> rfl
  · rw [isNone_of h]; cases numM x <;> cases numM y <;> rfl
  · rw [isNone_of h]; cases numM x <;> cases numM y <;> cases unR t <;> rfl
abbrev C6 (t p k : Str) : Prop := (k = sKept ∨ k = sNew) ∧ ¬ ((unR t).getD [] = [] ∧ (unR p).getD [] = [] ∧ k = sNew)
theorem doc6c {x y t p k : Str} (hc : ¬ C6 t p k) : docT [sOk, x, y, t, p, k] = none := by
  rw [doc6_eq]
  cases hx : numM x with
  | none => rfl
  | some m =>
    cases hy : numM y with
    | none => rfl
    | some n =>
      cases ht : unR t with
      | none => rfl
      | some tt =>
        cases hp : unR p with
        | none => rfl
        | some pp =>
          simp only
          unfold C6 at hc
          rw [ht, hp] at hc
          exact if_neg hc
theorem doc6y {x y t p k : Str} (hx : (numM x).isSome = true) (hy : (numM y).isSome = true) (ht : (unR t).isSome = true) (hp : (unR p).isSome = true) (hc : C6 t p k) : docT [sOk, x, y, t, p, k] = some ⟨0, (numM x).getD 0, (numM y).getD 0, ⟨(unR t).getD [], (unR p).getD [], decide (k = sKept)⟩⟩ := by
  obtain ⟨m, hx⟩ := Option.isSome_iff_exists.1 hx
  obtain ⟨n, hy⟩ := Option.isSome_iff_exists.1 hy
  obtain ⟨tt, ht⟩ := Option.isSome_iff_exists.1 ht
  obtain ⟨pp, hp⟩ := Option.isSome_iff_exists.1 hp
  unfold C6 at hc
  rw [ht, hp] at hc
  rw [doc6_eq, hx, hy, ht, hp]
  exact if_pos hc
theorem kn_ne {k : Str} (h : k = sKept) (h2 : k = sNew) : False := by rw [h] at h2; exact absurd h2 (by decide)
-- bellman/bellmanref27.num
set_option maxHeartbeats 3200000 in
theorem rnumM_ok (w : World) (s : Str) (hn : s.length ≤ 4000) : Fn Tryd.prog 104 #[Sv s] w fun u w' => u = .tuple #[.int .i64 ((numM s).getD 0), .bool (numM s).isSome] := by
  have hX := Ext.refl Non w
  refine fn_of_W (args := [_]) Tryd.func104 rfl (by kernel_rfl) rfl ?_
  refine W_seq ?_
  refine W_region ?_
  refine wl_val (rn_assign (by conv => lhs; whnf)) ?_
  refine wl_val (rn_assign (by conv => lhs; whnf)) ?_
  refine wl_nil ?_
  refine W_seq ?_
  refine W_region ?_
  refine wl_val (rn_move (by conv => lhs; whnf)) ?_
  refine wl_val (rn_slen us_9 rfl) ?_
  refine wl_val (rn_gtr rfl rfl) ?_
  refine wl_val (rn_move (by conv => lhs; whnf)) ?_
  refine wl_split (d := 10) rfl (fun hg10 => ?_) (fun hg10 => ?_)
  · have q0 := of_decide_eq_true hg10
    obtain ⟨z, hz⟩ : ∃ z, s[0]? = some z := ⟨_, List.getElem?_eq_getElem (by omega)⟩
    refine wl_yes rfl (congrArg Value.bool hg10) ?_
    refine wl_val (rn_move (by conv => lhs; whnf)) ?_
    refine wl_yes rfl (congrArg Value.bool hg10) ?_
    refine wl_val (rn_sindex us_9 rfl rfl (by omega) hz) ?_
    refine wl_yes rfl (congrArg Value.bool hg10) ?_
    refine wl_val (rn_eql rfl rfl) ?_
    refine wl_val (rn_pickT (congrArg Value.bool hg10) (by conv => lhs; whnf)) ?_
    refine wl_val (rn_assign (by conv => lhs; whnf)) ?_
    refine wl_nil ?_
    refine W_cut (T := Bool × Str) [0, 4] (fun ⟨ng, v⟩ => [Sv v, .bool ng]) (fun ⟨ng, v⟩ A => (Ext Non w A) ∧ (numM s = numV ng v ∧ v.length ≤ 4000)) ?_ ?_
    · refine W_seq ?_
      refine W_region ?_
      refine wl_val (rn_move (by conv => lhs; whnf)) ?_
      refine wl_nil ?_
      refine W_cond rfl (fun hc0 => ?_) (fun hc0 => ?_)
      · have hz45 := u8_eq (d := 45) (of_decide_eq_true hc0)
        refine W_region ?_
        refine wl_val (rn_move (by conv => lhs; whnf)) ?_
        refine wl_val (Rn.cast (rn_sslice us_9 (l := 1) (h := s.length) rfl ⟨_, rfl⟩ rfl (by omega) (by omega)) (v' := Sv (s.drop 1)) (congrArg Sv (List.take_of_length_le (by rw [List.length_drop]; exact Nat.le_refl _)))) ?_
        refine wl_val (rn_assign (by conv => lhs; whnf)) ?_
        refine wl_nil ?_
        exact ⟨rfl, (true, s.drop 1), ⟨rfl, (congrArg Value.bool hc0), trivial⟩, ⟨hX, ⟨num_neg (by rw [hz, hz45]), by rw [List.length_drop]; omega⟩⟩⟩
      · have hz45 : ¬ z = 45 := fun h => of_decide_eq_false hc0 (by rw [h]; rfl)
        refine W_skip ?_
        exact ⟨rfl, (false, s), ⟨rfl, (congrArg Value.bool hc0), trivial⟩, ⟨hX, ⟨num_pos (by rw [hz]; intro h; simp only [Option.some.injEq] at h; exact hz45 h), hn⟩⟩⟩
    · rintro τ1015 ⟨ng, v⟩ C115 ⟨hX, hI⟩
      obtain ⟨hnum, hvl⟩ := hI
      refine W_seq ?_
      refine W_seq ?_
      refine W_region ?_
      refine wl_val (rn_move (by conv => lhs; whnf)) ?_
      refine wl_val (rn_slen us_9 rfl) ?_
      refine wl_val (rn_lss rfl rfl) ?_
      refine wl_val (rn_move (by conv => lhs; whnf)) ?_
      refine wl_split (d := 21) rfl (fun hg21 => ?_) (fun hg21 => ?_)
      · have q1 := of_decide_eq_true hg21
        have hno : natM v = none := if_pos (.inl (by omega))
        refine wl_no rfl (congrArg Value.bool hg21) ?_
        refine wl_no rfl (congrArg Value.bool hg21) ?_
        refine wl_no rfl (congrArg Value.bool hg21) ?_
        refine wl_val (rn_pickT (congrArg Value.bool hg21) (by conv => lhs; whnf)) ?_
        refine wl_val (rn_move (by conv => lhs; whnf)) ?_
        refine wl_no rfl rfl ?_
        refine wl_no rfl rfl ?_
        refine wl_no rfl rfl ?_
        refine wl_no rfl rfl ?_
        refine wl_nou rfl rfl ?_
        refine wl_nou rfl rfl ?_
        refine wl_nou rfl rfl ?_
        refine wl_no rfl rfl ?_
        refine wl_val (rn_pickT rfl (by conv => lhs; whnf)) ?_
        refine wl_val (rn_move (by conv => lhs; whnf)) ?_
        refine wl_no rfl rfl ?_
        refine wl_no rfl rfl ?_
        refine wl_nou rfl rfl ?_
        refine wl_nou rfl rfl ?_
        refine wl_no rfl rfl ?_
        refine wl_val (rn_pickT rfl (by conv => lhs; whnf)) ?_
        refine wl_nil ?_
        refine W_condT rfl ?_
        refine W_seq ?_
        refine W_region ?_
        refine wl_val (rn_assign (by conv => lhs; whnf)) ?_
        refine wl_val (rn_assign (by conv => lhs; whnf)) ?_
        refine wl_nil ?_
        refine W_ret ?_
        first | exact ⟨_, resR2 (res1_tmp rfl) (res1_tmp rfl), hX, by rw [hnum, numV_none hno]; rfl⟩ | exact ⟨_, resR2 (res1_tmp rfl) (res1_tmp rfl), hX, by rw [hnum, numV_48 hngT (of_decide_eq_true hc1)]; rfl⟩ | exact ⟨_, resR2 (res1_tmp rfl) (res1_tmp rfl), hX, by rw [hnum, numV_big hres hbig]; rfl⟩ | exact ⟨_, resR2 (res1_tmp rfl) (res1_tmp rfl), hX, by rw [hnum, numV_t hres hsm (h48 rfl)]; rfl⟩ | exact ⟨_, resR2 (res1_tmp rfl) (res1_tmp rfl), hX, by rw [hnum, numV_f hres hsm]; rfl⟩
      · have q1 := of_decide_eq_false hg21
        refine wl_yes rfl (congrArg Value.bool hg21) ?_
        refine wl_val (rn_move (by conv => lhs; whnf)) ?_
        refine wl_yes rfl (congrArg Value.bool hg21) ?_
        refine wl_val (rn_slen us_9 rfl) ?_
        refine wl_yes rfl (congrArg Value.bool hg21) ?_
        refine wl_val (rn_gtr rfl rfl) ?_
        refine wl_val (rn_pickF (congrArg Value.bool hg21) (by conv => lhs; whnf)) ?_
        refine wl_val (rn_move (by conv => lhs; whnf)) ?_
        refine wl_split (d := 26) rfl (fun hg26 => ?_) (fun hg26 => ?_)
        · have q2 := of_decide_eq_true hg26
          have hno : natM v = none := if_pos (.inr (.inl (by omega)))
          refine wl_no rfl (congrArg Value.bool hg26) ?_
          refine wl_no rfl (congrArg Value.bool hg26) ?_
          refine wl_no rfl (congrArg Value.bool hg26) ?_
          refine wl_no rfl (congrArg Value.bool hg26) ?_
          refine wl_nou rfl rfl ?_
          refine wl_nou rfl rfl ?_
          refine wl_nou rfl rfl ?_
          refine wl_no rfl (congrArg Value.bool hg26) ?_
          refine wl_val (rn_pickT (congrArg Value.bool hg26) (by conv => lhs; whnf)) ?_
          refine wl_val (rn_move (by conv => lhs; whnf)) ?_
          refine wl_no rfl rfl ?_
          refine wl_no rfl rfl ?_
          refine wl_nou rfl rfl ?_
          refine wl_nou rfl rfl ?_
          refine wl_no rfl rfl ?_
          refine wl_val (rn_pickT rfl (by conv => lhs; whnf)) ?_
          refine wl_nil ?_
          refine W_condT rfl ?_
          refine W_seq ?_
          refine W_region ?_
          refine wl_val (rn_assign (by conv => lhs; whnf)) ?_
          refine wl_val (rn_assign (by conv => lhs; whnf)) ?_
          refine wl_nil ?_
          refine W_ret ?_
          first | exact ⟨_, resR2 (res1_tmp rfl) (res1_tmp rfl), hX, by rw [hnum, numV_none hno]; rfl⟩ | exact ⟨_, resR2 (res1_tmp rfl) (res1_tmp rfl), hX, by rw [hnum, numV_48 hngT (of_decide_eq_true hc1)]; rfl⟩ | exact ⟨_, resR2 (res1_tmp rfl) (res1_tmp rfl), hX, by rw [hnum, numV_big hres hbig]; rfl⟩ | exact ⟨_, resR2 (res1_tmp rfl) (res1_tmp rfl), hX, by rw [hnum, numV_t hres hsm (h48 rfl)]; rfl⟩ | exact ⟨_, resR2 (res1_tmp rfl) (res1_tmp rfl), hX, by rw [hnum, numV_f hres hsm]; rfl⟩
        · have q2 := of_decide_eq_false hg26
          refine wl_yes rfl (congrArg Value.bool hg26) ?_
          refine wl_val (rn_move (by conv => lhs; whnf)) ?_
          refine wl_yes rfl (congrArg Value.bool hg26) ?_
          refine wl_val (rn_slen us_9 rfl) ?_
          refine wl_yes rfl (congrArg Value.bool hg26) ?_
          refine wl_val (rn_gtr rfl rfl) ?_
          refine wl_yes rfl (congrArg Value.bool hg26) ?_
          refine wl_val (rn_move (by conv => lhs; whnf)) ?_
          refine wl_split (d := 30) rfl (fun hg30 => ?_) (fun hg30 => ?_)
          · have q3 := of_decide_eq_true hg30
            obtain ⟨z0, hz0⟩ : ∃ z, v[0]? = some z := ⟨_, List.getElem?_eq_getElem (by omega)⟩
            refine wl_yes rfl (congrArg Value.bool hg30) ?_
            refine wl_val (rn_move (by conv => lhs; whnf)) ?_
            refine wl_yes rfl (congrArg Value.bool hg30) ?_
            refine wl_val (rn_sindex us_9 rfl rfl (by omega) hz0) ?_
            refine wl_yes rfl (congrArg Value.bool hg30) ?_
            refine wl_val (rn_eql rfl rfl) ?_
            refine wl_yes rfl (congrArg Value.bool hg26) ?_
            refine wl_val (rn_pickT (congrArg Value.bool hg30) (by conv => lhs; whnf)) ?_
            refine wl_val (rn_pickF (congrArg Value.bool hg26) (by conv => lhs; whnf)) ?_
            refine wl_val (rn_move (by conv => lhs; whnf)) ?_
            refine wl_split (d := 36) rfl (fun hg36 => ?_) (fun hg36 => ?_)
            · have q4 := u8_eq (d := 48) (of_decide_eq_true hg36)
              have hno : natM v = none := if_pos (.inr (.inr ⟨by omega, by rw [hz0, q4]⟩))
              refine wl_no rfl (congrArg Value.bool hg36) ?_
              refine wl_no rfl (congrArg Value.bool hg36) ?_
              refine wl_nou rfl rfl ?_
              refine wl_nou rfl rfl ?_
              refine wl_no rfl (congrArg Value.bool hg36) ?_
              refine wl_val (rn_pickT (congrArg Value.bool hg36) (by conv => lhs; whnf)) ?_
              refine wl_nil ?_
              refine W_condT rfl ?_
              refine W_seq ?_
              refine W_region ?_
              refine wl_val (rn_assign (by conv => lhs; whnf)) ?_
              refine wl_val (rn_assign (by conv => lhs; whnf)) ?_
              refine wl_nil ?_
              refine W_ret ?_
              first | exact ⟨_, resR2 (res1_tmp rfl) (res1_tmp rfl), hX, by rw [hnum, numV_none hno]; rfl⟩ | exact ⟨_, resR2 (res1_tmp rfl) (res1_tmp rfl), hX, by rw [hnum, numV_48 hngT (of_decide_eq_true hc1)]; rfl⟩ | exact ⟨_, resR2 (res1_tmp rfl) (res1_tmp rfl), hX, by rw [hnum, numV_big hres hbig]; rfl⟩ | exact ⟨_, resR2 (res1_tmp rfl) (res1_tmp rfl), hX, by rw [hnum, numV_t hres hsm (h48 rfl)]; rfl⟩ | exact ⟨_, resR2 (res1_tmp rfl) (res1_tmp rfl), hX, by rw [hnum, numV_f hres hsm]; rfl⟩
            · have q4 := of_decide_eq_false hg36
              have hval : natM v = Lib.decFrom 0 v := if_neg (by rintro (h | h | ⟨h, h2⟩); omega; omega; rw [hz0] at h2; simp only [Option.some.injEq] at h2; exact q4 (by rw [h2]; rfl))
              refine wl_yes rfl (congrArg Value.bool hg36) ?_
              refine wl_val (rn_move (by conv => lhs; whnf)) ?_
              refine wl_yes rfl (congrArg Value.bool hg36) ?_
              refine wl_val (rn_move (by conv => lhs; whnf)) ?_
              refine wl_split (d := 38) rfl (fun hg38 => ?_) (fun hg38 => ?_)
              · have hngT : ng = true := hg38
                refine wl_yes rfl (congrArg Value.bool hg38) ?_
                refine wl_val (rn_move (by conv => lhs; whnf)) ?_
                refine wl_yes rfl (congrArg Value.bool hg38) ?_
                refine wl_val (rn_seql rfl rfl) ?_
                refine wl_yes rfl (congrArg Value.bool hg36) ?_
                refine wl_val (rn_pickT (congrArg Value.bool hg38) (by conv => lhs; whnf)) ?_
                refine wl_val (rn_pickF (congrArg Value.bool hg36) (by conv => lhs; whnf)) ?_
                refine wl_nil ?_
                refine W_cond rfl (fun hc1 => ?_) (fun hc1 => ?_)
                · refine W_seq ?_
                  refine W_region ?_
                  refine wl_val (rn_assign (by conv => lhs; whnf)) ?_
                  refine wl_val (rn_assign (by conv => lhs; whnf)) ?_
                  refine wl_nil ?_
                  refine W_ret ?_
                  first | exact ⟨_, resR2 (res1_tmp rfl) (res1_tmp rfl), hX, by rw [hnum, numV_none hno]; rfl⟩ | exact ⟨_, resR2 (res1_tmp rfl) (res1_tmp rfl), hX, by rw [hnum, numV_48 hngT (of_decide_eq_true hc1)]; rfl⟩ | exact ⟨_, resR2 (res1_tmp rfl) (res1_tmp rfl), hX, by rw [hnum, numV_big hres hbig]; rfl⟩ | exact ⟨_, resR2 (res1_tmp rfl) (res1_tmp rfl), hX, by rw [hnum, numV_t hres hsm (h48 rfl)]; rfl⟩ | exact ⟨_, resR2 (res1_tmp rfl) (res1_tmp rfl), hX, by rw [hnum, numV_f hres hsm]; rfl⟩
                · have h48 : ng = true → ¬ v = [48] := fun _ => of_decide_eq_false hc1
                  refine W_skip ?_
                  refine W_seq ?_
                  refine W_region ?_
                  refine wl_val (rn_assign (by conv => lhs; whnf)) ?_
                  refine wl_nil ?_
                  refine W_seq ?_
                  refine W_seq ?_
                  refine W_region ?_
                  refine wl_val (rn_assign (by conv => lhs; whnf)) ?_
                  refine wl_nil ?_
                  refine W_block ?_   -- block 0
                  refine W_loopS (S := Nat × Nat) [0, 4, 5, 6] (fun ⟨i, n⟩ => [Sv v, .bool ng, .int .i64 (n : Nat), .int .i64 (i : Nat)]) (fun ⟨i, n⟩ A => (Ext Non w A) ∧ (i ≤ v.length ∧ n < 10 ^ i ∧ Lib.decFrom 0 v = Lib.decFrom n (v.drop i))) (fun ⟨i, n⟩ => v.length - i) (0, 0) ⟨rfl, rfl, rfl, rfl, trivial⟩ ⟨hX, ⟨Nat.zero_le _, by decide, rfl⟩⟩ ?_
                  rintro τ0 ⟨i, n⟩ A0 ⟨hX, hI0⟩
                  obtain ⟨hI, hni, hU⟩ := hI0
                  refine W_seq ?_
                  refine W_seq ?_
                  refine W_region ?_
                  refine wl_val (rn_move (by conv => lhs; whnf)) ?_
                  refine wl_val (rn_move (by conv => lhs; whnf)) ?_
                  refine wl_val (rn_slen us_9 rfl) ?_
                  refine wl_val (rn_lss rfl rfl) ?_
                  refine wl_nil ?_
                  refine W_cond rfl (fun hc2 => ?_) (fun hc2 => ?_)
                  · have hlt := of_decide_eq_true hc2; simp only [Int.ofNat_lt] at hlt
                    obtain ⟨c, hcc⟩ : ∃ c, (v)[i]? = some c := ⟨_, List.getElem?_eq_getElem hlt⟩
                    have hx8 := c.toNat_lt
                    have hst := decFrom_at (n := n) hcc
                    have hp7 : n ≤ 9999999 := by have : 10 ^ i ≤ 10 ^ 7 := Nat.pow_le_pow_right (by decide) (by omega); omega
                    refine W_skip ?_
                    refine W_seq ?_
                    refine W_block ?_   -- block 1
                    refine W_seq ?_
                    refine W_seq ?_
                    refine W_region ?_
                    refine wl_val (rn_move (by conv => lhs; whnf)) ?_
                    refine wl_val (rn_move (by conv => lhs; whnf)) ?_
                    refine wl_val (rn_sindex us_9 rfl rfl (by omega) hcc) ?_
                    refine wl_val (rn_lss rfl rfl) ?_
                    refine wl_val (rn_move (by conv => lhs; whnf)) ?_
                    refine wl_split (d := 53) rfl (fun hg53 => ?_) (fun hg53 => ?_)
                    · have q5 := of_decide_eq_true hg53
                      have hno : natM v = none := by rw [hval, hU, hst, digitVal_no (by omega)]
                      refine wl_no rfl (congrArg Value.bool hg53) ?_
                      refine wl_no rfl (congrArg Value.bool hg53) ?_
                      refine wl_no rfl (congrArg Value.bool hg53) ?_
                      refine wl_no rfl (congrArg Value.bool hg53) ?_
                      refine wl_val (rn_pickT (congrArg Value.bool hg53) (by conv => lhs; whnf)) ?_
                      refine wl_nil ?_
                      refine W_condT rfl ?_
                      refine W_seq ?_
                      refine W_region ?_
                      refine wl_val (rn_assign (by conv => lhs; whnf)) ?_
                      refine wl_val (rn_assign (by conv => lhs; whnf)) ?_
                      refine wl_nil ?_
                      refine W_ret ?_
                      first | exact ⟨_, resR2 (res1_tmp rfl) (res1_tmp rfl), hX, by rw [hnum, numV_none hno]; rfl⟩ | exact ⟨_, resR2 (res1_tmp rfl) (res1_tmp rfl), hX, by rw [hnum, numV_48 hngT (of_decide_eq_true hc1)]; rfl⟩ | exact ⟨_, resR2 (res1_tmp rfl) (res1_tmp rfl), hX, by rw [hnum, numV_big hres hbig]; rfl⟩ | exact ⟨_, resR2 (res1_tmp rfl) (res1_tmp rfl), hX, by rw [hnum, numV_t hres hsm (h48 rfl)]; rfl⟩ | exact ⟨_, resR2 (res1_tmp rfl) (res1_tmp rfl), hX, by rw [hnum, numV_f hres hsm]; rfl⟩
                    · have q5 := of_decide_eq_false hg53
                      refine wl_yes rfl (congrArg Value.bool hg53) ?_
                      refine wl_val (rn_move (by conv => lhs; whnf)) ?_
                      refine wl_yes rfl (congrArg Value.bool hg53) ?_
                      refine wl_val (rn_move (by conv => lhs; whnf)) ?_
                      refine wl_yes rfl (congrArg Value.bool hg53) ?_
                      refine wl_val (rn_sindex us_9 rfl rfl (by omega) hcc) ?_
                      refine wl_yes rfl (congrArg Value.bool hg53) ?_
                      refine wl_val (rn_gtr rfl rfl) ?_
                      refine wl_val (rn_pickF (congrArg Value.bool hg53) (by conv => lhs; whnf)) ?_
                      refine wl_nil ?_
                      refine W_cond rfl (fun hc3 => ?_) (fun hc3 => ?_)
                      · have q6 := of_decide_eq_true hc3
                        have hno : natM v = none := by rw [hval, hU, hst, digitVal_no (by omega)]
                        refine W_seq ?_
                        refine W_region ?_
                        refine wl_val (rn_assign (by conv => lhs; whnf)) ?_
                        refine wl_val (rn_assign (by conv => lhs; whnf)) ?_
                        refine wl_nil ?_
                        refine W_ret ?_
                        first | exact ⟨_, resR2 (res1_tmp rfl) (res1_tmp rfl), hX, by rw [hnum, numV_none hno]; rfl⟩ | exact ⟨_, resR2 (res1_tmp rfl) (res1_tmp rfl), hX, by rw [hnum, numV_48 hngT (of_decide_eq_true hc1)]; rfl⟩ | exact ⟨_, resR2 (res1_tmp rfl) (res1_tmp rfl), hX, by rw [hnum, numV_big hres hbig]; rfl⟩ | exact ⟨_, resR2 (res1_tmp rfl) (res1_tmp rfl), hX, by rw [hnum, numV_t hres hsm (h48 rfl)]; rfl⟩ | exact ⟨_, resR2 (res1_tmp rfl) (res1_tmp rfl), hX, by rw [hnum, numV_f hres hsm]; rfl⟩
                      · have q6 := of_decide_eq_false hc3
                        rw [digitVal_yes (by omega)] at hst
                        refine W_skip ?_
                        refine W_region ?_
                        refine wl_val (rn_move (by conv => lhs; whnf)) ?_
                        refine wl_val (rn_mul rfl rfl (by omega)) ?_
                        refine wl_val (rn_move (by conv => lhs; whnf)) ?_
                        refine wl_val (rn_move (by conv => lhs; whnf)) ?_
                        refine wl_val (rn_sindex us_9 rfl rfl (by omega) hcc) ?_
                        refine wl_val (rn_convert ui_5 ui_3 rfl (wrap_id (by omega))) ?_
                        refine wl_val (rn_add rfl rfl (by omega)) ?_
                        refine wl_val (Rn.cast (rn_sub rfl rfl (by omega)) (v' := .int .i64 ((n * 10 + (c.toNat - 48) : Nat) : Int)) (congrArg (Value.int .i64) (by omega))) ?_
                        refine wl_val (rn_assign (by conv => lhs; whnf)) ?_
                        refine wl_nil ?_
                        refine W_region ?_
                        refine wl_val (rn_move (by conv => lhs; whnf)) ?_
                        refine wl_val (rn_add rfl rfl (by omega)) ?_
                        refine wl_val (rn_assign (by conv => lhs; whnf)) ?_
                        refine wl_nil ?_
                        exact ⟨rfl, (i + 1, n * 10 + (c.toNat - 48)), ⟨rfl, rfl, rfl, rfl, trivial⟩, ⟨hX, ⟨hlt, by rw [Nat.pow_succ]; omega, by rw [hU, hst]⟩⟩, by show v.length - (i + 1) < v.length - i; omega⟩
                  · have hge := of_decide_eq_false hc2; simp only [Int.ofNat_lt, Nat.not_lt] at hge
                    have hres : natM v = some n := by rw [hval, hU, List.drop_of_length_le hge]; rfl
                    have hp7 : n ≤ 9999999 := by have : 10 ^ i ≤ 10 ^ 7 := Nat.pow_le_pow_right (by decide) (by omega); omega
                    refine W_exit ?_   -- exit 0
                    refine W_seq ?_
                    refine W_seq ?_
                    refine W_region ?_
                    refine wl_val (rn_move (by conv => lhs; whnf)) ?_
                    refine wl_val (rn_gtr rfl rfl) ?_
                    refine wl_nil ?_
                    refine W_cond rfl (fun hc4 => ?_) (fun hc4 => ?_)
                    · have q7 := of_decide_eq_true hc4
                      have hbig : ¬ n ≤ 1000000 := by omega
                      refine W_seq ?_
                      refine W_region ?_
                      refine wl_val (rn_assign (by conv => lhs; whnf)) ?_
                      refine wl_val (rn_assign (by conv => lhs; whnf)) ?_
                      refine wl_nil ?_
                      refine W_ret ?_
                      first | exact ⟨_, resR2 (res1_tmp rfl) (res1_tmp rfl), hX, by rw [hnum, numV_none hno]; rfl⟩ | exact ⟨_, resR2 (res1_tmp rfl) (res1_tmp rfl), hX, by rw [hnum, numV_48 hngT (of_decide_eq_true hc1)]; rfl⟩ | exact ⟨_, resR2 (res1_tmp rfl) (res1_tmp rfl), hX, by rw [hnum, numV_big hres hbig]; rfl⟩ | exact ⟨_, resR2 (res1_tmp rfl) (res1_tmp rfl), hX, by rw [hnum, numV_t hres hsm (h48 rfl)]; rfl⟩ | exact ⟨_, resR2 (res1_tmp rfl) (res1_tmp rfl), hX, by rw [hnum, numV_f hres hsm]; rfl⟩
                    · have q7 := of_decide_eq_false hc4
                      have hsm : n ≤ 1000000 := by omega
                      refine W_skip ?_
                      refine W_seq ?_
                      refine W_seq ?_
                      refine W_region ?_
                      refine wl_val (rn_move (by conv => lhs; whnf)) ?_
                      refine wl_nil ?_
                      refine W_cond rfl (fun hc5 => ?_) (fun hc5 => ?_)
                      · obtain rfl : ng = true := hc5
                        refine W_region ?_
                        refine wl_val (rn_move (by conv => lhs; whnf)) ?_
                        refine wl_val (rn_neg rfl (by omega)) ?_
                        refine wl_val (rn_assign (by conv => lhs; whnf)) ?_
                        refine wl_nil ?_
                        refine W_seq ?_
                        refine W_region ?_
                        refine wl_val (rn_move (by conv => lhs; whnf)) ?_
                        refine wl_val (rn_assign (by conv => lhs; whnf)) ?_
                        refine wl_val (rn_assign (by conv => lhs; whnf)) ?_
                        refine wl_nil ?_
                        refine W_ret ?_
                        first | exact ⟨_, resR2 (res1_tmp rfl) (res1_tmp rfl), hX, by rw [hnum, numV_none hno]; rfl⟩ | exact ⟨_, resR2 (res1_tmp rfl) (res1_tmp rfl), hX, by rw [hnum, numV_48 hngT (of_decide_eq_true hc1)]; rfl⟩ | exact ⟨_, resR2 (res1_tmp rfl) (res1_tmp rfl), hX, by rw [hnum, numV_big hres hbig]; rfl⟩ | exact ⟨_, resR2 (res1_tmp rfl) (res1_tmp rfl), hX, by rw [hnum, numV_t hres hsm (h48 rfl)]; rfl⟩ | exact ⟨_, resR2 (res1_tmp rfl) (res1_tmp rfl), hX, by rw [hnum, numV_f hres hsm]; rfl⟩
                      · obtain rfl : ng = false := hc5
                        refine W_skip ?_
                        refine W_seq ?_
                        refine W_region ?_
                        refine wl_val (rn_move (by conv => lhs; whnf)) ?_
                        refine wl_val (rn_assign (by conv => lhs; whnf)) ?_
                        refine wl_val (rn_assign (by conv => lhs; whnf)) ?_
                        refine wl_nil ?_
                        refine W_ret ?_
                        first | exact ⟨_, resR2 (res1_tmp rfl) (res1_tmp rfl), hX, by rw [hnum, numV_none hno]; rfl⟩ | exact ⟨_, resR2 (res1_tmp rfl) (res1_tmp rfl), hX, by rw [hnum, numV_48 hngT (of_decide_eq_true hc1)]; rfl⟩ | exact ⟨_, resR2 (res1_tmp rfl) (res1_tmp rfl), hX, by rw [hnum, numV_big hres hbig]; rfl⟩ | exact ⟨_, resR2 (res1_tmp rfl) (res1_tmp rfl), hX, by rw [hnum, numV_t hres hsm (h48 rfl)]; rfl⟩ | exact ⟨_, resR2 (res1_tmp rfl) (res1_tmp rfl), hX, by rw [hnum, numV_f hres hsm]; rfl⟩
              · have h48 : ng = true → ¬ v = [48] := fun h => by have : ng = false := hg38; rw [h] at this; cases this
                refine wl_no rfl (congrArg Value.bool hg38) ?_
                refine wl_no rfl (congrArg Value.bool hg38) ?_
                refine wl_yes rfl (congrArg Value.bool hg36) ?_
                refine wl_val (rn_pickF (congrArg Value.bool hg38) (by conv => lhs; whnf)) ?_
                refine wl_val (rn_pickF (congrArg Value.bool hg36) (by conv => lhs; whnf)) ?_
                refine wl_nil ?_
                refine W_condF rfl ?_
                refine W_skip ?_
                refine W_seq ?_
                refine W_region ?_
                refine wl_val (rn_assign (by conv => lhs; whnf)) ?_
                refine wl_nil ?_
                refine W_seq ?_
                refine W_seq ?_
                refine W_region ?_
                refine wl_val (rn_assign (by conv => lhs; whnf)) ?_
                refine wl_nil ?_
                refine W_block ?_   -- block 0
                refine W_loopS (S := Nat × Nat) [0, 4, 5, 6] (fun ⟨i, n⟩ => [Sv v, .bool ng, .int .i64 (n : Nat), .int .i64 (i : Nat)]) (fun ⟨i, n⟩ A => (Ext Non w A) ∧ (i ≤ v.length ∧ n < 10 ^ i ∧ Lib.decFrom 0 v = Lib.decFrom n (v.drop i))) (fun ⟨i, n⟩ => v.length - i) (0, 0) ⟨rfl, rfl, rfl, rfl, trivial⟩ ⟨hX, ⟨Nat.zero_le _, by decide, rfl⟩⟩ ?_
                rintro τ0 ⟨i, n⟩ A0 ⟨hX, hI0⟩
                obtain ⟨hI, hni, hU⟩ := hI0
                refine W_seq ?_
                refine W_seq ?_
                refine W_region ?_
                refine wl_val (rn_move (by conv => lhs; whnf)) ?_
                refine wl_val (rn_move (by conv => lhs; whnf)) ?_
                refine wl_val (rn_slen us_9 rfl) ?_
                refine wl_val (rn_lss rfl rfl) ?_
                refine wl_nil ?_
                refine W_cond rfl (fun hc2 => ?_) (fun hc2 => ?_)
                · have hlt := of_decide_eq_true hc2; simp only [Int.ofNat_lt] at hlt
                  obtain ⟨c, hcc⟩ : ∃ c, (v)[i]? = some c := ⟨_, List.getElem?_eq_getElem hlt⟩
                  have hx8 := c.toNat_lt
                  have hst := decFrom_at (n := n) hcc
                  have hp7 : n ≤ 9999999 := by have : 10 ^ i ≤ 10 ^ 7 := Nat.pow_le_pow_right (by decide) (by omega); omega
                  refine W_skip ?_
                  refine W_seq ?_
                  refine W_block ?_   -- block 1
                  refine W_seq ?_
                  refine W_seq ?_
                  refine W_region ?_
                  refine wl_val (rn_move (by conv => lhs; whnf)) ?_
                  refine wl_val (rn_move (by conv => lhs; whnf)) ?_
                  refine wl_val (rn_sindex us_9 rfl rfl (by omega) hcc) ?_
                  refine wl_val (rn_lss rfl rfl) ?_
                  refine wl_val (rn_move (by conv => lhs; whnf)) ?_
                  refine wl_split (d := 53) rfl (fun hg53 => ?_) (fun hg53 => ?_)
                  · have q5 := of_decide_eq_true hg53
                    have hno : natM v = none := by rw [hval, hU, hst, digitVal_no (by omega)]
                    refine wl_no rfl (congrArg Value.bool hg53) ?_
                    refine wl_no rfl (congrArg Value.bool hg53) ?_
                    refine wl_no rfl (congrArg Value.bool hg53) ?_
                    refine wl_no rfl (congrArg Value.bool hg53) ?_
                    refine wl_val (rn_pickT (congrArg Value.bool hg53) (by conv => lhs; whnf)) ?_
                    refine wl_nil ?_
                    refine W_condT rfl ?_
                    refine W_seq ?_
                    refine W_region ?_
                    refine wl_val (rn_assign (by conv => lhs; whnf)) ?_
                    refine wl_val (rn_assign (by conv => lhs; whnf)) ?_
                    refine wl_nil ?_
                    refine W_ret ?_
                    first | exact ⟨_, resR2 (res1_tmp rfl) (res1_tmp rfl), hX, by rw [hnum, numV_none hno]; rfl⟩ | exact ⟨_, resR2 (res1_tmp rfl) (res1_tmp rfl), hX, by rw [hnum, numV_48 hngT (of_decide_eq_true hc1)]; rfl⟩ | exact ⟨_, resR2 (res1_tmp rfl) (res1_tmp rfl), hX, by rw [hnum, numV_big hres hbig]; rfl⟩ | exact ⟨_, resR2 (res1_tmp rfl) (res1_tmp rfl), hX, by rw [hnum, numV_t hres hsm (h48 rfl)]; rfl⟩ | exact ⟨_, resR2 (res1_tmp rfl) (res1_tmp rfl), hX, by rw [hnum, numV_f hres hsm]; rfl⟩
                  · have q5 := of_decide_eq_false hg53
                    refine wl_yes rfl (congrArg Value.bool hg53) ?_
                    refine wl_val (rn_move (by conv => lhs; whnf)) ?_
                    refine wl_yes rfl (congrArg Value.bool hg53) ?_
                    refine wl_val (rn_move (by conv => lhs; whnf)) ?_
                    refine wl_yes rfl (congrArg Value.bool hg53) ?_
                    refine wl_val (rn_sindex us_9 rfl rfl (by omega) hcc) ?_
                    refine wl_yes rfl (congrArg Value.bool hg53) ?_
                    refine wl_val (rn_gtr rfl rfl) ?_
                    refine wl_val (rn_pickF (congrArg Value.bool hg53) (by conv => lhs; whnf)) ?_
                    refine wl_nil ?_
                    refine W_cond rfl (fun hc3 => ?_) (fun hc3 => ?_)
                    · have q6 := of_decide_eq_true hc3
                      have hno : natM v = none := by rw [hval, hU, hst, digitVal_no (by omega)]
                      refine W_seq ?_
                      refine W_region ?_
                      refine wl_val (rn_assign (by conv => lhs; whnf)) ?_
                      refine wl_val (rn_assign (by conv => lhs; whnf)) ?_
                      refine wl_nil ?_
                      refine W_ret ?_
                      first | exact ⟨_, resR2 (res1_tmp rfl) (res1_tmp rfl), hX, by rw [hnum, numV_none hno]; rfl⟩ | exact ⟨_, resR2 (res1_tmp rfl) (res1_tmp rfl), hX, by rw [hnum, numV_48 hngT (of_decide_eq_true hc1)]; rfl⟩ | exact ⟨_, resR2 (res1_tmp rfl) (res1_tmp rfl), hX, by rw [hnum, numV_big hres hbig]; rfl⟩ | exact ⟨_, resR2 (res1_tmp rfl) (res1_tmp rfl), hX, by rw [hnum, numV_t hres hsm (h48 rfl)]; rfl⟩ | exact ⟨_, resR2 (res1_tmp rfl) (res1_tmp rfl), hX, by rw [hnum, numV_f hres hsm]; rfl⟩
                    · have q6 := of_decide_eq_false hc3
                      rw [digitVal_yes (by omega)] at hst
                      refine W_skip ?_
                      refine W_region ?_
                      refine wl_val (rn_move (by conv => lhs; whnf)) ?_
                      refine wl_val (rn_mul rfl rfl (by omega)) ?_
                      refine wl_val (rn_move (by conv => lhs; whnf)) ?_
                      refine wl_val (rn_move (by conv => lhs; whnf)) ?_
                      refine wl_val (rn_sindex us_9 rfl rfl (by omega) hcc) ?_
                      refine wl_val (rn_convert ui_5 ui_3 rfl (wrap_id (by omega))) ?_
                      refine wl_val (rn_add rfl rfl (by omega)) ?_
                      refine wl_val (Rn.cast (rn_sub rfl rfl (by omega)) (v' := .int .i64 ((n * 10 + (c.toNat - 48) : Nat) : Int)) (congrArg (Value.int .i64) (by omega))) ?_
                      refine wl_val (rn_assign (by conv => lhs; whnf)) ?_
                      refine wl_nil ?_
                      refine W_region ?_
                      refine wl_val (rn_move (by conv => lhs; whnf)) ?_
                      refine wl_val (rn_add rfl rfl (by omega)) ?_
                      refine wl_val (rn_assign (by conv => lhs; whnf)) ?_
                      refine wl_nil ?_
                      exact ⟨rfl, (i + 1, n * 10 + (c.toNat - 48)), ⟨rfl, rfl, rfl, rfl, trivial⟩, ⟨hX, ⟨hlt, by rw [Nat.pow_succ]; omega, by rw [hU, hst]⟩⟩, by show v.length - (i + 1) < v.length - i; omega⟩
                · have hge := of_decide_eq_false hc2; simp only [Int.ofNat_lt, Nat.not_lt] at hge
                  have hres : natM v = some n := by rw [hval, hU, List.drop_of_length_le hge]; rfl
                  have hp7 : n ≤ 9999999 := by have : 10 ^ i ≤ 10 ^ 7 := Nat.pow_le_pow_right (by decide) (by omega); omega
                  refine W_exit ?_   -- exit 0
                  refine W_seq ?_
                  refine W_seq ?_
                  refine W_region ?_
                  refine wl_val (rn_move (by conv => lhs; whnf)) ?_
                  refine wl_val (rn_gtr rfl rfl) ?_
                  refine wl_nil ?_
                  refine W_cond rfl (fun hc4 => ?_) (fun hc4 => ?_)
                  · have q7 := of_decide_eq_true hc4
                    have hbig : ¬ n ≤ 1000000 := by omega
                    refine W_seq ?_
                    refine W_region ?_
                    refine wl_val (rn_assign (by conv => lhs; whnf)) ?_
                    refine wl_val (rn_assign (by conv => lhs; whnf)) ?_
                    refine wl_nil ?_
                    refine W_ret ?_
                    first | exact ⟨_, resR2 (res1_tmp rfl) (res1_tmp rfl), hX, by rw [hnum, numV_none hno]; rfl⟩ | exact ⟨_, resR2 (res1_tmp rfl) (res1_tmp rfl), hX, by rw [hnum, numV_48 hngT (of_decide_eq_true hc1)]; rfl⟩ | exact ⟨_, resR2 (res1_tmp rfl) (res1_tmp rfl), hX, by rw [hnum, numV_big hres hbig]; rfl⟩ | exact ⟨_, resR2 (res1_tmp rfl) (res1_tmp rfl), hX, by rw [hnum, numV_t hres hsm (h48 rfl)]; rfl⟩ | exact ⟨_, resR2 (res1_tmp rfl) (res1_tmp rfl), hX, by rw [hnum, numV_f hres hsm]; rfl⟩
                  · have q7 := of_decide_eq_false hc4
                    have hsm : n ≤ 1000000 := by omega
                    refine W_skip ?_
                    refine W_seq ?_
                    refine W_seq ?_
                    refine W_region ?_
                    refine wl_val (rn_move (by conv => lhs; whnf)) ?_
                    refine wl_nil ?_
                    refine W_cond rfl (fun hc5 => ?_) (fun hc5 => ?_)
                    · obtain rfl : ng = true := hc5
                      refine W_region ?_
                      refine wl_val (rn_move (by conv => lhs; whnf)) ?_
                      refine wl_val (rn_neg rfl (by omega)) ?_
                      refine wl_val (rn_assign (by conv => lhs; whnf)) ?_
                      refine wl_nil ?_
                      refine W_seq ?_
                      refine W_region ?_
                      refine wl_val (rn_move (by conv => lhs; whnf)) ?_
                      refine wl_val (rn_assign (by conv => lhs; whnf)) ?_
                      refine wl_val (rn_assign (by conv => lhs; whnf)) ?_
                      refine wl_nil ?_
                      refine W_ret ?_
                      first | exact ⟨_, resR2 (res1_tmp rfl) (res1_tmp rfl), hX, by rw [hnum, numV_none hno]; rfl⟩ | exact ⟨_, resR2 (res1_tmp rfl) (res1_tmp rfl), hX, by rw [hnum, numV_48 hngT (of_decide_eq_true hc1)]; rfl⟩ | exact ⟨_, resR2 (res1_tmp rfl) (res1_tmp rfl), hX, by rw [hnum, numV_big hres hbig]; rfl⟩ | exact ⟨_, resR2 (res1_tmp rfl) (res1_tmp rfl), hX, by rw [hnum, numV_t hres hsm (h48 rfl)]; rfl⟩ | exact ⟨_, resR2 (res1_tmp rfl) (res1_tmp rfl), hX, by rw [hnum, numV_f hres hsm]; rfl⟩
                    · obtain rfl : ng = false := hc5
                      refine W_skip ?_
                      refine W_seq ?_
                      refine W_region ?_
                      refine wl_val (rn_move (by conv => lhs; whnf)) ?_
                      refine wl_val (rn_assign (by conv => lhs; whnf)) ?_
                      refine wl_val (rn_assign (by conv => lhs; whnf)) ?_
                      refine wl_nil ?_
                      refine W_ret ?_
                      first | exact ⟨_, resR2 (res1_tmp rfl) (res1_tmp rfl), hX, by rw [hnum, numV_none hno]; rfl⟩ | exact ⟨_, resR2 (res1_tmp rfl) (res1_tmp rfl), hX, by rw [hnum, numV_48 hngT (of_decide_eq_true hc1)]; rfl⟩ | exact ⟨_, resR2 (res1_tmp rfl) (res1_tmp rfl), hX, by rw [hnum, numV_big hres hbig]; rfl⟩ | exact ⟨_, resR2 (res1_tmp rfl) (res1_tmp rfl), hX, by rw [hnum, numV_t hres hsm (h48 rfl)]; rfl⟩ | exact ⟨_, resR2 (res1_tmp rfl) (res1_tmp rfl), hX, by rw [hnum, numV_f hres hsm]; rfl⟩
          · have q3 := of_decide_eq_false hg30
            have hval : natM v = Lib.decFrom 0 v := if_neg (by rintro (h | h | ⟨h, h2⟩); omega; omega; omega)
            refine wl_no rfl (congrArg Value.bool hg30) ?_
            refine wl_no rfl (congrArg Value.bool hg30) ?_
            refine wl_no rfl (congrArg Value.bool hg30) ?_
            refine wl_yes rfl (congrArg Value.bool hg26) ?_
            refine wl_val (rn_pickF (congrArg Value.bool hg30) (by conv => lhs; whnf)) ?_
            refine wl_val (rn_pickF (congrArg Value.bool hg26) (by conv => lhs; whnf)) ?_
            refine wl_val (rn_move (by conv => lhs; whnf)) ?_
            refine wl_yes rfl rfl ?_
            refine wl_val (rn_move (by conv => lhs; whnf)) ?_
            refine wl_yes rfl rfl ?_
            refine wl_val (rn_move (by conv => lhs; whnf)) ?_
            refine wl_split (d := 38) rfl (fun hg38 => ?_) (fun hg38 => ?_)
            · have hngT : ng = true := hg38
              refine wl_yes rfl (congrArg Value.bool hg38) ?_
              refine wl_val (rn_move (by conv => lhs; whnf)) ?_
              refine wl_yes rfl (congrArg Value.bool hg38) ?_
              refine wl_val (rn_seql rfl rfl) ?_
              refine wl_yes rfl rfl ?_
              refine wl_val (rn_pickT (congrArg Value.bool hg38) (by conv => lhs; whnf)) ?_
              refine wl_val (rn_pickF rfl (by conv => lhs; whnf)) ?_
              refine wl_nil ?_
              refine W_cond rfl (fun hc1 => ?_) (fun hc1 => ?_)
              · refine W_seq ?_
                refine W_region ?_
                refine wl_val (rn_assign (by conv => lhs; whnf)) ?_
                refine wl_val (rn_assign (by conv => lhs; whnf)) ?_
                refine wl_nil ?_
                refine W_ret ?_
                first | exact ⟨_, resR2 (res1_tmp rfl) (res1_tmp rfl), hX, by rw [hnum, numV_none hno]; rfl⟩ | exact ⟨_, resR2 (res1_tmp rfl) (res1_tmp rfl), hX, by rw [hnum, numV_48 hngT (of_decide_eq_true hc1)]; rfl⟩ | exact ⟨_, resR2 (res1_tmp rfl) (res1_tmp rfl), hX, by rw [hnum, numV_big hres hbig]; rfl⟩ | exact ⟨_, resR2 (res1_tmp rfl) (res1_tmp rfl), hX, by rw [hnum, numV_t hres hsm (h48 rfl)]; rfl⟩ | exact ⟨_, resR2 (res1_tmp rfl) (res1_tmp rfl), hX, by rw [hnum, numV_f hres hsm]; rfl⟩
              · have h48 : ng = true → ¬ v = [48] := fun _ => of_decide_eq_false hc1
                refine W_skip ?_
                refine W_seq ?_
                refine W_region ?_
                refine wl_val (rn_assign (by conv => lhs; whnf)) ?_
                refine wl_nil ?_
                refine W_seq ?_
                refine W_seq ?_
                refine W_region ?_
                refine wl_val (rn_assign (by conv => lhs; whnf)) ?_
                refine wl_nil ?_
                refine W_block ?_   -- block 0
                refine W_loopS (S := Nat × Nat) [0, 4, 5, 6] (fun ⟨i, n⟩ => [Sv v, .bool ng, .int .i64 (n : Nat), .int .i64 (i : Nat)]) (fun ⟨i, n⟩ A => (Ext Non w A) ∧ (i ≤ v.length ∧ n < 10 ^ i ∧ Lib.decFrom 0 v = Lib.decFrom n (v.drop i))) (fun ⟨i, n⟩ => v.length - i) (0, 0) ⟨rfl, rfl, rfl, rfl, trivial⟩ ⟨hX, ⟨Nat.zero_le _, by decide, rfl⟩⟩ ?_
                rintro τ0 ⟨i, n⟩ A0 ⟨hX, hI0⟩
                obtain ⟨hI, hni, hU⟩ := hI0
                refine W_seq ?_
                refine W_seq ?_
                refine W_region ?_
                refine wl_val (rn_move (by conv => lhs; whnf)) ?_
                refine wl_val (rn_move (by conv => lhs; whnf)) ?_
                refine wl_val (rn_slen us_9 rfl) ?_
                refine wl_val (rn_lss rfl rfl) ?_
                refine wl_nil ?_
                refine W_cond rfl (fun hc2 => ?_) (fun hc2 => ?_)
                · have hlt := of_decide_eq_true hc2; simp only [Int.ofNat_lt] at hlt
                  obtain ⟨c, hcc⟩ : ∃ c, (v)[i]? = some c := ⟨_, List.getElem?_eq_getElem hlt⟩
                  have hx8 := c.toNat_lt
                  have hst := decFrom_at (n := n) hcc
                  have hp7 : n ≤ 9999999 := by have : 10 ^ i ≤ 10 ^ 7 := Nat.pow_le_pow_right (by decide) (by omega); omega
                  refine W_skip ?_
                  refine W_seq ?_
                  refine W_block ?_   -- block 1
                  refine W_seq ?_
                  refine W_seq ?_
                  refine W_region ?_
                  refine wl_val (rn_move (by conv => lhs; whnf)) ?_
                  refine wl_val (rn_move (by conv => lhs; whnf)) ?_
                  refine wl_val (rn_sindex us_9 rfl rfl (by omega) hcc) ?_
                  refine wl_val (rn_lss rfl rfl) ?_
                  refine wl_val (rn_move (by conv => lhs; whnf)) ?_
                  refine wl_split (d := 53) rfl (fun hg53 => ?_) (fun hg53 => ?_)
                  · have q5 := of_decide_eq_true hg53
                    have hno : natM v = none := by rw [hval, hU, hst, digitVal_no (by omega)]
                    refine wl_no rfl (congrArg Value.bool hg53) ?_
                    refine wl_no rfl (congrArg Value.bool hg53) ?_
                    refine wl_no rfl (congrArg Value.bool hg53) ?_
                    refine wl_no rfl (congrArg Value.bool hg53) ?_
                    refine wl_val (rn_pickT (congrArg Value.bool hg53) (by conv => lhs; whnf)) ?_
                    refine wl_nil ?_
                    refine W_condT rfl ?_
                    refine W_seq ?_
                    refine W_region ?_
                    refine wl_val (rn_assign (by conv => lhs; whnf)) ?_
                    refine wl_val (rn_assign (by conv => lhs; whnf)) ?_
                    refine wl_nil ?_
                    refine W_ret ?_
                    first | exact ⟨_, resR2 (res1_tmp rfl) (res1_tmp rfl), hX, by rw [hnum, numV_none hno]; rfl⟩ | exact ⟨_, resR2 (res1_tmp rfl) (res1_tmp rfl), hX, by rw [hnum, numV_48 hngT (of_decide_eq_true hc1)]; rfl⟩ | exact ⟨_, resR2 (res1_tmp rfl) (res1_tmp rfl), hX, by rw [hnum, numV_big hres hbig]; rfl⟩ | exact ⟨_, resR2 (res1_tmp rfl) (res1_tmp rfl), hX, by rw [hnum, numV_t hres hsm (h48 rfl)]; rfl⟩ | exact ⟨_, resR2 (res1_tmp rfl) (res1_tmp rfl), hX, by rw [hnum, numV_f hres hsm]; rfl⟩
                  · have q5 := of_decide_eq_false hg53
                    refine wl_yes rfl (congrArg Value.bool hg53) ?_
                    refine wl_val (rn_move (by conv => lhs; whnf)) ?_
                    refine wl_yes rfl (congrArg Value.bool hg53) ?_
                    refine wl_val (rn_move (by conv => lhs; whnf)) ?_
                    refine wl_yes rfl (congrArg Value.bool hg53) ?_
                    refine wl_val (rn_sindex us_9 rfl rfl (by omega) hcc) ?_
                    refine wl_yes rfl (congrArg Value.bool hg53) ?_
                    refine wl_val (rn_gtr rfl rfl) ?_
                    refine wl_val (rn_pickF (congrArg Value.bool hg53) (by conv => lhs; whnf)) ?_
                    refine wl_nil ?_
                    refine W_cond rfl (fun hc3 => ?_) (fun hc3 => ?_)
                    · have q6 := of_decide_eq_true hc3
                      have hno : natM v = none := by rw [hval, hU, hst, digitVal_no (by omega)]
                      refine W_seq ?_
                      refine W_region ?_
                      refine wl_val (rn_assign (by conv => lhs; whnf)) ?_
                      refine wl_val (rn_assign (by conv => lhs; whnf)) ?_
                      refine wl_nil ?_
                      refine W_ret ?_
                      first | exact ⟨_, resR2 (res1_tmp rfl) (res1_tmp rfl), hX, by rw [hnum, numV_none hno]; rfl⟩ | exact ⟨_, resR2 (res1_tmp rfl) (res1_tmp rfl), hX, by rw [hnum, numV_48 hngT (of_decide_eq_true hc1)]; rfl⟩ | exact ⟨_, resR2 (res1_tmp rfl) (res1_tmp rfl), hX, by rw [hnum, numV_big hres hbig]; rfl⟩ | exact ⟨_, resR2 (res1_tmp rfl) (res1_tmp rfl), hX, by rw [hnum, numV_t hres hsm (h48 rfl)]; rfl⟩ | exact ⟨_, resR2 (res1_tmp rfl) (res1_tmp rfl), hX, by rw [hnum, numV_f hres hsm]; rfl⟩
                    · have q6 := of_decide_eq_false hc3
                      rw [digitVal_yes (by omega)] at hst
                      refine W_skip ?_
                      refine W_region ?_
                      refine wl_val (rn_move (by conv => lhs; whnf)) ?_
                      refine wl_val (rn_mul rfl rfl (by omega)) ?_
                      refine wl_val (rn_move (by conv => lhs; whnf)) ?_
                      refine wl_val (rn_move (by conv => lhs; whnf)) ?_
                      refine wl_val (rn_sindex us_9 rfl rfl (by omega) hcc) ?_
                      refine wl_val (rn_convert ui_5 ui_3 rfl (wrap_id (by omega))) ?_
                      refine wl_val (rn_add rfl rfl (by omega)) ?_
                      refine wl_val (Rn.cast (rn_sub rfl rfl (by omega)) (v' := .int .i64 ((n * 10 + (c.toNat - 48) : Nat) : Int)) (congrArg (Value.int .i64) (by omega))) ?_
                      refine wl_val (rn_assign (by conv => lhs; whnf)) ?_
                      refine wl_nil ?_
                      refine W_region ?_
                      refine wl_val (rn_move (by conv => lhs; whnf)) ?_
                      refine wl_val (rn_add rfl rfl (by omega)) ?_
                      refine wl_val (rn_assign (by conv => lhs; whnf)) ?_
                      refine wl_nil ?_
                      exact ⟨rfl, (i + 1, n * 10 + (c.toNat - 48)), ⟨rfl, rfl, rfl, rfl, trivial⟩, ⟨hX, ⟨hlt, by rw [Nat.pow_succ]; omega, by rw [hU, hst]⟩⟩, by show v.length - (i + 1) < v.length - i; omega⟩
                · have hge := of_decide_eq_false hc2; simp only [Int.ofNat_lt, Nat.not_lt] at hge
                  have hres : natM v = some n := by rw [hval, hU, List.drop_of_length_le hge]; rfl
                  have hp7 : n ≤ 9999999 := by have : 10 ^ i ≤ 10 ^ 7 := Nat.pow_le_pow_right (by decide) (by omega); omega
                  refine W_exit ?_   -- exit 0
                  refine W_seq ?_
                  refine W_seq ?_
                  refine W_region ?_
                  refine wl_val (rn_move (by conv => lhs; whnf)) ?_
                  refine wl_val (rn_gtr rfl rfl) ?_
                  refine wl_nil ?_
                  refine W_cond rfl (fun hc4 => ?_) (fun hc4 => ?_)
                  · have q7 := of_decide_eq_true hc4
                    have hbig : ¬ n ≤ 1000000 := by omega
                    refine W_seq ?_
                    refine W_region ?_
                    refine wl_val (rn_assign (by conv => lhs; whnf)) ?_
                    refine wl_val (rn_assign (by conv => lhs; whnf)) ?_
                    refine wl_nil ?_
                    refine W_ret ?_
                    first | exact ⟨_, resR2 (res1_tmp rfl) (res1_tmp rfl), hX, by rw [hnum, numV_none hno]; rfl⟩ | exact ⟨_, resR2 (res1_tmp rfl) (res1_tmp rfl), hX, by rw [hnum, numV_48 hngT (of_decide_eq_true hc1)]; rfl⟩ | exact ⟨_, resR2 (res1_tmp rfl) (res1_tmp rfl), hX, by rw [hnum, numV_big hres hbig]; rfl⟩ | exact ⟨_, resR2 (res1_tmp rfl) (res1_tmp rfl), hX, by rw [hnum, numV_t hres hsm (h48 rfl)]; rfl⟩ | exact ⟨_, resR2 (res1_tmp rfl) (res1_tmp rfl), hX, by rw [hnum, numV_f hres hsm]; rfl⟩
                  · have q7 := of_decide_eq_false hc4
                    have hsm : n ≤ 1000000 := by omega
                    refine W_skip ?_
                    refine W_seq ?_
                    refine W_seq ?_
                    refine W_region ?_
                    refine wl_val (rn_move (by conv => lhs; whnf)) ?_
                    refine wl_nil ?_
                    refine W_cond rfl (fun hc5 => ?_) (fun hc5 => ?_)
                    · obtain rfl : ng = true := hc5
                      refine W_region ?_
                      refine wl_val (rn_move (by conv => lhs; whnf)) ?_
                      refine wl_val (rn_neg rfl (by omega)) ?_
                      refine wl_val (rn_assign (by conv => lhs; whnf)) ?_
                      refine wl_nil ?_
                      refine W_seq ?_
                      refine W_region ?_
                      refine wl_val (rn_move (by conv => lhs; whnf)) ?_
                      refine wl_val (rn_assign (by conv => lhs; whnf)) ?_
                      refine wl_val (rn_assign (by conv => lhs; whnf)) ?_
                      refine wl_nil ?_
                      refine W_ret ?_
                      first | exact ⟨_, resR2 (res1_tmp rfl) (res1_tmp rfl), hX, by rw [hnum, numV_none hno]; rfl⟩ | exact ⟨_, resR2 (res1_tmp rfl) (res1_tmp rfl), hX, by rw [hnum, numV_48 hngT (of_decide_eq_true hc1)]; rfl⟩ | exact ⟨_, resR2 (res1_tmp rfl) (res1_tmp rfl), hX, by rw [hnum, numV_big hres hbig]; rfl⟩ | exact ⟨_, resR2 (res1_tmp rfl) (res1_tmp rfl), hX, by rw [hnum, numV_t hres hsm (h48 rfl)]; rfl⟩ | exact ⟨_, resR2 (res1_tmp rfl) (res1_tmp rfl), hX, by rw [hnum, numV_f hres hsm]; rfl⟩
                    · obtain rfl : ng = false := hc5
                      refine W_skip ?_
                      refine W_seq ?_
                      refine W_region ?_
                      refine wl_val (rn_move (by conv => lhs; whnf)) ?_
                      refine wl_val (rn_assign (by conv => lhs; whnf)) ?_
                      refine wl_val (rn_assign (by conv => lhs; whnf)) ?_
                      refine wl_nil ?_
                      refine W_ret ?_
                      first | exact ⟨_, resR2 (res1_tmp rfl) (res1_tmp rfl), hX, by rw [hnum, numV_none hno]; rfl⟩ | exact ⟨_, resR2 (res1_tmp rfl) (res1_tmp rfl), hX, by rw [hnum, numV_48 hngT (of_decide_eq_true hc1)]; rfl⟩ | exact ⟨_, resR2 (res1_tmp rfl) (res1_tmp rfl), hX, by rw [hnum, numV_big hres hbig]; rfl⟩ | exact ⟨_, resR2 (res1_tmp rfl) (res1_tmp rfl), hX, by rw [hnum, numV_t hres hsm (h48 rfl)]; rfl⟩ | exact ⟨_, resR2 (res1_tmp rfl) (res1_tmp rfl), hX, by rw [hnum, numV_f hres hsm]; rfl⟩
            · have h48 : ng = true → ¬ v = [48] := fun h => by have : ng = false := hg38; rw [h] at this; cases this
              refine wl_no rfl (congrArg Value.bool hg38) ?_
              refine wl_no rfl (congrArg Value.bool hg38) ?_
              refine wl_yes rfl rfl ?_
              refine wl_val (rn_pickF (congrArg Value.bool hg38) (by conv => lhs; whnf)) ?_
              refine wl_val (rn_pickF rfl (by conv => lhs; whnf)) ?_
              refine wl_nil ?_
              refine W_condF rfl ?_
              refine W_skip ?_
              refine W_seq ?_
              refine W_region ?_
              refine wl_val (rn_assign (by conv => lhs; whnf)) ?_
              refine wl_nil ?_
              refine W_seq ?_
              refine W_seq ?_
              refine W_region ?_
              refine wl_val (rn_assign (by conv => lhs; whnf)) ?_
              refine wl_nil ?_
              refine W_block ?_   -- block 0
              refine W_loopS (S := Nat × Nat) [0, 4, 5, 6] (fun ⟨i, n⟩ => [Sv v, .bool ng, .int .i64 (n : Nat), .int .i64 (i : Nat)]) (fun ⟨i, n⟩ A => (Ext Non w A) ∧ (i ≤ v.length ∧ n < 10 ^ i ∧ Lib.decFrom 0 v = Lib.decFrom n (v.drop i))) (fun ⟨i, n⟩ => v.length - i) (0, 0) ⟨rfl, rfl, rfl, rfl, trivial⟩ ⟨hX, ⟨Nat.zero_le _, by decide, rfl⟩⟩ ?_
              rintro τ0 ⟨i, n⟩ A0 ⟨hX, hI0⟩
              obtain ⟨hI, hni, hU⟩ := hI0
              refine W_seq ?_
              refine W_seq ?_
              refine W_region ?_
              refine wl_val (rn_move (by conv => lhs; whnf)) ?_
              refine wl_val (rn_move (by conv => lhs; whnf)) ?_
              refine wl_val (rn_slen us_9 rfl) ?_
              refine wl_val (rn_lss rfl rfl) ?_
              refine wl_nil ?_
              refine W_cond rfl (fun hc2 => ?_) (fun hc2 => ?_)
              · have hlt := of_decide_eq_true hc2; simp only [Int.ofNat_lt] at hlt
                obtain ⟨c, hcc⟩ : ∃ c, (v)[i]? = some c := ⟨_, List.getElem?_eq_getElem hlt⟩
                have hx8 := c.toNat_lt
                have hst := decFrom_at (n := n) hcc
                have hp7 : n ≤ 9999999 := by have : 10 ^ i ≤ 10 ^ 7 := Nat.pow_le_pow_right (by decide) (by omega); omega
                refine W_skip ?_
                refine W_seq ?_
                refine W_block ?_   -- block 1
                refine W_seq ?_
                refine W_seq ?_
                refine W_region ?_
                refine wl_val (rn_move (by conv => lhs; whnf)) ?_
                refine wl_val (rn_move (by conv => lhs; whnf)) ?_
                refine wl_val (rn_sindex us_9 rfl rfl (by omega) hcc) ?_
                refine wl_val (rn_lss rfl rfl) ?_
                refine wl_val (rn_move (by conv => lhs; whnf)) ?_
                refine wl_split (d := 53) rfl (fun hg53 => ?_) (fun hg53 => ?_)
                · have q5 := of_decide_eq_true hg53
                  have hno : natM v = none := by rw [hval, hU, hst, digitVal_no (by omega)]
                  refine wl_no rfl (congrArg Value.bool hg53) ?_
                  refine wl_no rfl (congrArg Value.bool hg53) ?_
                  refine wl_no rfl (congrArg Value.bool hg53) ?_
                  refine wl_no rfl (congrArg Value.bool hg53) ?_
                  refine wl_val (rn_pickT (congrArg Value.bool hg53) (by conv => lhs; whnf)) ?_
                  refine wl_nil ?_
                  refine W_condT rfl ?_
                  refine W_seq ?_
                  refine W_region ?_
                  refine wl_val (rn_assign (by conv => lhs; whnf)) ?_
                  refine wl_val (rn_assign (by conv => lhs; whnf)) ?_
                  refine wl_nil ?_
                  refine W_ret ?_
                  first | exact ⟨_, resR2 (res1_tmp rfl) (res1_tmp rfl), hX, by rw [hnum, numV_none hno]; rfl⟩ | exact ⟨_, resR2 (res1_tmp rfl) (res1_tmp rfl), hX, by rw [hnum, numV_48 hngT (of_decide_eq_true hc1)]; rfl⟩ | exact ⟨_, resR2 (res1_tmp rfl) (res1_tmp rfl), hX, by rw [hnum, numV_big hres hbig]; rfl⟩ | exact ⟨_, resR2 (res1_tmp rfl) (res1_tmp rfl), hX, by rw [hnum, numV_t hres hsm (h48 rfl)]; rfl⟩ | exact ⟨_, resR2 (res1_tmp rfl) (res1_tmp rfl), hX, by rw [hnum, numV_f hres hsm]; rfl⟩
                · have q5 := of_decide_eq_false hg53
                  refine wl_yes rfl (congrArg Value.bool hg53) ?_
                  refine wl_val (rn_move (by conv => lhs; whnf)) ?_
                  refine wl_yes rfl (congrArg Value.bool hg53) ?_
                  refine wl_val (rn_move (by conv => lhs; whnf)) ?_
                  refine wl_yes rfl (congrArg Value.bool hg53) ?_
                  refine wl_val (rn_sindex us_9 rfl rfl (by omega) hcc) ?_
                  refine wl_yes rfl (congrArg Value.bool hg53) ?_
                  refine wl_val (rn_gtr rfl rfl) ?_
                  refine wl_val (rn_pickF (congrArg Value.bool hg53) (by conv => lhs; whnf)) ?_
                  refine wl_nil ?_
                  refine W_cond rfl (fun hc3 => ?_) (fun hc3 => ?_)
                  · have q6 := of_decide_eq_true hc3
                    have hno : natM v = none := by rw [hval, hU, hst, digitVal_no (by omega)]
                    refine W_seq ?_
                    refine W_region ?_
                    refine wl_val (rn_assign (by conv => lhs; whnf)) ?_
                    refine wl_val (rn_assign (by conv => lhs; whnf)) ?_
                    refine wl_nil ?_
                    refine W_ret ?_
                    first | exact ⟨_, resR2 (res1_tmp rfl) (res1_tmp rfl), hX, by rw [hnum, numV_none hno]; rfl⟩ | exact ⟨_, resR2 (res1_tmp rfl) (res1_tmp rfl), hX, by rw [hnum, numV_48 hngT (of_decide_eq_true hc1)]; rfl⟩ | exact ⟨_, resR2 (res1_tmp rfl) (res1_tmp rfl), hX, by rw [hnum, numV_big hres hbig]; rfl⟩ | exact ⟨_, resR2 (res1_tmp rfl) (res1_tmp rfl), hX, by rw [hnum, numV_t hres hsm (h48 rfl)]; rfl⟩ | exact ⟨_, resR2 (res1_tmp rfl) (res1_tmp rfl), hX, by rw [hnum, numV_f hres hsm]; rfl⟩
                  · have q6 := of_decide_eq_false hc3
                    rw [digitVal_yes (by omega)] at hst
                    refine W_skip ?_
                    refine W_region ?_
                    refine wl_val (rn_move (by conv => lhs; whnf)) ?_
                    refine wl_val (rn_mul rfl rfl (by omega)) ?_
                    refine wl_val (rn_move (by conv => lhs; whnf)) ?_
                    refine wl_val (rn_move (by conv => lhs; whnf)) ?_
                    refine wl_val (rn_sindex us_9 rfl rfl (by omega) hcc) ?_
                    refine wl_val (rn_convert ui_5 ui_3 rfl (wrap_id (by omega))) ?_
                    refine wl_val (rn_add rfl rfl (by omega)) ?_
                    refine wl_val (Rn.cast (rn_sub rfl rfl (by omega)) (v' := .int .i64 ((n * 10 + (c.toNat - 48) : Nat) : Int)) (congrArg (Value.int .i64) (by omega))) ?_
                    refine wl_val (rn_assign (by conv => lhs; whnf)) ?_
                    refine wl_nil ?_
                    refine W_region ?_
                    refine wl_val (rn_move (by conv => lhs; whnf)) ?_
                    refine wl_val (rn_add rfl rfl (by omega)) ?_
                    refine wl_val (rn_assign (by conv => lhs; whnf)) ?_
                    refine wl_nil ?_
                    exact ⟨rfl, (i + 1, n * 10 + (c.toNat - 48)), ⟨rfl, rfl, rfl, rfl, trivial⟩, ⟨hX, ⟨hlt, by rw [Nat.pow_succ]; omega, by rw [hU, hst]⟩⟩, by show v.length - (i + 1) < v.length - i; omega⟩
              · have hge := of_decide_eq_false hc2; simp only [Int.ofNat_lt, Nat.not_lt] at hge
                have hres : natM v = some n := by rw [hval, hU, List.drop_of_length_le hge]; rfl
                have hp7 : n ≤ 9999999 := by have : 10 ^ i ≤ 10 ^ 7 := Nat.pow_le_pow_right (by decide) (by omega); omega
                refine W_exit ?_   -- exit 0
                refine W_seq ?_
                refine W_seq ?_
                refine W_region ?_
                refine wl_val (rn_move (by conv => lhs; whnf)) ?_
                refine wl_val (rn_gtr rfl rfl) ?_
                refine wl_nil ?_
                refine W_cond rfl (fun hc4 => ?_) (fun hc4 => ?_)
                · have q7 := of_decide_eq_true hc4
                  have hbig : ¬ n ≤ 1000000 := by omega
                  refine W_seq ?_
                  refine W_region ?_
                  refine wl_val (rn_assign (by conv => lhs; whnf)) ?_
                  refine wl_val (rn_assign (by conv => lhs; whnf)) ?_
                  refine wl_nil ?_
                  refine W_ret ?_
                  first | exact ⟨_, resR2 (res1_tmp rfl) (res1_tmp rfl), hX, by rw [hnum, numV_none hno]; rfl⟩ | exact ⟨_, resR2 (res1_tmp rfl) (res1_tmp rfl), hX, by rw [hnum, numV_48 hngT (of_decide_eq_true hc1)]; rfl⟩ | exact ⟨_, resR2 (res1_tmp rfl) (res1_tmp rfl), hX, by rw [hnum, numV_big hres hbig]; rfl⟩ | exact ⟨_, resR2 (res1_tmp rfl) (res1_tmp rfl), hX, by rw [hnum, numV_t hres hsm (h48 rfl)]; rfl⟩ | exact ⟨_, resR2 (res1_tmp rfl) (res1_tmp rfl), hX, by rw [hnum, numV_f hres hsm]; rfl⟩
                · have q7 := of_decide_eq_false hc4
                  have hsm : n ≤ 1000000 := by omega
                  refine W_skip ?_
                  refine W_seq ?_
                  refine W_seq ?_
                  refine W_region ?_
                  refine wl_val (rn_move (by conv => lhs; whnf)) ?_
                  refine wl_nil ?_
                  refine W_cond rfl (fun hc5 => ?_) (fun hc5 => ?_)
                  · obtain rfl : ng = true := hc5
                    refine W_region ?_
                    refine wl_val (rn_move (by conv => lhs; whnf)) ?_
                    refine wl_val (rn_neg rfl (by omega)) ?_
                    refine wl_val (rn_assign (by conv => lhs; whnf)) ?_
                    refine wl_nil ?_
                    refine W_seq ?_
                    refine W_region ?_
                    refine wl_val (rn_move (by conv => lhs; whnf)) ?_
                    refine wl_val (rn_assign (by conv => lhs; whnf)) ?_
                    refine wl_val (rn_assign (by conv => lhs; whnf)) ?_
                    refine wl_nil ?_
                    refine W_ret ?_
                    first | exact ⟨_, resR2 (res1_tmp rfl) (res1_tmp rfl), hX, by rw [hnum, numV_none hno]; rfl⟩ | exact ⟨_, resR2 (res1_tmp rfl) (res1_tmp rfl), hX, by rw [hnum, numV_48 hngT (of_decide_eq_true hc1)]; rfl⟩ | exact ⟨_, resR2 (res1_tmp rfl) (res1_tmp rfl), hX, by rw [hnum, numV_big hres hbig]; rfl⟩ | exact ⟨_, resR2 (res1_tmp rfl) (res1_tmp rfl), hX, by rw [hnum, numV_t hres hsm (h48 rfl)]; rfl⟩ | exact ⟨_, resR2 (res1_tmp rfl) (res1_tmp rfl), hX, by rw [hnum, numV_f hres hsm]; rfl⟩
                  · obtain rfl : ng = false := hc5
                    refine W_skip ?_
                    refine W_seq ?_
                    refine W_region ?_
                    refine wl_val (rn_move (by conv => lhs; whnf)) ?_
                    refine wl_val (rn_assign (by conv => lhs; whnf)) ?_
                    refine wl_val (rn_assign (by conv => lhs; whnf)) ?_
                    refine wl_nil ?_
                    refine W_ret ?_
                    first | exact ⟨_, resR2 (res1_tmp rfl) (res1_tmp rfl), hX, by rw [hnum, numV_none hno]; rfl⟩ | exact ⟨_, resR2 (res1_tmp rfl) (res1_tmp rfl), hX, by rw [hnum, numV_48 hngT (of_decide_eq_true hc1)]; rfl⟩ | exact ⟨_, resR2 (res1_tmp rfl) (res1_tmp rfl), hX, by rw [hnum, numV_big hres hbig]; rfl⟩ | exact ⟨_, resR2 (res1_tmp rfl) (res1_tmp rfl), hX, by rw [hnum, numV_t hres hsm (h48 rfl)]; rfl⟩ | exact ⟨_, resR2 (res1_tmp rfl) (res1_tmp rfl), hX, by rw [hnum, numV_f hres hsm]; rfl⟩
  · have q0 := of_decide_eq_false hg10
    refine wl_no rfl (congrArg Value.bool hg10) ?_
    refine wl_no rfl (congrArg Value.bool hg10) ?_
    refine wl_no rfl (congrArg Value.bool hg10) ?_
    refine wl_val (rn_pickF (congrArg Value.bool hg10) (by conv => lhs; whnf)) ?_
    refine wl_val (rn_assign (by conv => lhs; whnf)) ?_
    refine wl_nil ?_
    refine W_cut (T := Bool × Str) [0, 4] (fun ⟨ng, v⟩ => [Sv v, .bool ng]) (fun ⟨ng, v⟩ A => (Ext Non w A) ∧ (numM s = numV ng v ∧ v.length ≤ 4000)) ?_ ?_
    · refine W_seq ?_
      refine W_region ?_
      refine wl_val (rn_move (by conv => lhs; whnf)) ?_
      refine wl_nil ?_
      refine W_condF rfl ?_
      refine W_skip ?_
      exact ⟨rfl, (false, s), ⟨rfl, rfl, trivial⟩, ⟨hX, ⟨num_pos (by rw [List.getElem?_eq_none (by omega)]; intro h; cases h), hn⟩⟩⟩
    · rintro τ1015 ⟨ng, v⟩ C115 ⟨hX, hI⟩
      obtain ⟨hnum, hvl⟩ := hI
      refine W_seq ?_
      refine W_seq ?_
      refine W_region ?_
      refine wl_val (rn_move (by conv => lhs; whnf)) ?_
      refine wl_val (rn_slen us_9 rfl) ?_
      refine wl_val (rn_lss rfl rfl) ?_
      refine wl_val (rn_move (by conv => lhs; whnf)) ?_
      refine wl_split (d := 21) rfl (fun hg21 => ?_) (fun hg21 => ?_)
      · have q1 := of_decide_eq_true hg21
        have hno : natM v = none := if_pos (.inl (by omega))
        refine wl_no rfl (congrArg Value.bool hg21) ?_
        refine wl_no rfl (congrArg Value.bool hg21) ?_
        refine wl_no rfl (congrArg Value.bool hg21) ?_
        refine wl_val (rn_pickT (congrArg Value.bool hg21) (by conv => lhs; whnf)) ?_
        refine wl_val (rn_move (by conv => lhs; whnf)) ?_
        refine wl_no rfl rfl ?_
        refine wl_no rfl rfl ?_
        refine wl_no rfl rfl ?_
        refine wl_no rfl rfl ?_
        refine wl_nou rfl rfl ?_
        refine wl_nou rfl rfl ?_
        refine wl_nou rfl rfl ?_
        refine wl_no rfl rfl ?_
        refine wl_val (rn_pickT rfl (by conv => lhs; whnf)) ?_
        refine wl_val (rn_move (by conv => lhs; whnf)) ?_
        refine wl_no rfl rfl ?_
        refine wl_no rfl rfl ?_
        refine wl_nou rfl rfl ?_
        refine wl_nou rfl rfl ?_
        refine wl_no rfl rfl ?_
        refine wl_val (rn_pickT rfl (by conv => lhs; whnf)) ?_
        refine wl_nil ?_
        refine W_condT rfl ?_
        refine W_seq ?_
        refine W_region ?_
        refine wl_val (rn_assign (by conv => lhs; whnf)) ?_
        refine wl_val (rn_assign (by conv => lhs; whnf)) ?_
        refine wl_nil ?_
        refine W_ret ?_
        first | exact ⟨_, resR2 (res1_tmp rfl) (res1_tmp rfl), hX, by rw [hnum, numV_none hno]; rfl⟩ | exact ⟨_, resR2 (res1_tmp rfl) (res1_tmp rfl), hX, by rw [hnum, numV_48 hngT (of_decide_eq_true hc1)]; rfl⟩ | exact ⟨_, resR2 (res1_tmp rfl) (res1_tmp rfl), hX, by rw [hnum, numV_big hres hbig]; rfl⟩ | exact ⟨_, resR2 (res1_tmp rfl) (res1_tmp rfl), hX, by rw [hnum, numV_t hres hsm (h48 rfl)]; rfl⟩ | exact ⟨_, resR2 (res1_tmp rfl) (res1_tmp rfl), hX, by rw [hnum, numV_f hres hsm]; rfl⟩
      · have q1 := of_decide_eq_false hg21
        refine wl_yes rfl (congrArg Value.bool hg21) ?_
        refine wl_val (rn_move (by conv => lhs; whnf)) ?_
        refine wl_yes rfl (congrArg Value.bool hg21) ?_
        refine wl_val (rn_slen us_9 rfl) ?_
        refine wl_yes rfl (congrArg Value.bool hg21) ?_
        refine wl_val (rn_gtr rfl rfl) ?_
        refine wl_val (rn_pickF (congrArg Value.bool hg21) (by conv => lhs; whnf)) ?_
        refine wl_val (rn_move (by conv => lhs; whnf)) ?_
        refine wl_split (d := 26) rfl (fun hg26 => ?_) (fun hg26 => ?_)
        · have q2 := of_decide_eq_true hg26
          have hno : natM v = none := if_pos (.inr (.inl (by omega)))
          refine wl_no rfl (congrArg Value.bool hg26) ?_
          refine wl_no rfl (congrArg Value.bool hg26) ?_
          refine wl_no rfl (congrArg Value.bool hg26) ?_
          refine wl_no rfl (congrArg Value.bool hg26) ?_
          refine wl_nou rfl rfl ?_
          refine wl_nou rfl rfl ?_
          refine wl_nou rfl rfl ?_
          refine wl_no rfl (congrArg Value.bool hg26) ?_
          refine wl_val (rn_pickT (congrArg Value.bool hg26) (by conv => lhs; whnf)) ?_
          refine wl_val (rn_move (by conv => lhs; whnf)) ?_
          refine wl_no rfl rfl ?_
          refine wl_no rfl rfl ?_
          refine wl_nou rfl rfl ?_
          refine wl_nou rfl rfl ?_
          refine wl_no rfl rfl ?_
          refine wl_val (rn_pickT rfl (by conv => lhs; whnf)) ?_
          refine wl_nil ?_
          refine W_condT rfl ?_
          refine W_seq ?_
          refine W_region ?_
          refine wl_val (rn_assign (by conv => lhs; whnf)) ?_
          refine wl_val (rn_assign (by conv => lhs; whnf)) ?_
          refine wl_nil ?_
          refine W_ret ?_
          first | exact ⟨_, resR2 (res1_tmp rfl) (res1_tmp rfl), hX, by rw [hnum, numV_none hno]; rfl⟩ | exact ⟨_, resR2 (res1_tmp rfl) (res1_tmp rfl), hX, by rw [hnum, numV_48 hngT (of_decide_eq_true hc1)]; rfl⟩ | exact ⟨_, resR2 (res1_tmp rfl) (res1_tmp rfl), hX, by rw [hnum, numV_big hres hbig]; rfl⟩ | exact ⟨_, resR2 (res1_tmp rfl) (res1_tmp rfl), hX, by rw [hnum, numV_t hres hsm (h48 rfl)]; rfl⟩ | exact ⟨_, resR2 (res1_tmp rfl) (res1_tmp rfl), hX, by rw [hnum, numV_f hres hsm]; rfl⟩
        · have q2 := of_decide_eq_false hg26
          refine wl_yes rfl (congrArg Value.bool hg26) ?_
          refine wl_val (rn_move (by conv => lhs; whnf)) ?_
          refine wl_yes rfl (congrArg Value.bool hg26) ?_
          refine wl_val (rn_slen us_9 rfl) ?_
          refine wl_yes rfl (congrArg Value.bool hg26) ?_
          refine wl_val (rn_gtr rfl rfl) ?_
          refine wl_yes rfl (congrArg Value.bool hg26) ?_
          refine wl_val (rn_move (by conv => lhs; whnf)) ?_
          refine wl_split (d := 30) rfl (fun hg30 => ?_) (fun hg30 => ?_)
          · have q3 := of_decide_eq_true hg30
            obtain ⟨z0, hz0⟩ : ∃ z, v[0]? = some z := ⟨_, List.getElem?_eq_getElem (by omega)⟩
            refine wl_yes rfl (congrArg Value.bool hg30) ?_
            refine wl_val (rn_move (by conv => lhs; whnf)) ?_
            refine wl_yes rfl (congrArg Value.bool hg30) ?_
            refine wl_val (rn_sindex us_9 rfl rfl (by omega) hz0) ?_
            refine wl_yes rfl (congrArg Value.bool hg30) ?_
            refine wl_val (rn_eql rfl rfl) ?_
            refine wl_yes rfl (congrArg Value.bool hg26) ?_
            refine wl_val (rn_pickT (congrArg Value.bool hg30) (by conv => lhs; whnf)) ?_
            refine wl_val (rn_pickF (congrArg Value.bool hg26) (by conv => lhs; whnf)) ?_
            refine wl_val (rn_move (by conv => lhs; whnf)) ?_
            refine wl_split (d := 36) rfl (fun hg36 => ?_) (fun hg36 => ?_)
            · have q4 := u8_eq (d := 48) (of_decide_eq_true hg36)
              have hno : natM v = none := if_pos (.inr (.inr ⟨by omega, by rw [hz0, q4]⟩))
              refine wl_no rfl (congrArg Value.bool hg36) ?_
              refine wl_no rfl (congrArg Value.bool hg36) ?_
              refine wl_nou rfl rfl ?_
              refine wl_nou rfl rfl ?_
              refine wl_no rfl (congrArg Value.bool hg36) ?_
              refine wl_val (rn_pickT (congrArg Value.bool hg36) (by conv => lhs; whnf)) ?_
              refine wl_nil ?_
              refine W_condT rfl ?_
              refine W_seq ?_
              refine W_region ?_
              refine wl_val (rn_assign (by conv => lhs; whnf)) ?_
              refine wl_val (rn_assign (by conv => lhs; whnf)) ?_
              refine wl_nil ?_
              refine W_ret ?_
              first | exact ⟨_, resR2 (res1_tmp rfl) (res1_tmp rfl), hX, by rw [hnum, numV_none hno]; rfl⟩ | exact ⟨_, resR2 (res1_tmp rfl) (res1_tmp rfl), hX, by rw [hnum, numV_48 hngT (of_decide_eq_true hc1)]; rfl⟩ | exact ⟨_, resR2 (res1_tmp rfl) (res1_tmp rfl), hX, by rw [hnum, numV_big hres hbig]; rfl⟩ | exact ⟨_, resR2 (res1_tmp rfl) (res1_tmp rfl), hX, by rw [hnum, numV_t hres hsm (h48 rfl)]; rfl⟩ | exact ⟨_, resR2 (res1_tmp rfl) (res1_tmp rfl), hX, by rw [hnum, numV_f hres hsm]; rfl⟩
            · have q4 := of_decide_eq_false hg36
              have hval : natM v = Lib.decFrom 0 v := if_neg (by rintro (h | h | ⟨h, h2⟩); omega; omega; rw [hz0] at h2; simp only [Option.some.injEq] at h2; exact q4 (by rw [h2]; rfl))
              refine wl_yes rfl (congrArg Value.bool hg36) ?_
              refine wl_val (rn_move (by conv => lhs; whnf)) ?_
              refine wl_yes rfl (congrArg Value.bool hg36) ?_
              refine wl_val (rn_move (by conv => lhs; whnf)) ?_
              refine wl_split (d := 38) rfl (fun hg38 => ?_) (fun hg38 => ?_)
              · have hngT : ng = true := hg38
                refine wl_yes rfl (congrArg Value.bool hg38) ?_
                refine wl_val (rn_move (by conv => lhs; whnf)) ?_
                refine wl_yes rfl (congrArg Value.bool hg38) ?_
                refine wl_val (rn_seql rfl rfl) ?_
                refine wl_yes rfl (congrArg Value.bool hg36) ?_
                refine wl_val (rn_pickT (congrArg Value.bool hg38) (by conv => lhs; whnf)) ?_
                refine wl_val (rn_pickF (congrArg Value.bool hg36) (by conv => lhs; whnf)) ?_
                refine wl_nil ?_
                refine W_cond rfl (fun hc1 => ?_) (fun hc1 => ?_)
                · refine W_seq ?_
                  refine W_region ?_
                  refine wl_val (rn_assign (by conv => lhs; whnf)) ?_
                  refine wl_val (rn_assign (by conv => lhs; whnf)) ?_
                  refine wl_nil ?_
                  refine W_ret ?_
                  first | exact ⟨_, resR2 (res1_tmp rfl) (res1_tmp rfl), hX, by rw [hnum, numV_none hno]; rfl⟩ | exact ⟨_, resR2 (res1_tmp rfl) (res1_tmp rfl), hX, by rw [hnum, numV_48 hngT (of_decide_eq_true hc1)]; rfl⟩ | exact ⟨_, resR2 (res1_tmp rfl) (res1_tmp rfl), hX, by rw [hnum, numV_big hres hbig]; rfl⟩ | exact ⟨_, resR2 (res1_tmp rfl) (res1_tmp rfl), hX, by rw [hnum, numV_t hres hsm (h48 rfl)]; rfl⟩ | exact ⟨_, resR2 (res1_tmp rfl) (res1_tmp rfl), hX, by rw [hnum, numV_f hres hsm]; rfl⟩
                · have h48 : ng = true → ¬ v = [48] := fun _ => of_decide_eq_false hc1
                  refine W_skip ?_
                  refine W_seq ?_
                  refine W_region ?_
                  refine wl_val (rn_assign (by conv => lhs; whnf)) ?_
                  refine wl_nil ?_
                  refine W_seq ?_
                  refine W_seq ?_
                  refine W_region ?_
                  refine wl_val (rn_assign (by conv => lhs; whnf)) ?_
                  refine wl_nil ?_
                  refine W_block ?_   -- block 0
                  refine W_loopS (S := Nat × Nat) [0, 4, 5, 6] (fun ⟨i, n⟩ => [Sv v, .bool ng, .int .i64 (n : Nat), .int .i64 (i : Nat)]) (fun ⟨i, n⟩ A => (Ext Non w A) ∧ (i ≤ v.length ∧ n < 10 ^ i ∧ Lib.decFrom 0 v = Lib.decFrom n (v.drop i))) (fun ⟨i, n⟩ => v.length - i) (0, 0) ⟨rfl, rfl, rfl, rfl, trivial⟩ ⟨hX, ⟨Nat.zero_le _, by decide, rfl⟩⟩ ?_
                  rintro τ0 ⟨i, n⟩ A0 ⟨hX, hI0⟩
                  obtain ⟨hI, hni, hU⟩ := hI0
                  refine W_seq ?_
                  refine W_seq ?_
                  refine W_region ?_
                  refine wl_val (rn_move (by conv => lhs; whnf)) ?_
                  refine wl_val (rn_move (by conv => lhs; whnf)) ?_
                  refine wl_val (rn_slen us_9 rfl) ?_
                  refine wl_val (rn_lss rfl rfl) ?_
                  refine wl_nil ?_
                  refine W_cond rfl (fun hc2 => ?_) (fun hc2 => ?_)
                  · have hlt := of_decide_eq_true hc2; simp only [Int.ofNat_lt] at hlt
                    obtain ⟨c, hcc⟩ : ∃ c, (v)[i]? = some c := ⟨_, List.getElem?_eq_getElem hlt⟩
                    have hx8 := c.toNat_lt
                    have hst := decFrom_at (n := n) hcc
                    have hp7 : n ≤ 9999999 := by have : 10 ^ i ≤ 10 ^ 7 := Nat.pow_le_pow_right (by decide) (by omega); omega
                    refine W_skip ?_
                    refine W_seq ?_
                    refine W_block ?_   -- block 1
                    refine W_seq ?_
                    refine W_seq ?_
                    refine W_region ?_
                    refine wl_val (rn_move (by conv => lhs; whnf)) ?_
                    refine wl_val (rn_move (by conv => lhs; whnf)) ?_
                    refine wl_val (rn_sindex us_9 rfl rfl (by omega) hcc) ?_
                    refine wl_val (rn_lss rfl rfl) ?_
                    refine wl_val (rn_move (by conv => lhs; whnf)) ?_
                    refine wl_split (d := 53) rfl (fun hg53 => ?_) (fun hg53 => ?_)
                    · have q5 := of_decide_eq_true hg53
                      have hno : natM v = none := by rw [hval, hU, hst, digitVal_no (by omega)]
                      refine wl_no rfl (congrArg Value.bool hg53) ?_
                      refine wl_no rfl (congrArg Value.bool hg53) ?_
                      refine wl_no rfl (congrArg Value.bool hg53) ?_
                      refine wl_no rfl (congrArg Value.bool hg53) ?_
                      refine wl_val (rn_pickT (congrArg Value.bool hg53) (by conv => lhs; whnf)) ?_
                      refine wl_nil ?_
                      refine W_condT rfl ?_
                      refine W_seq ?_
                      refine W_region ?_
                      refine wl_val (rn_assign (by conv => lhs; whnf)) ?_
                      refine wl_val (rn_assign (by conv => lhs; whnf)) ?_
                      refine wl_nil ?_
                      refine W_ret ?_
                      first | exact ⟨_, resR2 (res1_tmp rfl) (res1_tmp rfl), hX, by rw [hnum, numV_none hno]; rfl⟩ | exact ⟨_, resR2 (res1_tmp rfl) (res1_tmp rfl), hX, by rw [hnum, numV_48 hngT (of_decide_eq_true hc1)]; rfl⟩ | exact ⟨_, resR2 (res1_tmp rfl) (res1_tmp rfl), hX, by rw [hnum, numV_big hres hbig]; rfl⟩ | exact ⟨_, resR2 (res1_tmp rfl) (res1_tmp rfl), hX, by rw [hnum, numV_t hres hsm (h48 rfl)]; rfl⟩ | exact ⟨_, resR2 (res1_tmp rfl) (res1_tmp rfl), hX, by rw [hnum, numV_f hres hsm]; rfl⟩
                    · have q5 := of_decide_eq_false hg53
                      refine wl_yes rfl (congrArg Value.bool hg53) ?_
                      refine wl_val (rn_move (by conv => lhs; whnf)) ?_
                      refine wl_yes rfl (congrArg Value.bool hg53) ?_
                      refine wl_val (rn_move (by conv => lhs; whnf)) ?_
                      refine wl_yes rfl (congrArg Value.bool hg53) ?_
                      refine wl_val (rn_sindex us_9 rfl rfl (by omega) hcc) ?_
                      refine wl_yes rfl (congrArg Value.bool hg53) ?_
                      refine wl_val (rn_gtr rfl rfl) ?_
                      refine wl_val (rn_pickF (congrArg Value.bool hg53) (by conv => lhs; whnf)) ?_
                      refine wl_nil ?_
                      refine W_cond rfl (fun hc3 => ?_) (fun hc3 => ?_)
                      · have q6 := of_decide_eq_true hc3
                        have hno : natM v = none := by rw [hval, hU, hst, digitVal_no (by omega)]
                        refine W_seq ?_
                        refine W_region ?_
                        refine wl_val (rn_assign (by conv => lhs; whnf)) ?_
                        refine wl_val (rn_assign (by conv => lhs; whnf)) ?_
                        refine wl_nil ?_
                        refine W_ret ?_
                        first | exact ⟨_, resR2 (res1_tmp rfl) (res1_tmp rfl), hX, by rw [hnum, numV_none hno]; rfl⟩ | exact ⟨_, resR2 (res1_tmp rfl) (res1_tmp rfl), hX, by rw [hnum, numV_48 hngT (of_decide_eq_true hc1)]; rfl⟩ | exact ⟨_, resR2 (res1_tmp rfl) (res1_tmp rfl), hX, by rw [hnum, numV_big hres hbig]; rfl⟩ | exact ⟨_, resR2 (res1_tmp rfl) (res1_tmp rfl), hX, by rw [hnum, numV_t hres hsm (h48 rfl)]; rfl⟩ | exact ⟨_, resR2 (res1_tmp rfl) (res1_tmp rfl), hX, by rw [hnum, numV_f hres hsm]; rfl⟩
                      · have q6 := of_decide_eq_false hc3
                        rw [digitVal_yes (by omega)] at hst
                        refine W_skip ?_
                        refine W_region ?_
                        refine wl_val (rn_move (by conv => lhs; whnf)) ?_
                        refine wl_val (rn_mul rfl rfl (by omega)) ?_
                        refine wl_val (rn_move (by conv => lhs; whnf)) ?_
                        refine wl_val (rn_move (by conv => lhs; whnf)) ?_
                        refine wl_val (rn_sindex us_9 rfl rfl (by omega) hcc) ?_
                        refine wl_val (rn_convert ui_5 ui_3 rfl (wrap_id (by omega))) ?_
                        refine wl_val (rn_add rfl rfl (by omega)) ?_
                        refine wl_val (Rn.cast (rn_sub rfl rfl (by omega)) (v' := .int .i64 ((n * 10 + (c.toNat - 48) : Nat) : Int)) (congrArg (Value.int .i64) (by omega))) ?_
                        refine wl_val (rn_assign (by conv => lhs; whnf)) ?_
                        refine wl_nil ?_
                        refine W_region ?_
                        refine wl_val (rn_move (by conv => lhs; whnf)) ?_
                        refine wl_val (rn_add rfl rfl (by omega)) ?_
                        refine wl_val (rn_assign (by conv => lhs; whnf)) ?_
                        refine wl_nil ?_
                        exact ⟨rfl, (i + 1, n * 10 + (c.toNat - 48)), ⟨rfl, rfl, rfl, rfl, trivial⟩, ⟨hX, ⟨hlt, by rw [Nat.pow_succ]; omega, by rw [hU, hst]⟩⟩, by show v.length - (i + 1) < v.length - i; omega⟩
                  · have hge := of_decide_eq_false hc2; simp only [Int.ofNat_lt, Nat.not_lt] at hge
                    have hres : natM v = some n := by rw [hval, hU, List.drop_of_length_le hge]; rfl
                    have hp7 : n ≤ 9999999 := by have : 10 ^ i ≤ 10 ^ 7 := Nat.pow_le_pow_right (by decide) (by omega); omega
                    refine W_exit ?_   -- exit 0
                    refine W_seq ?_
                    refine W_seq ?_
                    refine W_region ?_
                    refine wl_val (rn_move (by conv => lhs; whnf)) ?_
                    refine wl_val (rn_gtr rfl rfl) ?_
                    refine wl_nil ?_
                    refine W_cond rfl (fun hc4 => ?_) (fun hc4 => ?_)
                    · have q7 := of_decide_eq_true hc4
                      have hbig : ¬ n ≤ 1000000 := by omega
                      refine W_seq ?_
                      refine W_region ?_
                      refine wl_val (rn_assign (by conv => lhs; whnf)) ?_
                      refine wl_val (rn_assign (by conv => lhs; whnf)) ?_
                      refine wl_nil ?_
                      refine W_ret ?_
                      first | exact ⟨_, resR2 (res1_tmp rfl) (res1_tmp rfl), hX, by rw [hnum, numV_none hno]; rfl⟩ | exact ⟨_, resR2 (res1_tmp rfl) (res1_tmp rfl), hX, by rw [hnum, numV_48 hngT (of_decide_eq_true hc1)]; rfl⟩ | exact ⟨_, resR2 (res1_tmp rfl) (res1_tmp rfl), hX, by rw [hnum, numV_big hres hbig]; rfl⟩ | exact ⟨_, resR2 (res1_tmp rfl) (res1_tmp rfl), hX, by rw [hnum, numV_t hres hsm (h48 rfl)]; rfl⟩ | exact ⟨_, resR2 (res1_tmp rfl) (res1_tmp rfl), hX, by rw [hnum, numV_f hres hsm]; rfl⟩
                    · have q7 := of_decide_eq_false hc4
                      have hsm : n ≤ 1000000 := by omega
                      refine W_skip ?_
                      refine W_seq ?_
                      refine W_seq ?_
                      refine W_region ?_
                      refine wl_val (rn_move (by conv => lhs; whnf)) ?_
                      refine wl_nil ?_
                      refine W_cond rfl (fun hc5 => ?_) (fun hc5 => ?_)
                      · obtain rfl : ng = true := hc5
                        refine W_region ?_
                        refine wl_val (rn_move (by conv => lhs; whnf)) ?_
                        refine wl_val (rn_neg rfl (by omega)) ?_
                        refine wl_val (rn_assign (by conv => lhs; whnf)) ?_
                        refine wl_nil ?_
                        refine W_seq ?_
                        refine W_region ?_
                        refine wl_val (rn_move (by conv => lhs; whnf)) ?_
                        refine wl_val (rn_assign (by conv => lhs; whnf)) ?_
                        refine wl_val (rn_assign (by conv => lhs; whnf)) ?_
                        refine wl_nil ?_
                        refine W_ret ?_
                        first | exact ⟨_, resR2 (res1_tmp rfl) (res1_tmp rfl), hX, by rw [hnum, numV_none hno]; rfl⟩ | exact ⟨_, resR2 (res1_tmp rfl) (res1_tmp rfl), hX, by rw [hnum, numV_48 hngT (of_decide_eq_true hc1)]; rfl⟩ | exact ⟨_, resR2 (res1_tmp rfl) (res1_tmp rfl), hX, by rw [hnum, numV_big hres hbig]; rfl⟩ | exact ⟨_, resR2 (res1_tmp rfl) (res1_tmp rfl), hX, by rw [hnum, numV_t hres hsm (h48 rfl)]; rfl⟩ | exact ⟨_, resR2 (res1_tmp rfl) (res1_tmp rfl), hX, by rw [hnum, numV_f hres hsm]; rfl⟩
                      · obtain rfl : ng = false := hc5
                        refine W_skip ?_
                        refine W_seq ?_
                        refine W_region ?_
                        refine wl_val (rn_move (by conv => lhs; whnf)) ?_
                        refine wl_val (rn_assign (by conv => lhs; whnf)) ?_
                        refine wl_val (rn_assign (by conv => lhs; whnf)) ?_
                        refine wl_nil ?_
                        refine W_ret ?_
                        first | exact ⟨_, resR2 (res1_tmp rfl) (res1_tmp rfl), hX, by rw [hnum, numV_none hno]; rfl⟩ | exact ⟨_, resR2 (res1_tmp rfl) (res1_tmp rfl), hX, by rw [hnum, numV_48 hngT (of_decide_eq_true hc1)]; rfl⟩ | exact ⟨_, resR2 (res1_tmp rfl) (res1_tmp rfl), hX, by rw [hnum, numV_big hres hbig]; rfl⟩ | exact ⟨_, resR2 (res1_tmp rfl) (res1_tmp rfl), hX, by rw [hnum, numV_t hres hsm (h48 rfl)]; rfl⟩ | exact ⟨_, resR2 (res1_tmp rfl) (res1_tmp rfl), hX, by rw [hnum, numV_f hres hsm]; rfl⟩
              · have h48 : ng = true → ¬ v = [48] := fun h => by have : ng = false := hg38; rw [h] at this; cases this
                refine wl_no rfl (congrArg Value.bool hg38) ?_
                refine wl_no rfl (congrArg Value.bool hg38) ?_
                refine wl_yes rfl (congrArg Value.bool hg36) ?_
                refine wl_val (rn_pickF (congrArg Value.bool hg38) (by conv => lhs; whnf)) ?_
                refine wl_val (rn_pickF (congrArg Value.bool hg36) (by conv => lhs; whnf)) ?_
                refine wl_nil ?_
                refine W_condF rfl ?_
                refine W_skip ?_
                refine W_seq ?_
                refine W_region ?_
                refine wl_val (rn_assign (by conv => lhs; whnf)) ?_
                refine wl_nil ?_
                refine W_seq ?_
                refine W_seq ?_
                refine W_region ?_
                refine wl_val (rn_assign (by conv => lhs; whnf)) ?_
                refine wl_nil ?_
                refine W_block ?_   -- block 0
                refine W_loopS (S := Nat × Nat) [0, 4, 5, 6] (fun ⟨i, n⟩ => [Sv v, .bool ng, .int .i64 (n : Nat), .int .i64 (i : Nat)]) (fun ⟨i, n⟩ A => (Ext Non w A) ∧ (i ≤ v.length ∧ n < 10 ^ i ∧ Lib.decFrom 0 v = Lib.decFrom n (v.drop i))) (fun ⟨i, n⟩ => v.length - i) (0, 0) ⟨rfl, rfl, rfl, rfl, trivial⟩ ⟨hX, ⟨Nat.zero_le _, by decide, rfl⟩⟩ ?_
                rintro τ0 ⟨i, n⟩ A0 ⟨hX, hI0⟩
                obtain ⟨hI, hni, hU⟩ := hI0
                refine W_seq ?_
                refine W_seq ?_
                refine W_region ?_
                refine wl_val (rn_move (by conv => lhs; whnf)) ?_
                refine wl_val (rn_move (by conv => lhs; whnf)) ?_
                refine wl_val (rn_slen us_9 rfl) ?_
                refine wl_val (rn_lss rfl rfl) ?_
                refine wl_nil ?_
                refine W_cond rfl (fun hc2 => ?_) (fun hc2 => ?_)
                · have hlt := of_decide_eq_true hc2; simp only [Int.ofNat_lt] at hlt
                  obtain ⟨c, hcc⟩ : ∃ c, (v)[i]? = some c := ⟨_, List.getElem?_eq_getElem hlt⟩
                  have hx8 := c.toNat_lt
                  have hst := decFrom_at (n := n) hcc
                  have hp7 : n ≤ 9999999 := by have : 10 ^ i ≤ 10 ^ 7 := Nat.pow_le_pow_right (by decide) (by omega); omega
                  refine W_skip ?_
                  refine W_seq ?_
                  refine W_block ?_   -- block 1
                  refine W_seq ?_
                  refine W_seq ?_
                  refine W_region ?_
                  refine wl_val (rn_move (by conv => lhs; whnf)) ?_
                  refine wl_val (rn_move (by conv => lhs; whnf)) ?_
                  refine wl_val (rn_sindex us_9 rfl rfl (by omega) hcc) ?_
                  refine wl_val (rn_lss rfl rfl) ?_
                  refine wl_val (rn_move (by conv => lhs; whnf)) ?_
                  refine wl_split (d := 53) rfl (fun hg53 => ?_) (fun hg53 => ?_)
                  · have q5 := of_decide_eq_true hg53
                    have hno : natM v = none := by rw [hval, hU, hst, digitVal_no (by omega)]
                    refine wl_no rfl (congrArg Value.bool hg53) ?_
                    refine wl_no rfl (congrArg Value.bool hg53) ?_
                    refine wl_no rfl (congrArg Value.bool hg53) ?_
                    refine wl_no rfl (congrArg Value.bool hg53) ?_
                    refine wl_val (rn_pickT (congrArg Value.bool hg53) (by conv => lhs; whnf)) ?_
                    refine wl_nil ?_
                    refine W_condT rfl ?_
                    refine W_seq ?_
                    refine W_region ?_
                    refine wl_val (rn_assign (by conv => lhs; whnf)) ?_
                    refine wl_val (rn_assign (by conv => lhs; whnf)) ?_
                    refine wl_nil ?_
                    refine W_ret ?_
                    first | exact ⟨_, resR2 (res1_tmp rfl) (res1_tmp rfl), hX, by rw [hnum, numV_none hno]; rfl⟩ | exact ⟨_, resR2 (res1_tmp rfl) (res1_tmp rfl), hX, by rw [hnum, numV_48 hngT (of_decide_eq_true hc1)]; rfl⟩ | exact ⟨_, resR2 (res1_tmp rfl) (res1_tmp rfl), hX, by rw [hnum, numV_big hres hbig]; rfl⟩ | exact ⟨_, resR2 (res1_tmp rfl) (res1_tmp rfl), hX, by rw [hnum, numV_t hres hsm (h48 rfl)]; rfl⟩ | exact ⟨_, resR2 (res1_tmp rfl) (res1_tmp rfl), hX, by rw [hnum, numV_f hres hsm]; rfl⟩
                  · have q5 := of_decide_eq_false hg53
                    refine wl_yes rfl (congrArg Value.bool hg53) ?_
                    refine wl_val (rn_move (by conv => lhs; whnf)) ?_
                    refine wl_yes rfl (congrArg Value.bool hg53) ?_
                    refine wl_val (rn_move (by conv => lhs; whnf)) ?_
                    refine wl_yes rfl (congrArg Value.bool hg53) ?_
                    refine wl_val (rn_sindex us_9 rfl rfl (by omega) hcc) ?_
                    refine wl_yes rfl (congrArg Value.bool hg53) ?_
                    refine wl_val (rn_gtr rfl rfl) ?_
                    refine wl_val (rn_pickF (congrArg Value.bool hg53) (by conv => lhs; whnf)) ?_
                    refine wl_nil ?_
                    refine W_cond rfl (fun hc3 => ?_) (fun hc3 => ?_)
                    · have q6 := of_decide_eq_true hc3
                      have hno : natM v = none := by rw [hval, hU, hst, digitVal_no (by omega)]
                      refine W_seq ?_
                      refine W_region ?_
                      refine wl_val (rn_assign (by conv => lhs; whnf)) ?_
                      refine wl_val (rn_assign (by conv => lhs; whnf)) ?_
                      refine wl_nil ?_
                      refine W_ret ?_
                      first | exact ⟨_, resR2 (res1_tmp rfl) (res1_tmp rfl), hX, by rw [hnum, numV_none hno]; rfl⟩ | exact ⟨_, resR2 (res1_tmp rfl) (res1_tmp rfl), hX, by rw [hnum, numV_48 hngT (of_decide_eq_true hc1)]; rfl⟩ | exact ⟨_, resR2 (res1_tmp rfl) (res1_tmp rfl), hX, by rw [hnum, numV_big hres hbig]; rfl⟩ | exact ⟨_, resR2 (res1_tmp rfl) (res1_tmp rfl), hX, by rw [hnum, numV_t hres hsm (h48 rfl)]; rfl⟩ | exact ⟨_, resR2 (res1_tmp rfl) (res1_tmp rfl), hX, by rw [hnum, numV_f hres hsm]; rfl⟩
                    · have q6 := of_decide_eq_false hc3
                      rw [digitVal_yes (by omega)] at hst
                      refine W_skip ?_
                      refine W_region ?_
                      refine wl_val (rn_move (by conv => lhs; whnf)) ?_
                      refine wl_val (rn_mul rfl rfl (by omega)) ?_
                      refine wl_val (rn_move (by conv => lhs; whnf)) ?_
                      refine wl_val (rn_move (by conv => lhs; whnf)) ?_
                      refine wl_val (rn_sindex us_9 rfl rfl (by omega) hcc) ?_
                      refine wl_val (rn_convert ui_5 ui_3 rfl (wrap_id (by omega))) ?_
                      refine wl_val (rn_add rfl rfl (by omega)) ?_
                      refine wl_val (Rn.cast (rn_sub rfl rfl (by omega)) (v' := .int .i64 ((n * 10 + (c.toNat - 48) : Nat) : Int)) (congrArg (Value.int .i64) (by omega))) ?_
                      refine wl_val (rn_assign (by conv => lhs; whnf)) ?_
                      refine wl_nil ?_
                      refine W_region ?_
                      refine wl_val (rn_move (by conv => lhs; whnf)) ?_
                      refine wl_val (rn_add rfl rfl (by omega)) ?_
                      refine wl_val (rn_assign (by conv => lhs; whnf)) ?_
                      refine wl_nil ?_
                      exact ⟨rfl, (i + 1, n * 10 + (c.toNat - 48)), ⟨rfl, rfl, rfl, rfl, trivial⟩, ⟨hX, ⟨hlt, by rw [Nat.pow_succ]; omega, by rw [hU, hst]⟩⟩, by show v.length - (i + 1) < v.length - i; omega⟩
                · have hge := of_decide_eq_false hc2; simp only [Int.ofNat_lt, Nat.not_lt] at hge
                  have hres : natM v = some n := by rw [hval, hU, List.drop_of_length_le hge]; rfl
                  have hp7 : n ≤ 9999999 := by have : 10 ^ i ≤ 10 ^ 7 := Nat.pow_le_pow_right (by decide) (by omega); omega
                  refine W_exit ?_   -- exit 0
                  refine W_seq ?_
                  refine W_seq ?_
                  refine W_region ?_
                  refine wl_val (rn_move (by conv => lhs; whnf)) ?_
                  refine wl_val (rn_gtr rfl rfl) ?_
                  refine wl_nil ?_
                  refine W_cond rfl (fun hc4 => ?_) (fun hc4 => ?_)
                  · have q7 := of_decide_eq_true hc4
                    have hbig : ¬ n ≤ 1000000 := by omega
                    refine W_seq ?_
                    refine W_region ?_
                    refine wl_val (rn_assign (by conv => lhs; whnf)) ?_
                    refine wl_val (rn_assign (by conv => lhs; whnf)) ?_
                    refine wl_nil ?_
                    refine W_ret ?_
                    first | exact ⟨_, resR2 (res1_tmp rfl) (res1_tmp rfl), hX, by rw [hnum, numV_none hno]; rfl⟩ | exact ⟨_, resR2 (res1_tmp rfl) (res1_tmp rfl), hX, by rw [hnum, numV_48 hngT (of_decide_eq_true hc1)]; rfl⟩ | exact ⟨_, resR2 (res1_tmp rfl) (res1_tmp rfl), hX, by rw [hnum, numV_big hres hbig]; rfl⟩ | exact ⟨_, resR2 (res1_tmp rfl) (res1_tmp rfl), hX, by rw [hnum, numV_t hres hsm (h48 rfl)]; rfl⟩ | exact ⟨_, resR2 (res1_tmp rfl) (res1_tmp rfl), hX, by rw [hnum, numV_f hres hsm]; rfl⟩
                  · have q7 := of_decide_eq_false hc4
                    have hsm : n ≤ 1000000 := by omega
                    refine W_skip ?_
                    refine W_seq ?_
                    refine W_seq ?_
                    refine W_region ?_
                    refine wl_val (rn_move (by conv => lhs; whnf)) ?_
                    refine wl_nil ?_
                    refine W_cond rfl (fun hc5 => ?_) (fun hc5 => ?_)
                    · obtain rfl : ng = true := hc5
                      refine W_region ?_
                      refine wl_val (rn_move (by conv => lhs; whnf)) ?_
                      refine wl_val (rn_neg rfl (by omega)) ?_
                      refine wl_val (rn_assign (by conv => lhs; whnf)) ?_
                      refine wl_nil ?_
                      refine W_seq ?_
                      refine W_region ?_
                      refine wl_val (rn_move (by conv => lhs; whnf)) ?_
                      refine wl_val (rn_assign (by conv => lhs; whnf)) ?_
                      refine wl_val (rn_assign (by conv => lhs; whnf)) ?_
                      refine wl_nil ?_
                      refine W_ret ?_
                      first | exact ⟨_, resR2 (res1_tmp rfl) (res1_tmp rfl), hX, by rw [hnum, numV_none hno]; rfl⟩ | exact ⟨_, resR2 (res1_tmp rfl) (res1_tmp rfl), hX, by rw [hnum, numV_48 hngT (of_decide_eq_true hc1)]; rfl⟩ | exact ⟨_, resR2 (res1_tmp rfl) (res1_tmp rfl), hX, by rw [hnum, numV_big hres hbig]; rfl⟩ | exact ⟨_, resR2 (res1_tmp rfl) (res1_tmp rfl), hX, by rw [hnum, numV_t hres hsm (h48 rfl)]; rfl⟩ | exact ⟨_, resR2 (res1_tmp rfl) (res1_tmp rfl), hX, by rw [hnum, numV_f hres hsm]; rfl⟩
                    · obtain rfl : ng = false := hc5
                      refine W_skip ?_
                      refine W_seq ?_
                      refine W_region ?_
                      refine wl_val (rn_move (by conv => lhs; whnf)) ?_
                      refine wl_val (rn_assign (by conv => lhs; whnf)) ?_
                      refine wl_val (rn_assign (by conv => lhs; whnf)) ?_
                      refine wl_nil ?_
                      refine W_ret ?_
                      first | exact ⟨_, resR2 (res1_tmp rfl) (res1_tmp rfl), hX, by rw [hnum, numV_none hno]; rfl⟩ | exact ⟨_, resR2 (res1_tmp rfl) (res1_tmp rfl), hX, by rw [hnum, numV_48 hngT (of_decide_eq_true hc1)]; rfl⟩ | exact ⟨_, resR2 (res1_tmp rfl) (res1_tmp rfl), hX, by rw [hnum, numV_big hres hbig]; rfl⟩ | exact ⟨_, resR2 (res1_tmp rfl) (res1_tmp rfl), hX, by rw [hnum, numV_t hres hsm (h48 rfl)]; rfl⟩ | exact ⟨_, resR2 (res1_tmp rfl) (res1_tmp rfl), hX, by rw [hnum, numV_f hres hsm]; rfl⟩
          · have q3 := of_decide_eq_false hg30
            have hval : natM v = Lib.decFrom 0 v := if_neg (by rintro (h | h | ⟨h, h2⟩); omega; omega; omega)
            refine wl_no rfl (congrArg Value.bool hg30) ?_
            refine wl_no rfl (congrArg Value.bool hg30) ?_
            refine wl_no rfl (congrArg Value.bool hg30) ?_
            refine wl_yes rfl (congrArg Value.bool hg26) ?_
            refine wl_val (rn_pickF (congrArg Value.bool hg30) (by conv => lhs; whnf)) ?_
            refine wl_val (rn_pickF (congrArg Value.bool hg26) (by conv => lhs; whnf)) ?_
            refine wl_val (rn_move (by conv => lhs; whnf)) ?_
            refine wl_yes rfl rfl ?_
            refine wl_val (rn_move (by conv => lhs; whnf)) ?_
            refine wl_yes rfl rfl ?_
            refine wl_val (rn_move (by conv => lhs; whnf)) ?_
            refine wl_split (d := 38) rfl (fun hg38 => ?_) (fun hg38 => ?_)
            · have hngT : ng = true := hg38
              refine wl_yes rfl (congrArg Value.bool hg38) ?_
              refine wl_val (rn_move (by conv => lhs; whnf)) ?_
              refine wl_yes rfl (congrArg Value.bool hg38) ?_
              refine wl_val (rn_seql rfl rfl) ?_
              refine wl_yes rfl rfl ?_
              refine wl_val (rn_pickT (congrArg Value.bool hg38) (by conv => lhs; whnf)) ?_
              refine wl_val (rn_pickF rfl (by conv => lhs; whnf)) ?_
              refine wl_nil ?_
              refine W_cond rfl (fun hc1 => ?_) (fun hc1 => ?_)
              · refine W_seq ?_
                refine W_region ?_
                refine wl_val (rn_assign (by conv => lhs; whnf)) ?_
                refine wl_val (rn_assign (by conv => lhs; whnf)) ?_
                refine wl_nil ?_
                refine W_ret ?_
                first | exact ⟨_, resR2 (res1_tmp rfl) (res1_tmp rfl), hX, by rw [hnum, numV_none hno]; rfl⟩ | exact ⟨_, resR2 (res1_tmp rfl) (res1_tmp rfl), hX, by rw [hnum, numV_48 hngT (of_decide_eq_true hc1)]; rfl⟩ | exact ⟨_, resR2 (res1_tmp rfl) (res1_tmp rfl), hX, by rw [hnum, numV_big hres hbig]; rfl⟩ | exact ⟨_, resR2 (res1_tmp rfl) (res1_tmp rfl), hX, by rw [hnum, numV_t hres hsm (h48 rfl)]; rfl⟩ | exact ⟨_, resR2 (res1_tmp rfl) (res1_tmp rfl), hX, by rw [hnum, numV_f hres hsm]; rfl⟩
              · have h48 : ng = true → ¬ v = [48] := fun _ => of_decide_eq_false hc1
                refine W_skip ?_
                refine W_seq ?_
                refine W_region ?_
                refine wl_val (rn_assign (by conv => lhs; whnf)) ?_
                refine wl_nil ?_
                refine W_seq ?_
                refine W_seq ?_
                refine W_region ?_
                refine wl_val (rn_assign (by conv => lhs; whnf)) ?_
                refine wl_nil ?_
                refine W_block ?_   -- block 0
                refine W_loopS (S := Nat × Nat) [0, 4, 5, 6] (fun ⟨i, n⟩ => [Sv v, .bool ng, .int .i64 (n : Nat), .int .i64 (i : Nat)]) (fun ⟨i, n⟩ A => (Ext Non w A) ∧ (i ≤ v.length ∧ n < 10 ^ i ∧ Lib.decFrom 0 v = Lib.decFrom n (v.drop i))) (fun ⟨i, n⟩ => v.length - i) (0, 0) ⟨rfl, rfl, rfl, rfl, trivial⟩ ⟨hX, ⟨Nat.zero_le _, by decide, rfl⟩⟩ ?_
                rintro τ0 ⟨i, n⟩ A0 ⟨hX, hI0⟩
                obtain ⟨hI, hni, hU⟩ := hI0
                refine W_seq ?_
                refine W_seq ?_
                refine W_region ?_
                refine wl_val (rn_move (by conv => lhs; whnf)) ?_
                refine wl_val (rn_move (by conv => lhs; whnf)) ?_
                refine wl_val (rn_slen us_9 rfl) ?_
                refine wl_val (rn_lss rfl rfl) ?_
                refine wl_nil ?_
                refine W_cond rfl (fun hc2 => ?_) (fun hc2 => ?_)
                · have hlt := of_decide_eq_true hc2; simp only [Int.ofNat_lt] at hlt
                  obtain ⟨c, hcc⟩ : ∃ c, (v)[i]? = some c := ⟨_, List.getElem?_eq_getElem hlt⟩
                  have hx8 := c.toNat_lt
                  have hst := decFrom_at (n := n) hcc
                  have hp7 : n ≤ 9999999 := by have : 10 ^ i ≤ 10 ^ 7 := Nat.pow_le_pow_right (by decide) (by omega); omega
                  refine W_skip ?_
                  refine W_seq ?_
                  refine W_block ?_   -- block 1
                  refine W_seq ?_
                  refine W_seq ?_
                  refine W_region ?_
                  refine wl_val (rn_move (by conv => lhs; whnf)) ?_
                  refine wl_val (rn_move (by conv => lhs; whnf)) ?_
                  refine wl_val (rn_sindex us_9 rfl rfl (by omega) hcc) ?_
                  refine wl_val (rn_lss rfl rfl) ?_
                  refine wl_val (rn_move (by conv => lhs; whnf)) ?_
                  refine wl_split (d := 53) rfl (fun hg53 => ?_) (fun hg53 => ?_)
                  · have q5 := of_decide_eq_true hg53
                    have hno : natM v = none := by rw [hval, hU, hst, digitVal_no (by omega)]
                    refine wl_no rfl (congrArg Value.bool hg53) ?_
                    refine wl_no rfl (congrArg Value.bool hg53) ?_
                    refine wl_no rfl (congrArg Value.bool hg53) ?_
                    refine wl_no rfl (congrArg Value.bool hg53) ?_
                    refine wl_val (rn_pickT (congrArg Value.bool hg53) (by conv => lhs; whnf)) ?_
                    refine wl_nil ?_
                    refine W_condT rfl ?_
                    refine W_seq ?_
                    refine W_region ?_
                    refine wl_val (rn_assign (by conv => lhs; whnf)) ?_
                    refine wl_val (rn_assign (by conv => lhs; whnf)) ?_
                    refine wl_nil ?_
                    refine W_ret ?_
                    first | exact ⟨_, resR2 (res1_tmp rfl) (res1_tmp rfl), hX, by rw [hnum, numV_none hno]; rfl⟩ | exact ⟨_, resR2 (res1_tmp rfl) (res1_tmp rfl), hX, by rw [hnum, numV_48 hngT (of_decide_eq_true hc1)]; rfl⟩ | exact ⟨_, resR2 (res1_tmp rfl) (res1_tmp rfl), hX, by rw [hnum, numV_big hres hbig]; rfl⟩ | exact ⟨_, resR2 (res1_tmp rfl) (res1_tmp rfl), hX, by rw [hnum, numV_t hres hsm (h48 rfl)]; rfl⟩ | exact ⟨_, resR2 (res1_tmp rfl) (res1_tmp rfl), hX, by rw [hnum, numV_f hres hsm]; rfl⟩
                  · have q5 := of_decide_eq_false hg53
                    refine wl_yes rfl (congrArg Value.bool hg53) ?_
                    refine wl_val (rn_move (by conv => lhs; whnf)) ?_
                    refine wl_yes rfl (congrArg Value.bool hg53) ?_
                    refine wl_val (rn_move (by conv => lhs; whnf)) ?_
                    refine wl_yes rfl (congrArg Value.bool hg53) ?_
                    refine wl_val (rn_sindex us_9 rfl rfl (by omega) hcc) ?_
                    refine wl_yes rfl (congrArg Value.bool hg53) ?_
                    refine wl_val (rn_gtr rfl rfl) ?_
                    refine wl_val (rn_pickF (congrArg Value.bool hg53) (by conv => lhs; whnf)) ?_
                    refine wl_nil ?_
                    refine W_cond rfl (fun hc3 => ?_) (fun hc3 => ?_)
                    · have q6 := of_decide_eq_true hc3
                      have hno : natM v = none := by rw [hval, hU, hst, digitVal_no (by omega)]
                      refine W_seq ?_
                      refine W_region ?_
                      refine wl_val (rn_assign (by conv => lhs; whnf)) ?_
                      refine wl_val (rn_assign (by conv => lhs; whnf)) ?_
                      refine wl_nil ?_
                      refine W_ret ?_
                      first | exact ⟨_, resR2 (res1_tmp rfl) (res1_tmp rfl), hX, by rw [hnum, numV_none hno]; rfl⟩ | exact ⟨_, resR2 (res1_tmp rfl) (res1_tmp rfl), hX, by rw [hnum, numV_48 hngT (of_decide_eq_true hc1)]; rfl⟩ | exact ⟨_, resR2 (res1_tmp rfl) (res1_tmp rfl), hX, by rw [hnum, numV_big hres hbig]; rfl⟩ | exact ⟨_, resR2 (res1_tmp rfl) (res1_tmp rfl), hX, by rw [hnum, numV_t hres hsm (h48 rfl)]; rfl⟩ | exact ⟨_, resR2 (res1_tmp rfl) (res1_tmp rfl), hX, by rw [hnum, numV_f hres hsm]; rfl⟩
                    · have q6 := of_decide_eq_false hc3
                      rw [digitVal_yes (by omega)] at hst
                      refine W_skip ?_
                      refine W_region ?_
                      refine wl_val (rn_move (by conv => lhs; whnf)) ?_
                      refine wl_val (rn_mul rfl rfl (by omega)) ?_
                      refine wl_val (rn_move (by conv => lhs; whnf)) ?_
                      refine wl_val (rn_move (by conv => lhs; whnf)) ?_
                      refine wl_val (rn_sindex us_9 rfl rfl (by omega) hcc) ?_
                      refine wl_val (rn_convert ui_5 ui_3 rfl (wrap_id (by omega))) ?_
                      refine wl_val (rn_add rfl rfl (by omega)) ?_
                      refine wl_val (Rn.cast (rn_sub rfl rfl (by omega)) (v' := .int .i64 ((n * 10 + (c.toNat - 48) : Nat) : Int)) (congrArg (Value.int .i64) (by omega))) ?_
                      refine wl_val (rn_assign (by conv => lhs; whnf)) ?_
                      refine wl_nil ?_
                      refine W_region ?_
                      refine wl_val (rn_move (by conv => lhs; whnf)) ?_
                      refine wl_val (rn_add rfl rfl (by omega)) ?_
                      refine wl_val (rn_assign (by conv => lhs; whnf)) ?_
                      refine wl_nil ?_
                      exact ⟨rfl, (i + 1, n * 10 + (c.toNat - 48)), ⟨rfl, rfl, rfl, rfl, trivial⟩, ⟨hX, ⟨hlt, by rw [Nat.pow_succ]; omega, by rw [hU, hst]⟩⟩, by show v.length - (i + 1) < v.length - i; omega⟩
                · have hge := of_decide_eq_false hc2; simp only [Int.ofNat_lt, Nat.not_lt] at hge
                  have hres : natM v = some n := by rw [hval, hU, List.drop_of_length_le hge]; rfl
                  have hp7 : n ≤ 9999999 := by have : 10 ^ i ≤ 10 ^ 7 := Nat.pow_le_pow_right (by decide) (by omega); omega
                  refine W_exit ?_   -- exit 0
                  refine W_seq ?_
                  refine W_seq ?_
                  refine W_region ?_
                  refine wl_val (rn_move (by conv => lhs; whnf)) ?_
                  refine wl_val (rn_gtr rfl rfl) ?_
                  refine wl_nil ?_
                  refine W_cond rfl (fun hc4 => ?_) (fun hc4 => ?_)
                  · have q7 := of_decide_eq_true hc4
                    have hbig : ¬ n ≤ 1000000 := by omega
                    refine W_seq ?_
                    refine W_region ?_
                    refine wl_val (rn_assign (by conv => lhs; whnf)) ?_
                    refine wl_val (rn_assign (by conv => lhs; whnf)) ?_
                    refine wl_nil ?_
                    refine W_ret ?_
                    first | exact ⟨_, resR2 (res1_tmp rfl) (res1_tmp rfl), hX, by rw [hnum, numV_none hno]; rfl⟩ | exact ⟨_, resR2 (res1_tmp rfl) (res1_tmp rfl), hX, by rw [hnum, numV_48 hngT (of_decide_eq_true hc1)]; rfl⟩ | exact ⟨_, resR2 (res1_tmp rfl) (res1_tmp rfl), hX, by rw [hnum, numV_big hres hbig]; rfl⟩ | exact ⟨_, resR2 (res1_tmp rfl) (res1_tmp rfl), hX, by rw [hnum, numV_t hres hsm (h48 rfl)]; rfl⟩ | exact ⟨_, resR2 (res1_tmp rfl) (res1_tmp rfl), hX, by rw [hnum, numV_f hres hsm]; rfl⟩
                  · have q7 := of_decide_eq_false hc4
                    have hsm : n ≤ 1000000 := by omega
                    refine W_skip ?_
                    refine W_seq ?_
                    refine W_seq ?_
                    refine W_region ?_
                    refine wl_val (rn_move (by conv => lhs; whnf)) ?_
                    refine wl_nil ?_
                    refine W_cond rfl (fun hc5 => ?_) (fun hc5 => ?_)
                    · obtain rfl : ng = true := hc5
                      refine W_region ?_
                      refine wl_val (rn_move (by conv => lhs; whnf)) ?_
                      refine wl_val (rn_neg rfl (by omega)) ?_
                      refine wl_val (rn_assign (by conv => lhs; whnf)) ?_
                      refine wl_nil ?_
                      refine W_seq ?_
                      refine W_region ?_
                      refine wl_val (rn_move (by conv => lhs; whnf)) ?_
                      refine wl_val (rn_assign (by conv => lhs; whnf)) ?_
                      refine wl_val (rn_assign (by conv => lhs; whnf)) ?_
                      refine wl_nil ?_
                      refine W_ret ?_
                      first | exact ⟨_, resR2 (res1_tmp rfl) (res1_tmp rfl), hX, by rw [hnum, numV_none hno]; rfl⟩ | exact ⟨_, resR2 (res1_tmp rfl) (res1_tmp rfl), hX, by rw [hnum, numV_48 hngT (of_decide_eq_true hc1)]; rfl⟩ | exact ⟨_, resR2 (res1_tmp rfl) (res1_tmp rfl), hX, by rw [hnum, numV_big hres hbig]; rfl⟩ | exact ⟨_, resR2 (res1_tmp rfl) (res1_tmp rfl), hX, by rw [hnum, numV_t hres hsm (h48 rfl)]; rfl⟩ | exact ⟨_, resR2 (res1_tmp rfl) (res1_tmp rfl), hX, by rw [hnum, numV_f hres hsm]; rfl⟩
                    · obtain rfl : ng = false := hc5
                      refine W_skip ?_
                      refine W_seq ?_
                      refine W_region ?_
                      refine wl_val (rn_move (by conv => lhs; whnf)) ?_
                      refine wl_val (rn_assign (by conv => lhs; whnf)) ?_
                      refine wl_val (rn_assign (by conv => lhs; whnf)) ?_
                      refine wl_nil ?_
                      refine W_ret ?_
                      first | exact ⟨_, resR2 (res1_tmp rfl) (res1_tmp rfl), hX, by rw [hnum, numV_none hno]; rfl⟩ | exact ⟨_, resR2 (res1_tmp rfl) (res1_tmp rfl), hX, by rw [hnum, numV_48 hngT (of_decide_eq_true hc1)]; rfl⟩ | exact ⟨_, resR2 (res1_tmp rfl) (res1_tmp rfl), hX, by rw [hnum, numV_big hres hbig]; rfl⟩ | exact ⟨_, resR2 (res1_tmp rfl) (res1_tmp rfl), hX, by rw [hnum, numV_t hres hsm (h48 rfl)]; rfl⟩ | exact ⟨_, resR2 (res1_tmp rfl) (res1_tmp rfl), hX, by rw [hnum, numV_f hres hsm]; rfl⟩
            · have h48 : ng = true → ¬ v = [48] := fun h => by have : ng = false := hg38; rw [h] at this; cases this
              refine wl_no rfl (congrArg Value.bool hg38) ?_
              refine wl_no rfl (congrArg Value.bool hg38) ?_
              refine wl_yes rfl rfl ?_
              refine wl_val (rn_pickF (congrArg Value.bool hg38) (by conv => lhs; whnf)) ?_
              refine wl_val (rn_pickF rfl (by conv => lhs; whnf)) ?_
              refine wl_nil ?_
              refine W_condF rfl ?_
              refine W_skip ?_
              refine W_seq ?_
              refine W_region ?_
              refine wl_val (rn_assign (by conv => lhs; whnf)) ?_
              refine wl_nil ?_
              refine W_seq ?_
              refine W_seq ?_
              refine W_region ?_
              refine wl_val (rn_assign (by conv => lhs; whnf)) ?_
              refine wl_nil ?_
              refine W_block ?_   -- block 0
              refine W_loopS (S := Nat × Nat) [0, 4, 5, 6] (fun ⟨i, n⟩ => [Sv v, .bool ng, .int .i64 (n : Nat), .int .i64 (i : Nat)]) (fun ⟨i, n⟩ A => (Ext Non w A) ∧ (i ≤ v.length ∧ n < 10 ^ i ∧ Lib.decFrom 0 v = Lib.decFrom n (v.drop i))) (fun ⟨i, n⟩ => v.length - i) (0, 0) ⟨rfl, rfl, rfl, rfl, trivial⟩ ⟨hX, ⟨Nat.zero_le _, by decide, rfl⟩⟩ ?_
              rintro τ0 ⟨i, n⟩ A0 ⟨hX, hI0⟩
              obtain ⟨hI, hni, hU⟩ := hI0
              refine W_seq ?_
              refine W_seq ?_
              refine W_region ?_
              refine wl_val (rn_move (by conv => lhs; whnf)) ?_
              refine wl_val (rn_move (by conv => lhs; whnf)) ?_
              refine wl_val (rn_slen us_9 rfl) ?_
              refine wl_val (rn_lss rfl rfl) ?_
              refine wl_nil ?_
              refine W_cond rfl (fun hc2 => ?_) (fun hc2 => ?_)
              · have hlt := of_decide_eq_true hc2; simp only [Int.ofNat_lt] at hlt
                obtain ⟨c, hcc⟩ : ∃ c, (v)[i]? = some c := ⟨_, List.getElem?_eq_getElem hlt⟩
                have hx8 := c.toNat_lt
                have hst := decFrom_at (n := n) hcc
                have hp7 : n ≤ 9999999 := by have : 10 ^ i ≤ 10 ^ 7 := Nat.pow_le_pow_right (by decide) (by omega); omega
                refine W_skip ?_
                refine W_seq ?_
                refine W_block ?_   -- block 1
                refine W_seq ?_
                refine W_seq ?_
                refine W_region ?_
                refine wl_val (rn_move (by conv => lhs; whnf)) ?_
                refine wl_val (rn_move (by conv => lhs; whnf)) ?_
                refine wl_val (rn_sindex us_9 rfl rfl (by omega) hcc) ?_
                refine wl_val (rn_lss rfl rfl) ?_
                refine wl_val (rn_move (by conv => lhs; whnf)) ?_
                refine wl_split (d := 53) rfl (fun hg53 => ?_) (fun hg53 => ?_)
                · have q5 := of_decide_eq_true hg53
                  have hno : natM v = none := by rw [hval, hU, hst, digitVal_no (by omega)]
                  refine wl_no rfl (congrArg Value.bool hg53) ?_
                  refine wl_no rfl (congrArg Value.bool hg53) ?_
                  refine wl_no rfl (congrArg Value.bool hg53) ?_
                  refine wl_no rfl (congrArg Value.bool hg53) ?_
                  refine wl_val (rn_pickT (congrArg Value.bool hg53) (by conv => lhs; whnf)) ?_
                  refine wl_nil ?_
                  refine W_condT rfl ?_
                  refine W_seq ?_
                  refine W_region ?_
                  refine wl_val (rn_assign (by conv => lhs; whnf)) ?_
                  refine wl_val (rn_assign (by conv => lhs; whnf)) ?_
                  refine wl_nil ?_
                  refine W_ret ?_
                  first | exact ⟨_, resR2 (res1_tmp rfl) (res1_tmp rfl), hX, by rw [hnum, numV_none hno]; rfl⟩ | exact ⟨_, resR2 (res1_tmp rfl) (res1_tmp rfl), hX, by rw [hnum, numV_48 hngT (of_decide_eq_true hc1)]; rfl⟩ | exact ⟨_, resR2 (res1_tmp rfl) (res1_tmp rfl), hX, by rw [hnum, numV_big hres hbig]; rfl⟩ | exact ⟨_, resR2 (res1_tmp rfl) (res1_tmp rfl), hX, by rw [hnum, numV_t hres hsm (h48 rfl)]; rfl⟩ | exact ⟨_, resR2 (res1_tmp rfl) (res1_tmp rfl), hX, by rw [hnum, numV_f hres hsm]; rfl⟩
                · have q5 := of_decide_eq_false hg53
                  refine wl_yes rfl (congrArg Value.bool hg53) ?_
                  refine wl_val (rn_move (by conv => lhs; whnf)) ?_
                  refine wl_yes rfl (congrArg Value.bool hg53) ?_
                  refine wl_val (rn_move (by conv => lhs; whnf)) ?_
                  refine wl_yes rfl (congrArg Value.bool hg53) ?_
                  refine wl_val (rn_sindex us_9 rfl rfl (by omega) hcc) ?_
                  refine wl_yes rfl (congrArg Value.bool hg53) ?_
                  refine wl_val (rn_gtr rfl rfl) ?_
                  refine wl_val (rn_pickF (congrArg Value.bool hg53) (by conv => lhs; whnf)) ?_
                  refine wl_nil ?_
                  refine W_cond rfl (fun hc3 => ?_) (fun hc3 => ?_)
                  · have q6 := of_decide_eq_true hc3
                    have hno : natM v = none := by rw [hval, hU, hst, digitVal_no (by omega)]
                    refine W_seq ?_
                    refine W_region ?_
                    refine wl_val (rn_assign (by conv => lhs; whnf)) ?_
                    refine wl_val (rn_assign (by conv => lhs; whnf)) ?_
                    refine wl_nil ?_
                    refine W_ret ?_
                    first | exact ⟨_, resR2 (res1_tmp rfl) (res1_tmp rfl), hX, by rw [hnum, numV_none hno]; rfl⟩ | exact ⟨_, resR2 (res1_tmp rfl) (res1_tmp rfl), hX, by rw [hnum, numV_48 hngT (of_decide_eq_true hc1)]; rfl⟩ | exact ⟨_, resR2 (res1_tmp rfl) (res1_tmp rfl), hX, by rw [hnum, numV_big hres hbig]; rfl⟩ | exact ⟨_, resR2 (res1_tmp rfl) (res1_tmp rfl), hX, by rw [hnum, numV_t hres hsm (h48 rfl)]; rfl⟩ | exact ⟨_, resR2 (res1_tmp rfl) (res1_tmp rfl), hX, by rw [hnum, numV_f hres hsm]; rfl⟩
                  · have q6 := of_decide_eq_false hc3
                    rw [digitVal_yes (by omega)] at hst
                    refine W_skip ?_
                    refine W_region ?_
                    refine wl_val (rn_move (by conv => lhs; whnf)) ?_
                    refine wl_val (rn_mul rfl rfl (by omega)) ?_
                    refine wl_val (rn_move (by conv => lhs; whnf)) ?_
                    refine wl_val (rn_move (by conv => lhs; whnf)) ?_
                    refine wl_val (rn_sindex us_9 rfl rfl (by omega) hcc) ?_
                    refine wl_val (rn_convert ui_5 ui_3 rfl (wrap_id (by omega))) ?_
                    refine wl_val (rn_add rfl rfl (by omega)) ?_
                    refine wl_val (Rn.cast (rn_sub rfl rfl (by omega)) (v' := .int .i64 ((n * 10 + (c.toNat - 48) : Nat) : Int)) (congrArg (Value.int .i64) (by omega))) ?_
                    refine wl_val (rn_assign (by conv => lhs; whnf)) ?_
                    refine wl_nil ?_
                    refine W_region ?_
                    refine wl_val (rn_move (by conv => lhs; whnf)) ?_
                    refine wl_val (rn_add rfl rfl (by omega)) ?_
                    refine wl_val (rn_assign (by conv => lhs; whnf)) ?_
                    refine wl_nil ?_
                    exact ⟨rfl, (i + 1, n * 10 + (c.toNat - 48)), ⟨rfl, rfl, rfl, rfl, trivial⟩, ⟨hX, ⟨hlt, by rw [Nat.pow_succ]; omega, by rw [hU, hst]⟩⟩, by show v.length - (i + 1) < v.length - i; omega⟩
              · have hge := of_decide_eq_false hc2; simp only [Int.ofNat_lt, Nat.not_lt] at hge
                have hres : natM v = some n := by rw [hval, hU, List.drop_of_length_le hge]; rfl
                have hp7 : n ≤ 9999999 := by have : 10 ^ i ≤ 10 ^ 7 := Nat.pow_le_pow_right (by decide) (by omega); omega
                refine W_exit ?_   -- exit 0
                refine W_seq ?_
                refine W_seq ?_
                refine W_region ?_
                refine wl_val (rn_move (by conv => lhs; whnf)) ?_
                refine wl_val (rn_gtr rfl rfl) ?_
                refine wl_nil ?_
                refine W_cond rfl (fun hc4 => ?_) (fun hc4 => ?_)
                · have q7 := of_decide_eq_true hc4
                  have hbig : ¬ n ≤ 1000000 := by omega
                  refine W_seq ?_
                  refine W_region ?_
                  refine wl_val (rn_assign (by conv => lhs; whnf)) ?_
                  refine wl_val (rn_assign (by conv => lhs; whnf)) ?_
                  refine wl_nil ?_
                  refine W_ret ?_
                  first | exact ⟨_, resR2 (res1_tmp rfl) (res1_tmp rfl), hX, by rw [hnum, numV_none hno]; rfl⟩ | exact ⟨_, resR2 (res1_tmp rfl) (res1_tmp rfl), hX, by rw [hnum, numV_48 hngT (of_decide_eq_true hc1)]; rfl⟩ | exact ⟨_, resR2 (res1_tmp rfl) (res1_tmp rfl), hX, by rw [hnum, numV_big hres hbig]; rfl⟩ | exact ⟨_, resR2 (res1_tmp rfl) (res1_tmp rfl), hX, by rw [hnum, numV_t hres hsm (h48 rfl)]; rfl⟩ | exact ⟨_, resR2 (res1_tmp rfl) (res1_tmp rfl), hX, by rw [hnum, numV_f hres hsm]; rfl⟩
                · have q7 := of_decide_eq_false hc4
                  have hsm : n ≤ 1000000 := by omega
                  refine W_skip ?_
                  refine W_seq ?_
                  refine W_seq ?_
                  refine W_region ?_
                  refine wl_val (rn_move (by conv => lhs; whnf)) ?_
                  refine wl_nil ?_
                  refine W_cond rfl (fun hc5 => ?_) (fun hc5 => ?_)
                  · obtain rfl : ng = true := hc5
                    refine W_region ?_
                    refine wl_val (rn_move (by conv => lhs; whnf)) ?_
                    refine wl_val (rn_neg rfl (by omega)) ?_
                    refine wl_val (rn_assign (by conv => lhs; whnf)) ?_
                    refine wl_nil ?_
                    refine W_seq ?_
                    refine W_region ?_
                    refine wl_val (rn_move (by conv => lhs; whnf)) ?_
                    refine wl_val (rn_assign (by conv => lhs; whnf)) ?_
                    refine wl_val (rn_assign (by conv => lhs; whnf)) ?_
                    refine wl_nil ?_
                    refine W_ret ?_
                    first | exact ⟨_, resR2 (res1_tmp rfl) (res1_tmp rfl), hX, by rw [hnum, numV_none hno]; rfl⟩ | exact ⟨_, resR2 (res1_tmp rfl) (res1_tmp rfl), hX, by rw [hnum, numV_48 hngT (of_decide_eq_true hc1)]; rfl⟩ | exact ⟨_, resR2 (res1_tmp rfl) (res1_tmp rfl), hX, by rw [hnum, numV_big hres hbig]; rfl⟩ | exact ⟨_, resR2 (res1_tmp rfl) (res1_tmp rfl), hX, by rw [hnum, numV_t hres hsm (h48 rfl)]; rfl⟩ | exact ⟨_, resR2 (res1_tmp rfl) (res1_tmp rfl), hX, by rw [hnum, numV_f hres hsm]; rfl⟩
                  · obtain rfl : ng = false := hc5
                    refine W_skip ?_
                    refine W_seq ?_
                    refine W_region ?_
                    refine wl_val (rn_move (by conv => lhs; whnf)) ?_
                    refine wl_val (rn_assign (by conv => lhs; whnf)) ?_
                    refine wl_val (rn_assign (by conv => lhs; whnf)) ?_
                    refine wl_nil ?_
                    refine W_ret ?_
                    first | exact ⟨_, resR2 (res1_tmp rfl) (res1_tmp rfl), hX, by rw [hnum, numV_none hno]; rfl⟩ | exact ⟨_, resR2 (res1_tmp rfl) (res1_tmp rfl), hX, by rw [hnum, numV_48 hngT (of_decide_eq_true hc1)]; rfl⟩ | exact ⟨_, resR2 (res1_tmp rfl) (res1_tmp rfl), hX, by rw [hnum, numV_big hres hbig]; rfl⟩ | exact ⟨_, resR2 (res1_tmp rfl) (res1_tmp rfl), hX, by rw [hnum, numV_t hres hsm (h48 rfl)]; rfl⟩ | exact ⟨_, resR2 (res1_tmp rfl) (res1_tmp rfl), hX, by rw [hnum, numV_f hres hsm]; rfl⟩
-- bellman/bellmanref27.Take
set_option maxHeartbeats 6400000 in
theorem rtake_ok (w : World) (s : Str) (hn : s.length ≤ 4000) : Fn Tryd.prog 57 #[Sv s] w fun u w' => u = .tuple #[.agg ((docT (spl 32 s)).getD aZ).enc.toArray, .bool (docT (spl 32 s)).isSome] := by
  have hX := Ext.refl Non w
  refine fn_of_W (args := [_]) Tryd.func57 rfl (by kernel_rfl) rfl ?_
  refine W_seq ?_
  refine W_region ?_
  refine wl_alloc z_34 ?_; intro b2 w1 hb2 hE1 hB2
  have hq2 : w.heap.size ≤ b2 := Nat.le_trans hX.size hb2
  have hl2 : Mine Non w b2 := .inr hq2
  replace hX := hX.tr hE1
  refine wl_val (rn_assign (by conv => lhs; whnf)) ?_
  refine wl_nil ?_
  refine W_seq ?_
  refine W_region ?_
  refine wl_val (rn_build' b_34 rfl rfl (cs := aZ.enc) rfl) ?_
  refine wl_alloc z_34 ?_; intro b4 w2 hb4 hE2 hB4
  have hn2_4 : b2 < b4 := Nat.lt_of_lt_of_le hB2.lt hb4
  have hq4 : w.heap.size ≤ b4 := Nat.le_trans hX.size hb4
  have hl4 : Mine Non w b4 := .inr hq4
  replace hX := hX.tr hE2
  replace hB2 := hB2.ext hE2 id
  refine wl_storeB s_34 rfl rfl rfl (fun v hv => by have hv2 : v ∈ [Value.int .i64 _, Value.int .i64 _, Value.int .i64 _, Sv _, Sv _, Value.bool _] := hv; simp only [List.mem_cons, List.not_mem_nil, or_false] at hv2; rcases hv2 with rfl | rfl | rfl | rfl | rfl | rfl <;> rfl) hB4 rfl ?_; intro w3 hE3 hB4 hz3
  replace hX := hX.mine hE3 hl4
  replace hB2 := hB2.ext hE3 (fun h => by omega)
  refine wl_nil ?_
  refine W_seq ?_
  refine W_region ?_
  refine wl_val (rn_move (by conv => lhs; whnf)) ?_
  refine wl_call e_100 rfl (rsplit_ok w3 s (by omega)) ?_; intro v19 w4 hE4 hR4
  replace hX := hX.tr hE4
  replace hB2 := hB2.ext hE4 id; replace hB4 := hB4.ext hE4 id
  have hs := hR4
  obtain ⟨h, r, hsp⟩ := spl_ex 32 s
  rw [hsp] at hs ⊢
  obtain ⟨a19, c19, hv19, hbl⟩ := id hs.len; subst hv19
  obtain ⟨bb, oo, ea⟩ := hs.base (by simp); subst ea
  simp only [List.length_map] at hs hbl ⊢
  obtain ⟨n19, hn19⟩ : ∃ n, n = (World.heap w4).size := ⟨_, rfl⟩
  replace hs := sl_up hs hn19
  have h2n : b2 < n19 := by have := hB2.lt; omega
  have h4n : b4 < n19 := by have := hB4.lt; omega
  have hln : ∀ a ∈ r, a.length ≤ 4000 := fun a ha => Nat.le_trans (spl_le (b := 32) (s := s) (by rw [hsp]; exact List.mem_cons_of_mem _ ha)) hn
  refine wl_val (rn_assign (by conv => lhs; whnf)) ?_
  refine wl_nil ?_
  refine W_seq ?_
  refine W_seq ?_
  refine W_region ?_
  refine wl_val (rn_move (by conv => lhs; whnf)) ?_
  refine wl_val (rn_indexAddr sl_68 rfl rfl (by simp only [List.length_cons, List.length_nil]; omega)) ?_
  refine wl_val (rn_load p_9 rfl (hs.at0 (eS_at (i := 0) (x := h) rfl) rfl)) ?_
  refine wl_val (rn_seql rfl rfl) ?_
  refine wl_val (rn_move (by conv => lhs; whnf)) ?_
  refine wl_split (d := 24) rfl (fun hg24 => ?_) (fun hg24 => ?_)
  · obtain rfl : h = sErr := of_decide_eq_true hg24
    refine wl_yes rfl (congrArg Value.bool hg24) ?_
    refine wl_val (rn_move (by conv => lhs; whnf)) ?_
    refine wl_yes rfl (congrArg Value.bool hg24) ?_
    refine wl_val (rn_len sl_68 rfl) ?_
    refine wl_yes rfl (congrArg Value.bool hg24) ?_
    refine wl_val (rn_eql rfl rfl) ?_
    refine wl_val (rn_pickT (congrArg Value.bool hg24) (by conv => lhs; whnf)) ?_
    refine wl_nil ?_
    refine W_cond rfl (fun hc0 => ?_) (fun hc0 => ?_)
    · have q0 := of_decide_eq_true hc0
      obtain ⟨b, rfl⟩ := one_of (a := sErr) (r := r) (by omega)
      refine W_seq ?_
      refine W_region ?_
      refine wl_val (rn_move (by conv => lhs; whnf)) ?_
      refine wl_val (rn_indexAddr sl_68 rfl rfl (by simp only [List.length_cons, List.length_nil]; omega)) ?_
      refine wl_val (rn_load p_9 rfl (hs.at0 (eS_at (i := 1) (x := b) rfl) rfl)) ?_
      refine wl_call e_104 rfl (rnumM_ok w4 b (hln b (by simp))) ?_; intro v33 w5 hE5 hR5
      replace hX := hX.tr hE5
      replace hB2 := hB2.ext hE5 id; replace hB4 := hB4.ext hE5 id
      replace hs := hs.ext hE5 (fun _ h => h.elim)
      subst hR5
      refine wl_val (rn_move (by conv => lhs; whnf)) ?_
      refine wl_val (rn_extract rfl rfl) ?_
      refine wl_val (rn_extract rfl rfl) ?_
      refine wl_val (rn_assign (by conv => lhs; whnf)) ?_
      refine wl_val (rn_assign (by conv => lhs; whnf)) ?_
      refine wl_nil ?_
      refine W_seq ?_
      refine W_seq ?_
      refine W_region ?_
      refine wl_val (rn_move (by conv => lhs; whnf)) ?_
      refine wl_val (rn_not rfl) ?_
      refine wl_val (rn_move (by conv => lhs; whnf)) ?_
      refine wl_split (d := 38) rfl (fun hg38 => ?_) (fun hg38 => ?_)
      · have q38 : (numM b).isSome = false := by simpa using hg38
        refine wl_no rfl (congrArg Value.bool hg38) ?_
        refine wl_no rfl (congrArg Value.bool hg38) ?_
        refine wl_val (rn_pickT (congrArg Value.bool hg38) (by conv => lhs; whnf)) ?_
        refine wl_val (rn_move (by conv => lhs; whnf)) ?_
        refine wl_no rfl rfl ?_
        refine wl_no rfl rfl ?_
        refine wl_val (rn_pickT rfl (by conv => lhs; whnf)) ?_
        refine wl_nil ?_
        refine W_condT rfl ?_
        refine W_seq ?_
        refine W_region ?_
        refine wl_val (rn_loadB s_34 rfl rfl hB4) ?_
        have hBo := hB2
        refine wl_storeB s_34 rfl rfl rfl (fun v hv => by have hv2 : v ∈ [Value.int .i64 _, Value.int .i64 _, Value.int .i64 _, Sv _, Sv _, Value.bool _] := hv; simp only [List.mem_cons, List.not_mem_nil, or_false] at hv2; rcases hv2 with rfl | rfl | rfl | rfl | rfl | rfl <;> rfl) hB2 rfl ?_; intro w6 hE6 hB2 hz6
        replace hX := hX.mine hE6 hl2
        replace hB4 := hB4.ext hE6 (fun h => by omega)
        replace hs := by first | exact hs.ext hE6 (fun i h => by omega) | exact True.intro
        refine wl_val (rn_assign (by conv => lhs; whnf)) ?_
        refine wl_nil ?_
        refine W_ret ?_
        first | exact ⟨_, resR2 (res1_box s_34 rfl hB2 rfl) (res1_tmp rfl), hX, by rw [docE0 q38]; rfl⟩ | exact ⟨_, resR2 (res1_box s_34 rfl hB2 rfl) (res1_tmp rfl), hX, by rw [docE q38, if_neg (fun e => by have := e.1; omega)]; rfl⟩ | exact ⟨_, resR2 (res1_box s_34 rfl hB2 rfl) (res1_tmp rfl), hX, by rw [docE q38, if_neg (fun e => by have := e.2; omega)]; rfl⟩ | exact ⟨_, resR2 (res1_box s_34 rfl hB2 rfl) (res1_tmp rfl), hX, by rw [docE q38, if_pos (by omega)]; rfl⟩ | exact ⟨_, resR2 (res1_box s_34 rfl hB2 rfl) (res1_tmp rfl), hX, by rw [docT_none hn1 (.inr hn3)]; rfl⟩ | exact ⟨_, resR2 (res1_box s_34 rfl hB2 rfl) (res1_tmp rfl), hX, by rw [docT_none hn1 (.inl ⟨fun e => q57 (by simp [e]), fun e => q2 (by simp [e])⟩)]; rfl⟩ | exact ⟨_, resR2 (res1_box s_34 rfl hB2 rfl) (res1_tmp rfl), hX, by rw [doc3n (.inl qx)]; rfl⟩ | exact ⟨_, resR2 (res1_box s_34 rfl hB2 rfl) (res1_tmp rfl), hX, by rw [doc3n (.inr qy)]; rfl⟩ | exact ⟨_, resR2 (res1_box s_34 rfl hB2 rfl) (res1_tmp rfl), hX, by rw [doc3y qx qy]; rfl⟩ | exact ⟨_, resR2 (res1_box s_34 rfl hB2 rfl) (res1_tmp rfl), hX, by rw [doc6n (.inl qx)]; rfl⟩ | exact ⟨_, resR2 (res1_box s_34 rfl hB2 rfl) (res1_tmp rfl), hX, by rw [doc6n (.inr (.inl qy))]; rfl⟩ | exact ⟨_, resR2 (res1_box s_34 rfl hB2 rfl) (res1_tmp rfl), hX, by rw [doc6n (.inr (.inr (.inl qt)))]; rfl⟩ | exact ⟨_, resR2 (res1_box s_34 rfl hB2 rfl) (res1_tmp rfl), hX, by rw [doc6n (.inr (.inr (.inr qp)))]; rfl⟩ | exact ⟨_, resR2 (res1_box s_34 rfl hB2 rfl) (res1_tmp rfl), hX, by rw [doc6c (fun e => e.1.elim qk qw)]; rfl⟩ | exact ⟨_, resR2 (res1_box s_34 rfl hB2 rfl) (res1_tmp rfl), hX, by rw [doc6c (fun e => e.2 ⟨q129, q133, q5⟩)]; rfl⟩ | exact ⟨_, resR2 (res1_box s_34 rfl hB2 rfl) (res1_tmp rfl), hX, by rw [doc6y qx qy qt qp ⟨.inl qk, fun e => kn_ne qk e.2.2⟩]; rfl⟩ | exact ⟨_, resR2 (res1_box s_34 rfl hB2 rfl) (res1_tmp rfl), hX, by rw [doc6y qx qy qt qp ⟨.inr qw, fun e => q129 e.1⟩]; rfl⟩ | exact ⟨_, resR2 (res1_box s_34 rfl hB2 rfl) (res1_tmp rfl), hX, by rw [doc6y qx qy qt qp ⟨.inr qw, fun e => q133 e.2.1⟩]; rfl⟩ | exact ⟨_, resR2 (res1_box s_34 rfl hB2 rfl) (res1_tmp rfl), hX, by rw [doc6y qx qy qt qp ⟨.inr qw, fun e => q5 e.2.2⟩]; rfl⟩
      · have q38 : (numM b).isSome = true := by simpa using hg38
        refine wl_yes rfl (congrArg Value.bool hg38) ?_
        refine wl_val (rn_move (by conv => lhs; whnf)) ?_
        refine wl_yes rfl (congrArg Value.bool hg38) ?_
        refine wl_val (rn_lss rfl rfl) ?_
        refine wl_val (rn_pickF (congrArg Value.bool hg38) (by conv => lhs; whnf)) ?_
        refine wl_val (rn_move (by conv => lhs; whnf)) ?_
        refine wl_split (d := 42) rfl (fun hg42 => ?_) (fun hg42 => ?_)
        · have q42 := of_decide_eq_true hg42
          refine wl_no rfl (congrArg Value.bool hg42) ?_
          refine wl_no rfl (congrArg Value.bool hg42) ?_
          refine wl_val (rn_pickT (congrArg Value.bool hg42) (by conv => lhs; whnf)) ?_
          refine wl_nil ?_
          refine W_condT rfl ?_
          refine W_seq ?_
          refine W_region ?_
          refine wl_val (rn_loadB s_34 rfl rfl hB4) ?_
          have hBo := hB2
          refine wl_storeB s_34 rfl rfl rfl (fun v hv => by have hv2 : v ∈ [Value.int .i64 _, Value.int .i64 _, Value.int .i64 _, Sv _, Sv _, Value.bool _] := hv; simp only [List.mem_cons, List.not_mem_nil, or_false] at hv2; rcases hv2 with rfl | rfl | rfl | rfl | rfl | rfl <;> rfl) hB2 rfl ?_; intro w7 hE7 hB2 hz7
          replace hX := hX.mine hE7 hl2
          replace hB4 := hB4.ext hE7 (fun h => by omega)
          replace hs := by first | exact hs.ext hE7 (fun i h => by omega) | exact True.intro
          refine wl_val (rn_assign (by conv => lhs; whnf)) ?_
          refine wl_nil ?_
          refine W_ret ?_
          first | exact ⟨_, resR2 (res1_box s_34 rfl hB2 rfl) (res1_tmp rfl), hX, by rw [docE0 q38]; rfl⟩ | exact ⟨_, resR2 (res1_box s_34 rfl hB2 rfl) (res1_tmp rfl), hX, by rw [docE q38, if_neg (fun e => by have := e.1; omega)]; rfl⟩ | exact ⟨_, resR2 (res1_box s_34 rfl hB2 rfl) (res1_tmp rfl), hX, by rw [docE q38, if_neg (fun e => by have := e.2; omega)]; rfl⟩ | exact ⟨_, resR2 (res1_box s_34 rfl hB2 rfl) (res1_tmp rfl), hX, by rw [docE q38, if_pos (by omega)]; rfl⟩ | exact ⟨_, resR2 (res1_box s_34 rfl hB2 rfl) (res1_tmp rfl), hX, by rw [docT_none hn1 (.inr hn3)]; rfl⟩ | exact ⟨_, resR2 (res1_box s_34 rfl hB2 rfl) (res1_tmp rfl), hX, by rw [docT_none hn1 (.inl ⟨fun e => q57 (by simp [e]), fun e => q2 (by simp [e])⟩)]; rfl⟩ | exact ⟨_, resR2 (res1_box s_34 rfl hB2 rfl) (res1_tmp rfl), hX, by rw [doc3n (.inl qx)]; rfl⟩ | exact ⟨_, resR2 (res1_box s_34 rfl hB2 rfl) (res1_tmp rfl), hX, by rw [doc3n (.inr qy)]; rfl⟩ | exact ⟨_, resR2 (res1_box s_34 rfl hB2 rfl) (res1_tmp rfl), hX, by rw [doc3y qx qy]; rfl⟩ | exact ⟨_, resR2 (res1_box s_34 rfl hB2 rfl) (res1_tmp rfl), hX, by rw [doc6n (.inl qx)]; rfl⟩ | exact ⟨_, resR2 (res1_box s_34 rfl hB2 rfl) (res1_tmp rfl), hX, by rw [doc6n (.inr (.inl qy))]; rfl⟩ | exact ⟨_, resR2 (res1_box s_34 rfl hB2 rfl) (res1_tmp rfl), hX, by rw [doc6n (.inr (.inr (.inl qt)))]; rfl⟩ | exact ⟨_, resR2 (res1_box s_34 rfl hB2 rfl) (res1_tmp rfl), hX, by rw [doc6n (.inr (.inr (.inr qp)))]; rfl⟩ | exact ⟨_, resR2 (res1_box s_34 rfl hB2 rfl) (res1_tmp rfl), hX, by rw [doc6c (fun e => e.1.elim qk qw)]; rfl⟩ | exact ⟨_, resR2 (res1_box s_34 rfl hB2 rfl) (res1_tmp rfl), hX, by rw [doc6c (fun e => e.2 ⟨q129, q133, q5⟩)]; rfl⟩ | exact ⟨_, resR2 (res1_box s_34 rfl hB2 rfl) (res1_tmp rfl), hX, by rw [doc6y qx qy qt qp ⟨.inl qk, fun e => kn_ne qk e.2.2⟩]; rfl⟩ | exact ⟨_, resR2 (res1_box s_34 rfl hB2 rfl) (res1_tmp rfl), hX, by rw [doc6y qx qy qt qp ⟨.inr qw, fun e => q129 e.1⟩]; rfl⟩ | exact ⟨_, resR2 (res1_box s_34 rfl hB2 rfl) (res1_tmp rfl), hX, by rw [doc6y qx qy qt qp ⟨.inr qw, fun e => q133 e.2.1⟩]; rfl⟩ | exact ⟨_, resR2 (res1_box s_34 rfl hB2 rfl) (res1_tmp rfl), hX, by rw [doc6y qx qy qt qp ⟨.inr qw, fun e => q5 e.2.2⟩]; rfl⟩
        · have q42 := of_decide_eq_false hg42
          refine wl_yes rfl (congrArg Value.bool hg42) ?_
          refine wl_val (rn_move (by conv => lhs; whnf)) ?_
          refine wl_yes rfl (congrArg Value.bool hg42) ?_
          refine wl_val (rn_gtr rfl rfl) ?_
          refine wl_val (rn_pickF (congrArg Value.bool hg42) (by conv => lhs; whnf)) ?_
          refine wl_nil ?_
          refine W_cond rfl (fun hc1 => ?_) (fun hc1 => ?_)
          · have q1 := of_decide_eq_true hc1
            refine W_seq ?_
            refine W_region ?_
            refine wl_val (rn_loadB s_34 rfl rfl hB4) ?_
            have hBo := hB2
            refine wl_storeB s_34 rfl rfl rfl (fun v hv => by have hv2 : v ∈ [Value.int .i64 _, Value.int .i64 _, Value.int .i64 _, Sv _, Sv _, Value.bool _] := hv; simp only [List.mem_cons, List.not_mem_nil, or_false] at hv2; rcases hv2 with rfl | rfl | rfl | rfl | rfl | rfl <;> rfl) hB2 rfl ?_; intro w8 hE8 hB2 hz8
            replace hX := hX.mine hE8 hl2
            replace hB4 := hB4.ext hE8 (fun h => by omega)
            replace hs := by first | exact hs.ext hE8 (fun i h => by omega) | exact True.intro
            refine wl_val (rn_assign (by conv => lhs; whnf)) ?_
            refine wl_nil ?_
            refine W_ret ?_
            first | exact ⟨_, resR2 (res1_box s_34 rfl hB2 rfl) (res1_tmp rfl), hX, by rw [docE0 q38]; rfl⟩ | exact ⟨_, resR2 (res1_box s_34 rfl hB2 rfl) (res1_tmp rfl), hX, by rw [docE q38, if_neg (fun e => by have := e.1; omega)]; rfl⟩ | exact ⟨_, resR2 (res1_box s_34 rfl hB2 rfl) (res1_tmp rfl), hX, by rw [docE q38, if_neg (fun e => by have := e.2; omega)]; rfl⟩ | exact ⟨_, resR2 (res1_box s_34 rfl hB2 rfl) (res1_tmp rfl), hX, by rw [docE q38, if_pos (by omega)]; rfl⟩ | exact ⟨_, resR2 (res1_box s_34 rfl hB2 rfl) (res1_tmp rfl), hX, by rw [docT_none hn1 (.inr hn3)]; rfl⟩ | exact ⟨_, resR2 (res1_box s_34 rfl hB2 rfl) (res1_tmp rfl), hX, by rw [docT_none hn1 (.inl ⟨fun e => q57 (by simp [e]), fun e => q2 (by simp [e])⟩)]; rfl⟩ | exact ⟨_, resR2 (res1_box s_34 rfl hB2 rfl) (res1_tmp rfl), hX, by rw [doc3n (.inl qx)]; rfl⟩ | exact ⟨_, resR2 (res1_box s_34 rfl hB2 rfl) (res1_tmp rfl), hX, by rw [doc3n (.inr qy)]; rfl⟩ | exact ⟨_, resR2 (res1_box s_34 rfl hB2 rfl) (res1_tmp rfl), hX, by rw [doc3y qx qy]; rfl⟩ | exact ⟨_, resR2 (res1_box s_34 rfl hB2 rfl) (res1_tmp rfl), hX, by rw [doc6n (.inl qx)]; rfl⟩ | exact ⟨_, resR2 (res1_box s_34 rfl hB2 rfl) (res1_tmp rfl), hX, by rw [doc6n (.inr (.inl qy))]; rfl⟩ | exact ⟨_, resR2 (res1_box s_34 rfl hB2 rfl) (res1_tmp rfl), hX, by rw [doc6n (.inr (.inr (.inl qt)))]; rfl⟩ | exact ⟨_, resR2 (res1_box s_34 rfl hB2 rfl) (res1_tmp rfl), hX, by rw [doc6n (.inr (.inr (.inr qp)))]; rfl⟩ | exact ⟨_, resR2 (res1_box s_34 rfl hB2 rfl) (res1_tmp rfl), hX, by rw [doc6c (fun e => e.1.elim qk qw)]; rfl⟩ | exact ⟨_, resR2 (res1_box s_34 rfl hB2 rfl) (res1_tmp rfl), hX, by rw [doc6c (fun e => e.2 ⟨q129, q133, q5⟩)]; rfl⟩ | exact ⟨_, resR2 (res1_box s_34 rfl hB2 rfl) (res1_tmp rfl), hX, by rw [doc6y qx qy qt qp ⟨.inl qk, fun e => kn_ne qk e.2.2⟩]; rfl⟩ | exact ⟨_, resR2 (res1_box s_34 rfl hB2 rfl) (res1_tmp rfl), hX, by rw [doc6y qx qy qt qp ⟨.inr qw, fun e => q129 e.1⟩]; rfl⟩ | exact ⟨_, resR2 (res1_box s_34 rfl hB2 rfl) (res1_tmp rfl), hX, by rw [doc6y qx qy qt qp ⟨.inr qw, fun e => q133 e.2.1⟩]; rfl⟩ | exact ⟨_, resR2 (res1_box s_34 rfl hB2 rfl) (res1_tmp rfl), hX, by rw [doc6y qx qy qt qp ⟨.inr qw, fun e => q5 e.2.2⟩]; rfl⟩
          · have q1 := of_decide_eq_false hc1
            refine W_skip ?_
            refine W_seq ?_
            refine W_region ?_
            refine wl_val (rn_move (by conv => lhs; whnf)) ?_
            refine wl_val (rn_build' b_34 rfl rfl (cs := (⟨(numM b).getD 0, 0, 0, mZ⟩ : AnsD).enc) rfl) ?_
            have hBo := hB2
            refine wl_storeB s_34 rfl rfl rfl (fun v hv => by have hv2 : v ∈ [Value.int .i64 _, Value.int .i64 _, Value.int .i64 _, Sv _, Sv _, Value.bool _] := hv; simp only [List.mem_cons, List.not_mem_nil, or_false] at hv2; rcases hv2 with rfl | rfl | rfl | rfl | rfl | rfl <;> rfl) hB2 rfl ?_; intro w9 hE9 hB2 hz9
            replace hX := hX.mine hE9 hl2
            replace hB4 := hB4.ext hE9 (fun h => by omega)
            replace hs := by first | exact hs.ext hE9 (fun i h => by omega) | exact True.intro
            refine wl_val (rn_assign (by conv => lhs; whnf)) ?_
            refine wl_nil ?_
            refine W_ret ?_
            first | exact ⟨_, resR2 (res1_box s_34 rfl hB2 rfl) (res1_tmp rfl), hX, by rw [docE0 q38]; rfl⟩ | exact ⟨_, resR2 (res1_box s_34 rfl hB2 rfl) (res1_tmp rfl), hX, by rw [docE q38, if_neg (fun e => by have := e.1; omega)]; rfl⟩ | exact ⟨_, resR2 (res1_box s_34 rfl hB2 rfl) (res1_tmp rfl), hX, by rw [docE q38, if_neg (fun e => by have := e.2; omega)]; rfl⟩ | exact ⟨_, resR2 (res1_box s_34 rfl hB2 rfl) (res1_tmp rfl), hX, by rw [docE q38, if_pos (by omega)]; rfl⟩ | exact ⟨_, resR2 (res1_box s_34 rfl hB2 rfl) (res1_tmp rfl), hX, by rw [docT_none hn1 (.inr hn3)]; rfl⟩ | exact ⟨_, resR2 (res1_box s_34 rfl hB2 rfl) (res1_tmp rfl), hX, by rw [docT_none hn1 (.inl ⟨fun e => q57 (by simp [e]), fun e => q2 (by simp [e])⟩)]; rfl⟩ | exact ⟨_, resR2 (res1_box s_34 rfl hB2 rfl) (res1_tmp rfl), hX, by rw [doc3n (.inl qx)]; rfl⟩ | exact ⟨_, resR2 (res1_box s_34 rfl hB2 rfl) (res1_tmp rfl), hX, by rw [doc3n (.inr qy)]; rfl⟩ | exact ⟨_, resR2 (res1_box s_34 rfl hB2 rfl) (res1_tmp rfl), hX, by rw [doc3y qx qy]; rfl⟩ | exact ⟨_, resR2 (res1_box s_34 rfl hB2 rfl) (res1_tmp rfl), hX, by rw [doc6n (.inl qx)]; rfl⟩ | exact ⟨_, resR2 (res1_box s_34 rfl hB2 rfl) (res1_tmp rfl), hX, by rw [doc6n (.inr (.inl qy))]; rfl⟩ | exact ⟨_, resR2 (res1_box s_34 rfl hB2 rfl) (res1_tmp rfl), hX, by rw [doc6n (.inr (.inr (.inl qt)))]; rfl⟩ | exact ⟨_, resR2 (res1_box s_34 rfl hB2 rfl) (res1_tmp rfl), hX, by rw [doc6n (.inr (.inr (.inr qp)))]; rfl⟩ | exact ⟨_, resR2 (res1_box s_34 rfl hB2 rfl) (res1_tmp rfl), hX, by rw [doc6c (fun e => e.1.elim qk qw)]; rfl⟩ | exact ⟨_, resR2 (res1_box s_34 rfl hB2 rfl) (res1_tmp rfl), hX, by rw [doc6c (fun e => e.2 ⟨q129, q133, q5⟩)]; rfl⟩ | exact ⟨_, resR2 (res1_box s_34 rfl hB2 rfl) (res1_tmp rfl), hX, by rw [doc6y qx qy qt qp ⟨.inl qk, fun e => kn_ne qk e.2.2⟩]; rfl⟩ | exact ⟨_, resR2 (res1_box s_34 rfl hB2 rfl) (res1_tmp rfl), hX, by rw [doc6y qx qy qt qp ⟨.inr qw, fun e => q129 e.1⟩]; rfl⟩ | exact ⟨_, resR2 (res1_box s_34 rfl hB2 rfl) (res1_tmp rfl), hX, by rw [doc6y qx qy qt qp ⟨.inr qw, fun e => q133 e.2.1⟩]; rfl⟩ | exact ⟨_, resR2 (res1_box s_34 rfl hB2 rfl) (res1_tmp rfl), hX, by rw [doc6y qx qy qt qp ⟨.inr qw, fun e => q5 e.2.2⟩]; rfl⟩
    · have q0 := of_decide_eq_false hc0
      have hn1 : ¬ (r.length = 1 ∧ sErr = sErr) := fun e => q0 (by simp [e.1])
      refine W_skip ?_
      refine W_seq ?_
      refine W_seq ?_
      refine W_region ?_
      refine wl_val (rn_move (by conv => lhs; whnf)) ?_
      refine wl_val (rn_indexAddr sl_68 rfl rfl (by simp only [List.length_cons, List.length_nil]; omega)) ?_
      refine wl_val (rn_load p_9 rfl (hs.at0 (eS_at (i := 0) rfl) rfl)) ?_
      refine wl_val (rn_sneq rfl rfl) ?_
      refine wl_val (rn_move (by conv => lhs; whnf)) ?_
      refine wl_split (d := 53) rfl (fun hg53 => ?_) (fun hg53 => ?_)
      · have hn3 := of_decide_eq_true hg53
        refine wl_no rfl (congrArg Value.bool hg53) ?_
        refine wl_no rfl (congrArg Value.bool hg53) ?_
        refine wl_no rfl (congrArg Value.bool hg53) ?_
        refine wl_no rfl (congrArg Value.bool hg53) ?_
        refine wl_nou rfl rfl ?_
        refine wl_nou rfl rfl ?_
        refine wl_nou rfl rfl ?_
        refine wl_no rfl (congrArg Value.bool hg53) ?_
        refine wl_val (rn_pickT (congrArg Value.bool hg53) (by conv => lhs; whnf)) ?_
        refine wl_nil ?_
        refine W_condT rfl ?_
        refine W_seq ?_
        refine W_region ?_
        refine wl_val (rn_loadB s_34 rfl rfl hB4) ?_
        have hBo := hB2
        refine wl_storeB s_34 rfl rfl rfl (fun v hv => by have hv2 : v ∈ [Value.int .i64 _, Value.int .i64 _, Value.int .i64 _, Sv _, Sv _, Value.bool _] := hv; simp only [List.mem_cons, List.not_mem_nil, or_false] at hv2; rcases hv2 with rfl | rfl | rfl | rfl | rfl | rfl <;> rfl) hB2 rfl ?_; intro w10 hE10 hB2 hz10
        replace hX := hX.mine hE10 hl2
        replace hB4 := hB4.ext hE10 (fun h => by omega)
        replace hs := by first | exact hs.ext hE10 (fun i h => by omega) | exact True.intro
        refine wl_val (rn_assign (by conv => lhs; whnf)) ?_
        refine wl_nil ?_
        refine W_ret ?_
        first | exact ⟨_, resR2 (res1_box s_34 rfl hB2 rfl) (res1_tmp rfl), hX, by rw [docE0 q38]; rfl⟩ | exact ⟨_, resR2 (res1_box s_34 rfl hB2 rfl) (res1_tmp rfl), hX, by rw [docE q38, if_neg (fun e => by have := e.1; omega)]; rfl⟩ | exact ⟨_, resR2 (res1_box s_34 rfl hB2 rfl) (res1_tmp rfl), hX, by rw [docE q38, if_neg (fun e => by have := e.2; omega)]; rfl⟩ | exact ⟨_, resR2 (res1_box s_34 rfl hB2 rfl) (res1_tmp rfl), hX, by rw [docE q38, if_pos (by omega)]; rfl⟩ | exact ⟨_, resR2 (res1_box s_34 rfl hB2 rfl) (res1_tmp rfl), hX, by rw [docT_none hn1 (.inr hn3)]; rfl⟩ | exact ⟨_, resR2 (res1_box s_34 rfl hB2 rfl) (res1_tmp rfl), hX, by rw [docT_none hn1 (.inl ⟨fun e => q57 (by simp [e]), fun e => q2 (by simp [e])⟩)]; rfl⟩ | exact ⟨_, resR2 (res1_box s_34 rfl hB2 rfl) (res1_tmp rfl), hX, by rw [doc3n (.inl qx)]; rfl⟩ | exact ⟨_, resR2 (res1_box s_34 rfl hB2 rfl) (res1_tmp rfl), hX, by rw [doc3n (.inr qy)]; rfl⟩ | exact ⟨_, resR2 (res1_box s_34 rfl hB2 rfl) (res1_tmp rfl), hX, by rw [doc3y qx qy]; rfl⟩ | exact ⟨_, resR2 (res1_box s_34 rfl hB2 rfl) (res1_tmp rfl), hX, by rw [doc6n (.inl qx)]; rfl⟩ | exact ⟨_, resR2 (res1_box s_34 rfl hB2 rfl) (res1_tmp rfl), hX, by rw [doc6n (.inr (.inl qy))]; rfl⟩ | exact ⟨_, resR2 (res1_box s_34 rfl hB2 rfl) (res1_tmp rfl), hX, by rw [doc6n (.inr (.inr (.inl qt)))]; rfl⟩ | exact ⟨_, resR2 (res1_box s_34 rfl hB2 rfl) (res1_tmp rfl), hX, by rw [doc6n (.inr (.inr (.inr qp)))]; rfl⟩ | exact ⟨_, resR2 (res1_box s_34 rfl hB2 rfl) (res1_tmp rfl), hX, by rw [doc6c (fun e => e.1.elim qk qw)]; rfl⟩ | exact ⟨_, resR2 (res1_box s_34 rfl hB2 rfl) (res1_tmp rfl), hX, by rw [doc6c (fun e => e.2 ⟨q129, q133, q5⟩)]; rfl⟩ | exact ⟨_, resR2 (res1_box s_34 rfl hB2 rfl) (res1_tmp rfl), hX, by rw [doc6y qx qy qt qp ⟨.inl qk, fun e => kn_ne qk e.2.2⟩]; rfl⟩ | exact ⟨_, resR2 (res1_box s_34 rfl hB2 rfl) (res1_tmp rfl), hX, by rw [doc6y qx qy qt qp ⟨.inr qw, fun e => q129 e.1⟩]; rfl⟩ | exact ⟨_, resR2 (res1_box s_34 rfl hB2 rfl) (res1_tmp rfl), hX, by rw [doc6y qx qy qt qp ⟨.inr qw, fun e => q133 e.2.1⟩]; rfl⟩ | exact ⟨_, resR2 (res1_box s_34 rfl hB2 rfl) (res1_tmp rfl), hX, by rw [doc6y qx qy qt qp ⟨.inr qw, fun e => q5 e.2.2⟩]; rfl⟩
      · try obtain rfl : h = sOk := Classical.not_not.1 (of_decide_eq_false hg53)
        exact absurd (Classical.not_not.1 (of_decide_eq_false hg53)) (by decide)
  · have hn1 : ¬ (r.length = 1 ∧ h = sErr) := fun e => of_decide_eq_false hg24 e.2
    refine wl_no rfl (congrArg Value.bool hg24) ?_
    refine wl_no rfl (congrArg Value.bool hg24) ?_
    refine wl_no rfl (congrArg Value.bool hg24) ?_
    refine wl_val (rn_pickF (congrArg Value.bool hg24) (by conv => lhs; whnf)) ?_
    refine wl_nil ?_
    refine W_condF rfl ?_
    refine W_skip ?_
    refine W_seq ?_
    refine W_seq ?_
    refine W_region ?_
    refine wl_val (rn_move (by conv => lhs; whnf)) ?_
    refine wl_val (rn_indexAddr sl_68 rfl rfl (by simp only [List.length_cons, List.length_nil]; omega)) ?_
    refine wl_val (rn_load p_9 rfl (hs.at0 (eS_at (i := 0) rfl) rfl)) ?_
    refine wl_val (rn_sneq rfl rfl) ?_
    refine wl_val (rn_move (by conv => lhs; whnf)) ?_
    refine wl_split (d := 53) rfl (fun hg53 => ?_) (fun hg53 => ?_)
    · have hn3 := of_decide_eq_true hg53
      refine wl_no rfl (congrArg Value.bool hg53) ?_
      refine wl_no rfl (congrArg Value.bool hg53) ?_
      refine wl_no rfl (congrArg Value.bool hg53) ?_
      refine wl_no rfl (congrArg Value.bool hg53) ?_
      refine wl_nou rfl rfl ?_
      refine wl_nou rfl rfl ?_
      refine wl_nou rfl rfl ?_
      refine wl_no rfl (congrArg Value.bool hg53) ?_
      refine wl_val (rn_pickT (congrArg Value.bool hg53) (by conv => lhs; whnf)) ?_
      refine wl_nil ?_
      refine W_condT rfl ?_
      refine W_seq ?_
      refine W_region ?_
      refine wl_val (rn_loadB s_34 rfl rfl hB4) ?_
      have hBo := hB2
      refine wl_storeB s_34 rfl rfl rfl (fun v hv => by have hv2 : v ∈ [Value.int .i64 _, Value.int .i64 _, Value.int .i64 _, Sv _, Sv _, Value.bool _] := hv; simp only [List.mem_cons, List.not_mem_nil, or_false] at hv2; rcases hv2 with rfl | rfl | rfl | rfl | rfl | rfl <;> rfl) hB2 rfl ?_; intro w11 hE11 hB2 hz11
      replace hX := hX.mine hE11 hl2
      replace hB4 := hB4.ext hE11 (fun h => by omega)
      replace hs := by first | exact hs.ext hE11 (fun i h => by omega) | exact True.intro
      refine wl_val (rn_assign (by conv => lhs; whnf)) ?_
      refine wl_nil ?_
      refine W_ret ?_
      first | exact ⟨_, resR2 (res1_box s_34 rfl hB2 rfl) (res1_tmp rfl), hX, by rw [docE0 q38]; rfl⟩ | exact ⟨_, resR2 (res1_box s_34 rfl hB2 rfl) (res1_tmp rfl), hX, by rw [docE q38, if_neg (fun e => by have := e.1; omega)]; rfl⟩ | exact ⟨_, resR2 (res1_box s_34 rfl hB2 rfl) (res1_tmp rfl), hX, by rw [docE q38, if_neg (fun e => by have := e.2; omega)]; rfl⟩ | exact ⟨_, resR2 (res1_box s_34 rfl hB2 rfl) (res1_tmp rfl), hX, by rw [docE q38, if_pos (by omega)]; rfl⟩ | exact ⟨_, resR2 (res1_box s_34 rfl hB2 rfl) (res1_tmp rfl), hX, by rw [docT_none hn1 (.inr hn3)]; rfl⟩ | exact ⟨_, resR2 (res1_box s_34 rfl hB2 rfl) (res1_tmp rfl), hX, by rw [docT_none hn1 (.inl ⟨fun e => q57 (by simp [e]), fun e => q2 (by simp [e])⟩)]; rfl⟩ | exact ⟨_, resR2 (res1_box s_34 rfl hB2 rfl) (res1_tmp rfl), hX, by rw [doc3n (.inl qx)]; rfl⟩ | exact ⟨_, resR2 (res1_box s_34 rfl hB2 rfl) (res1_tmp rfl), hX, by rw [doc3n (.inr qy)]; rfl⟩ | exact ⟨_, resR2 (res1_box s_34 rfl hB2 rfl) (res1_tmp rfl), hX, by rw [doc3y qx qy]; rfl⟩ | exact ⟨_, resR2 (res1_box s_34 rfl hB2 rfl) (res1_tmp rfl), hX, by rw [doc6n (.inl qx)]; rfl⟩ | exact ⟨_, resR2 (res1_box s_34 rfl hB2 rfl) (res1_tmp rfl), hX, by rw [doc6n (.inr (.inl qy))]; rfl⟩ | exact ⟨_, resR2 (res1_box s_34 rfl hB2 rfl) (res1_tmp rfl), hX, by rw [doc6n (.inr (.inr (.inl qt)))]; rfl⟩ | exact ⟨_, resR2 (res1_box s_34 rfl hB2 rfl) (res1_tmp rfl), hX, by rw [doc6n (.inr (.inr (.inr qp)))]; rfl⟩ | exact ⟨_, resR2 (res1_box s_34 rfl hB2 rfl) (res1_tmp rfl), hX, by rw [doc6c (fun e => e.1.elim qk qw)]; rfl⟩ | exact ⟨_, resR2 (res1_box s_34 rfl hB2 rfl) (res1_tmp rfl), hX, by rw [doc6c (fun e => e.2 ⟨q129, q133, q5⟩)]; rfl⟩ | exact ⟨_, resR2 (res1_box s_34 rfl hB2 rfl) (res1_tmp rfl), hX, by rw [doc6y qx qy qt qp ⟨.inl qk, fun e => kn_ne qk e.2.2⟩]; rfl⟩ | exact ⟨_, resR2 (res1_box s_34 rfl hB2 rfl) (res1_tmp rfl), hX, by rw [doc6y qx qy qt qp ⟨.inr qw, fun e => q129 e.1⟩]; rfl⟩ | exact ⟨_, resR2 (res1_box s_34 rfl hB2 rfl) (res1_tmp rfl), hX, by rw [doc6y qx qy qt qp ⟨.inr qw, fun e => q133 e.2.1⟩]; rfl⟩ | exact ⟨_, resR2 (res1_box s_34 rfl hB2 rfl) (res1_tmp rfl), hX, by rw [doc6y qx qy qt qp ⟨.inr qw, fun e => q5 e.2.2⟩]; rfl⟩
    · try obtain rfl : h = sOk := Classical.not_not.1 (of_decide_eq_false hg53)
      refine wl_yes rfl (congrArg Value.bool hg53) ?_
      refine wl_val (rn_move (by conv => lhs; whnf)) ?_
      refine wl_yes rfl (congrArg Value.bool hg53) ?_
      refine wl_val (rn_len sl_68 rfl) ?_
      refine wl_yes rfl (congrArg Value.bool hg53) ?_
      refine wl_val (rn_neq rfl rfl) ?_
      refine wl_yes rfl (congrArg Value.bool hg53) ?_
      refine wl_val (rn_move (by conv => lhs; whnf)) ?_
      refine wl_split (d := 57) rfl (fun hg57 => ?_) (fun hg57 => ?_)
      · have q57 := of_decide_eq_true hg57
        refine wl_yes rfl (congrArg Value.bool hg57) ?_
        refine wl_val (rn_move (by conv => lhs; whnf)) ?_
        refine wl_yes rfl (congrArg Value.bool hg57) ?_
        refine wl_val (rn_len sl_68 rfl) ?_
        refine wl_yes rfl (congrArg Value.bool hg57) ?_
        refine wl_val (rn_neq rfl rfl) ?_
        refine wl_yes rfl (congrArg Value.bool hg53) ?_
        refine wl_val (rn_pickT (congrArg Value.bool hg57) (by conv => lhs; whnf)) ?_
        refine wl_val (rn_pickF (congrArg Value.bool hg53) (by conv => lhs; whnf)) ?_
        refine wl_nil ?_
        refine W_cond rfl (fun hc2 => ?_) (fun hc2 => ?_)
        · have q2 := of_decide_eq_true hc2
          refine W_seq ?_
          refine W_region ?_
          refine wl_val (rn_loadB s_34 rfl rfl hB4) ?_
          have hBo := hB2
          refine wl_storeB s_34 rfl rfl rfl (fun v hv => by have hv2 : v ∈ [Value.int .i64 _, Value.int .i64 _, Value.int .i64 _, Sv _, Sv _, Value.bool _] := hv; simp only [List.mem_cons, List.not_mem_nil, or_false] at hv2; rcases hv2 with rfl | rfl | rfl | rfl | rfl | rfl <;> rfl) hB2 rfl ?_; intro w12 hE12 hB2 hz12
          replace hX := hX.mine hE12 hl2
          replace hB4 := hB4.ext hE12 (fun h => by omega)
          replace hs := by first | exact hs.ext hE12 (fun i h => by omega) | exact True.intro
          refine wl_val (rn_assign (by conv => lhs; whnf)) ?_
          refine wl_nil ?_
          refine W_ret ?_
          first | exact ⟨_, resR2 (res1_box s_34 rfl hB2 rfl) (res1_tmp rfl), hX, by rw [docE0 q38]; rfl⟩ | exact ⟨_, resR2 (res1_box s_34 rfl hB2 rfl) (res1_tmp rfl), hX, by rw [docE q38, if_neg (fun e => by have := e.1; omega)]; rfl⟩ | exact ⟨_, resR2 (res1_box s_34 rfl hB2 rfl) (res1_tmp rfl), hX, by rw [docE q38, if_neg (fun e => by have := e.2; omega)]; rfl⟩ | exact ⟨_, resR2 (res1_box s_34 rfl hB2 rfl) (res1_tmp rfl), hX, by rw [docE q38, if_pos (by omega)]; rfl⟩ | exact ⟨_, resR2 (res1_box s_34 rfl hB2 rfl) (res1_tmp rfl), hX, by rw [docT_none hn1 (.inr hn3)]; rfl⟩ | exact ⟨_, resR2 (res1_box s_34 rfl hB2 rfl) (res1_tmp rfl), hX, by rw [docT_none hn1 (.inl ⟨fun e => q57 (by simp [e]), fun e => q2 (by simp [e])⟩)]; rfl⟩ | exact ⟨_, resR2 (res1_box s_34 rfl hB2 rfl) (res1_tmp rfl), hX, by rw [doc3n (.inl qx)]; rfl⟩ | exact ⟨_, resR2 (res1_box s_34 rfl hB2 rfl) (res1_tmp rfl), hX, by rw [doc3n (.inr qy)]; rfl⟩ | exact ⟨_, resR2 (res1_box s_34 rfl hB2 rfl) (res1_tmp rfl), hX, by rw [doc3y qx qy]; rfl⟩ | exact ⟨_, resR2 (res1_box s_34 rfl hB2 rfl) (res1_tmp rfl), hX, by rw [doc6n (.inl qx)]; rfl⟩ | exact ⟨_, resR2 (res1_box s_34 rfl hB2 rfl) (res1_tmp rfl), hX, by rw [doc6n (.inr (.inl qy))]; rfl⟩ | exact ⟨_, resR2 (res1_box s_34 rfl hB2 rfl) (res1_tmp rfl), hX, by rw [doc6n (.inr (.inr (.inl qt)))]; rfl⟩ | exact ⟨_, resR2 (res1_box s_34 rfl hB2 rfl) (res1_tmp rfl), hX, by rw [doc6n (.inr (.inr (.inr qp)))]; rfl⟩ | exact ⟨_, resR2 (res1_box s_34 rfl hB2 rfl) (res1_tmp rfl), hX, by rw [doc6c (fun e => e.1.elim qk qw)]; rfl⟩ | exact ⟨_, resR2 (res1_box s_34 rfl hB2 rfl) (res1_tmp rfl), hX, by rw [doc6c (fun e => e.2 ⟨q129, q133, q5⟩)]; rfl⟩ | exact ⟨_, resR2 (res1_box s_34 rfl hB2 rfl) (res1_tmp rfl), hX, by rw [doc6y qx qy qt qp ⟨.inl qk, fun e => kn_ne qk e.2.2⟩]; rfl⟩ | exact ⟨_, resR2 (res1_box s_34 rfl hB2 rfl) (res1_tmp rfl), hX, by rw [doc6y qx qy qt qp ⟨.inr qw, fun e => q129 e.1⟩]; rfl⟩ | exact ⟨_, resR2 (res1_box s_34 rfl hB2 rfl) (res1_tmp rfl), hX, by rw [doc6y qx qy qt qp ⟨.inr qw, fun e => q133 e.2.1⟩]; rfl⟩ | exact ⟨_, resR2 (res1_box s_34 rfl hB2 rfl) (res1_tmp rfl), hX, by rw [doc6y qx qy qt qp ⟨.inr qw, fun e => q5 e.2.2⟩]; rfl⟩
        · have q2 := Classical.not_not.1 (of_decide_eq_false hc2)
          obtain ⟨x, y, t, p, k, rfl⟩ := five_of (l := r) (by simp only [List.length_cons] at q2; omega)
          refine W_skip ?_
          refine W_seq ?_
          refine W_region ?_
          refine wl_val (rn_build' b_34 rfl rfl (cs := aZ.enc) rfl) ?_
          refine wl_alloc z_34 ?_; intro b8 w13 hb8 hE13 hB8
          have hn2_8 : b2 < b8 := Nat.lt_of_lt_of_le hB2.lt hb8
          have hn4_8 : b4 < b8 := Nat.lt_of_lt_of_le hB4.lt hb8
          have hq8 : w.heap.size ≤ b8 := Nat.le_trans hX.size hb8
          have hl8 : Mine Non w b8 := .inr hq8
          have hn8 : n19 ≤ b8 := by omega
          replace hX := hX.tr hE13
          replace hB2 := hB2.ext hE13 id; replace hB4 := hB4.ext hE13 id
          replace hs := hs.ext hE13 (fun _ h => h.elim)
          have hBo := hB8
          refine wl_storeB s_34 rfl rfl rfl (fun v hv => by have hv2 : v ∈ [Value.int .i64 _, Value.int .i64 _, Value.int .i64 _, Sv _, Sv _, Value.bool _] := hv; simp only [List.mem_cons, List.not_mem_nil, or_false] at hv2; rcases hv2 with rfl | rfl | rfl | rfl | rfl | rfl <;> rfl) hB8 rfl ?_; intro w14 hE14 hB8 hz14
          replace hX := hX.mine hE14 hl8
          replace hB2 := hB2.ext hE14 (fun h => by omega); replace hB4 := hB4.ext hE14 (fun h => by omega)
          replace hs := by first | exact hs.ext hE14 (fun i h => by omega) | exact True.intro
          refine wl_nil ?_
          refine W_seq ?_
          refine W_region ?_
          refine wl_val (rn_move (by conv => lhs; whnf)) ?_
          refine wl_val (rn_indexAddr sl_68 rfl rfl (by simp only [List.length_cons, List.length_nil]; omega)) ?_
          refine wl_val (rn_load p_9 rfl (hs.at0 (eS_at (i := 1) (x := x) rfl) rfl)) ?_
          refine wl_call e_104 rfl (rnumM_ok w14 x (hln x (by simp))) ?_; intro v69 w15 hE15 hR15
          replace hX := hX.tr hE15
          replace hB2 := hB2.ext hE15 id; replace hB4 := hB4.ext hE15 id; replace hB8 := hB8.ext hE15 id
          replace hs := hs.ext hE15 (fun _ h => h.elim)
          subst hR15
          refine wl_val (rn_move (by conv => lhs; whnf)) ?_
          refine wl_val (rn_extract rfl rfl) ?_
          refine wl_val (rn_extract rfl rfl) ?_
          refine wl_val (rn_assign (by conv => lhs; whnf)) ?_
          refine wl_val (rn_assign (by conv => lhs; whnf)) ?_
          refine wl_nil ?_
          refine W_seq ?_
          refine W_region ?_
          refine wl_val (rn_move (by conv => lhs; whnf)) ?_
          refine wl_val (rn_indexAddr sl_68 rfl rfl (by simp only [List.length_cons, List.length_nil]; omega)) ?_
          refine wl_val (rn_load p_9 rfl (hs.at0 (eS_at (i := 2) (x := y) rfl) rfl)) ?_
          refine wl_call e_104 rfl (rnumM_ok w15 y (hln y (by simp))) ?_; intro v76 w16 hE16 hR16
          replace hX := hX.tr hE16
          replace hB2 := hB2.ext hE16 id; replace hB4 := hB4.ext hE16 id; replace hB8 := hB8.ext hE16 id
          replace hs := hs.ext hE16 (fun _ h => h.elim)
          subst hR16
          refine wl_val (rn_move (by conv => lhs; whnf)) ?_
          refine wl_val (rn_extract rfl rfl) ?_
          refine wl_val (rn_extract rfl rfl) ?_
          refine wl_val (rn_assign (by conv => lhs; whnf)) ?_
          refine wl_val (rn_assign (by conv => lhs; whnf)) ?_
          refine wl_nil ?_
          refine W_seq ?_
          refine W_seq ?_
          refine W_region ?_
          refine wl_val (rn_move (by conv => lhs; whnf)) ?_
          refine wl_val (rn_not rfl) ?_
          refine wl_val (rn_move (by conv => lhs; whnf)) ?_
          refine wl_split (d := 81) rfl (fun hg81 => ?_) (fun hg81 => ?_)
          · have qx : (numM x).isSome = false := by simpa using hg81
            refine wl_no rfl (congrArg Value.bool hg81) ?_
            refine wl_no rfl (congrArg Value.bool hg81) ?_
            refine wl_val (rn_pickT (congrArg Value.bool hg81) (by conv => lhs; whnf)) ?_
            refine wl_nil ?_
            refine W_condT rfl ?_
            refine W_seq ?_
            refine W_region ?_
            refine wl_val (rn_loadB s_34 rfl rfl hB4) ?_
            have hBo := hB2
            refine wl_storeB s_34 rfl rfl rfl (fun v hv => by have hv2 : v ∈ [Value.int .i64 _, Value.int .i64 _, Value.int .i64 _, Sv _, Sv _, Value.bool _] := hv; simp only [List.mem_cons, List.not_mem_nil, or_false] at hv2; rcases hv2 with rfl | rfl | rfl | rfl | rfl | rfl <;> rfl) hB2 rfl ?_; intro w17 hE17 hB2 hz17
            replace hX := hX.mine hE17 hl2
            replace hB4 := hB4.ext hE17 (fun h => by omega); replace hB8 := hB8.ext hE17 (fun h => by omega)
            replace hs := by first | exact hs.ext hE17 (fun i h => by omega) | exact True.intro
            refine wl_val (rn_assign (by conv => lhs; whnf)) ?_
            refine wl_nil ?_
            refine W_ret ?_
            first | exact ⟨_, resR2 (res1_box s_34 rfl hB2 rfl) (res1_tmp rfl), hX, by rw [docE0 q38]; rfl⟩ | exact ⟨_, resR2 (res1_box s_34 rfl hB2 rfl) (res1_tmp rfl), hX, by rw [docE q38, if_neg (fun e => by have := e.1; omega)]; rfl⟩ | exact ⟨_, resR2 (res1_box s_34 rfl hB2 rfl) (res1_tmp rfl), hX, by rw [docE q38, if_neg (fun e => by have := e.2; omega)]; rfl⟩ | exact ⟨_, resR2 (res1_box s_34 rfl hB2 rfl) (res1_tmp rfl), hX, by rw [docE q38, if_pos (by omega)]; rfl⟩ | exact ⟨_, resR2 (res1_box s_34 rfl hB2 rfl) (res1_tmp rfl), hX, by rw [docT_none hn1 (.inr hn3)]; rfl⟩ | exact ⟨_, resR2 (res1_box s_34 rfl hB2 rfl) (res1_tmp rfl), hX, by rw [docT_none hn1 (.inl ⟨fun e => q57 (by simp [e]), fun e => q2 (by simp [e])⟩)]; rfl⟩ | exact ⟨_, resR2 (res1_box s_34 rfl hB2 rfl) (res1_tmp rfl), hX, by rw [doc3n (.inl qx)]; rfl⟩ | exact ⟨_, resR2 (res1_box s_34 rfl hB2 rfl) (res1_tmp rfl), hX, by rw [doc3n (.inr qy)]; rfl⟩ | exact ⟨_, resR2 (res1_box s_34 rfl hB2 rfl) (res1_tmp rfl), hX, by rw [doc3y qx qy]; rfl⟩ | exact ⟨_, resR2 (res1_box s_34 rfl hB2 rfl) (res1_tmp rfl), hX, by rw [doc6n (.inl qx)]; rfl⟩ | exact ⟨_, resR2 (res1_box s_34 rfl hB2 rfl) (res1_tmp rfl), hX, by rw [doc6n (.inr (.inl qy))]; rfl⟩ | exact ⟨_, resR2 (res1_box s_34 rfl hB2 rfl) (res1_tmp rfl), hX, by rw [doc6n (.inr (.inr (.inl qt)))]; rfl⟩ | exact ⟨_, resR2 (res1_box s_34 rfl hB2 rfl) (res1_tmp rfl), hX, by rw [doc6n (.inr (.inr (.inr qp)))]; rfl⟩ | exact ⟨_, resR2 (res1_box s_34 rfl hB2 rfl) (res1_tmp rfl), hX, by rw [doc6c (fun e => e.1.elim qk qw)]; rfl⟩ | exact ⟨_, resR2 (res1_box s_34 rfl hB2 rfl) (res1_tmp rfl), hX, by rw [doc6c (fun e => e.2 ⟨q129, q133, q5⟩)]; rfl⟩ | exact ⟨_, resR2 (res1_box s_34 rfl hB2 rfl) (res1_tmp rfl), hX, by rw [doc6y qx qy qt qp ⟨.inl qk, fun e => kn_ne qk e.2.2⟩]; rfl⟩ | exact ⟨_, resR2 (res1_box s_34 rfl hB2 rfl) (res1_tmp rfl), hX, by rw [doc6y qx qy qt qp ⟨.inr qw, fun e => q129 e.1⟩]; rfl⟩ | exact ⟨_, resR2 (res1_box s_34 rfl hB2 rfl) (res1_tmp rfl), hX, by rw [doc6y qx qy qt qp ⟨.inr qw, fun e => q133 e.2.1⟩]; rfl⟩ | exact ⟨_, resR2 (res1_box s_34 rfl hB2 rfl) (res1_tmp rfl), hX, by rw [doc6y qx qy qt qp ⟨.inr qw, fun e => q5 e.2.2⟩]; rfl⟩
          · have qx : (numM x).isSome = true := by simpa using hg81
            refine wl_yes rfl (congrArg Value.bool hg81) ?_
            refine wl_val (rn_move (by conv => lhs; whnf)) ?_
            refine wl_yes rfl (congrArg Value.bool hg81) ?_
            refine wl_val (rn_not rfl) ?_
            refine wl_val (rn_pickF (congrArg Value.bool hg81) (by conv => lhs; whnf)) ?_
            refine wl_nil ?_
            refine W_cond rfl (fun hc3 => ?_) (fun hc3 => ?_)
            · have qy : (numM y).isSome = false := by simpa using hc3
              refine W_seq ?_
              refine W_region ?_
              refine wl_val (rn_loadB s_34 rfl rfl hB4) ?_
              have hBo := hB2
              refine wl_storeB s_34 rfl rfl rfl (fun v hv => by have hv2 : v ∈ [Value.int .i64 _, Value.int .i64 _, Value.int .i64 _, Sv _, Sv _, Value.bool _] := hv; simp only [List.mem_cons, List.not_mem_nil, or_false] at hv2; rcases hv2 with rfl | rfl | rfl | rfl | rfl | rfl <;> rfl) hB2 rfl ?_; intro w18 hE18 hB2 hz18
              replace hX := hX.mine hE18 hl2
              replace hB4 := hB4.ext hE18 (fun h => by omega); replace hB8 := hB8.ext hE18 (fun h => by omega)
              replace hs := by first | exact hs.ext hE18 (fun i h => by omega) | exact True.intro
              refine wl_val (rn_assign (by conv => lhs; whnf)) ?_
              refine wl_nil ?_
              refine W_ret ?_
              first | exact ⟨_, resR2 (res1_box s_34 rfl hB2 rfl) (res1_tmp rfl), hX, by rw [docE0 q38]; rfl⟩ | exact ⟨_, resR2 (res1_box s_34 rfl hB2 rfl) (res1_tmp rfl), hX, by rw [docE q38, if_neg (fun e => by have := e.1; omega)]; rfl⟩ | exact ⟨_, resR2 (res1_box s_34 rfl hB2 rfl) (res1_tmp rfl), hX, by rw [docE q38, if_neg (fun e => by have := e.2; omega)]; rfl⟩ | exact ⟨_, resR2 (res1_box s_34 rfl hB2 rfl) (res1_tmp rfl), hX, by rw [docE q38, if_pos (by omega)]; rfl⟩ | exact ⟨_, resR2 (res1_box s_34 rfl hB2 rfl) (res1_tmp rfl), hX, by rw [docT_none hn1 (.inr hn3)]; rfl⟩ | exact ⟨_, resR2 (res1_box s_34 rfl hB2 rfl) (res1_tmp rfl), hX, by rw [docT_none hn1 (.inl ⟨fun e => q57 (by simp [e]), fun e => q2 (by simp [e])⟩)]; rfl⟩ | exact ⟨_, resR2 (res1_box s_34 rfl hB2 rfl) (res1_tmp rfl), hX, by rw [doc3n (.inl qx)]; rfl⟩ | exact ⟨_, resR2 (res1_box s_34 rfl hB2 rfl) (res1_tmp rfl), hX, by rw [doc3n (.inr qy)]; rfl⟩ | exact ⟨_, resR2 (res1_box s_34 rfl hB2 rfl) (res1_tmp rfl), hX, by rw [doc3y qx qy]; rfl⟩ | exact ⟨_, resR2 (res1_box s_34 rfl hB2 rfl) (res1_tmp rfl), hX, by rw [doc6n (.inl qx)]; rfl⟩ | exact ⟨_, resR2 (res1_box s_34 rfl hB2 rfl) (res1_tmp rfl), hX, by rw [doc6n (.inr (.inl qy))]; rfl⟩ | exact ⟨_, resR2 (res1_box s_34 rfl hB2 rfl) (res1_tmp rfl), hX, by rw [doc6n (.inr (.inr (.inl qt)))]; rfl⟩ | exact ⟨_, resR2 (res1_box s_34 rfl hB2 rfl) (res1_tmp rfl), hX, by rw [doc6n (.inr (.inr (.inr qp)))]; rfl⟩ | exact ⟨_, resR2 (res1_box s_34 rfl hB2 rfl) (res1_tmp rfl), hX, by rw [doc6c (fun e => e.1.elim qk qw)]; rfl⟩ | exact ⟨_, resR2 (res1_box s_34 rfl hB2 rfl) (res1_tmp rfl), hX, by rw [doc6c (fun e => e.2 ⟨q129, q133, q5⟩)]; rfl⟩ | exact ⟨_, resR2 (res1_box s_34 rfl hB2 rfl) (res1_tmp rfl), hX, by rw [doc6y qx qy qt qp ⟨.inl qk, fun e => kn_ne qk e.2.2⟩]; rfl⟩ | exact ⟨_, resR2 (res1_box s_34 rfl hB2 rfl) (res1_tmp rfl), hX, by rw [doc6y qx qy qt qp ⟨.inr qw, fun e => q129 e.1⟩]; rfl⟩ | exact ⟨_, resR2 (res1_box s_34 rfl hB2 rfl) (res1_tmp rfl), hX, by rw [doc6y qx qy qt qp ⟨.inr qw, fun e => q133 e.2.1⟩]; rfl⟩ | exact ⟨_, resR2 (res1_box s_34 rfl hB2 rfl) (res1_tmp rfl), hX, by rw [doc6y qx qy qt qp ⟨.inr qw, fun e => q5 e.2.2⟩]; rfl⟩
            · have qy : (numM y).isSome = true := by simpa using hc3
              refine W_skip ?_
              refine W_seq ?_
              refine W_region ?_
              refine wl_val (rn_move (by conv => lhs; whnf)) ?_
              refine wl_val (rn_move (by conv => lhs; whnf)) ?_
              refine wl_val (rn_fieldAddr f_34_1 (by decide) rfl) ?_
              have hBo := hB8
              refine wl_store1 (b := b8) p_3 rfl (by conv => lhs; whnf) rfl rfl hB8 (Nat.le_of_ble_eq_true rfl) ?_; intro w19 hE19 hB8 hz19
              replace hX := hX.mine hE19 hl8
              replace hB2 := hB2.ext hE19 (fun h => by omega); replace hB4 := hB4.ext hE19 (fun h => by omega)
              replace hs := by first | exact hs.ext hE19 (fun i h => by omega) | exact True.intro
              refine wl_val (rn_fieldAddr f_34_2 (by decide) rfl) ?_
              have hBo := hB8
              refine wl_store1 (b := b8) p_3 rfl (by conv => lhs; whnf) rfl rfl hB8 (Nat.le_of_ble_eq_true rfl) ?_; intro w20 hE20 hB8 hz20
              replace hX := hX.mine hE20 hl8
              replace hB2 := hB2.ext hE20 (fun h => by omega); replace hB4 := hB4.ext hE20 (fun h => by omega)
              replace hs := by first | exact hs.ext hE20 (fun i h => by omega) | exact True.intro
              refine wl_nil ?_
              refine W_seq ?_
              refine W_seq ?_
              refine W_region ?_
              refine wl_val (rn_move (by conv => lhs; whnf)) ?_
              refine wl_val (rn_len sl_68 rfl) ?_
              refine wl_val (rn_eql rfl rfl) ?_
              refine wl_nil ?_
              refine W_cond rfl (fun hc4 => ?_) (fun hc4 => ?_)
              · exact absurd (of_decide_eq_true hc4) (by simp)
              · refine W_skip ?_
                refine W_seq ?_
                refine W_region ?_
                refine wl_val (rn_move (by conv => lhs; whnf)) ?_
                refine wl_val (rn_indexAddr sl_68 rfl rfl (by simp only [List.length_cons, List.length_nil]; omega)) ?_
                refine wl_val (rn_load p_9 rfl (hs.at0 (eS_at (i := 3) (x := t) rfl) rfl)) ?_
                refine wl_call e_45 rfl (runword_ok w20 t (hln t (by simp))) ?_; intro v98 w21 hE21 hR21
                replace hX := hX.tr hE21
                replace hB2 := hB2.ext hE21 id; replace hB4 := hB4.ext hE21 id; replace hB8 := hB8.ext hE21 id
                replace hs := hs.ext hE21 (fun _ h => h.elim)
                subst hR21
                refine wl_val (rn_move (by conv => lhs; whnf)) ?_
                refine wl_val (rn_extract rfl rfl) ?_
                refine wl_val (rn_extract rfl rfl) ?_
                refine wl_val (rn_assign (by conv => lhs; whnf)) ?_
                refine wl_val (rn_assign (by conv => lhs; whnf)) ?_
                refine wl_nil ?_
                refine W_seq ?_
                refine W_region ?_
                refine wl_val (rn_move (by conv => lhs; whnf)) ?_
                refine wl_val (rn_indexAddr sl_68 rfl rfl (by simp only [List.length_cons, List.length_nil]; omega)) ?_
                refine wl_val (rn_load p_9 rfl (hs.at0 (eS_at (i := 4) (x := p) rfl) rfl)) ?_
                refine wl_call e_45 rfl (runword_ok w21 p (hln p (by simp))) ?_; intro v105 w22 hE22 hR22
                replace hX := hX.tr hE22
                replace hB2 := hB2.ext hE22 id; replace hB4 := hB4.ext hE22 id; replace hB8 := hB8.ext hE22 id
                replace hs := hs.ext hE22 (fun _ h => h.elim)
                subst hR22
                refine wl_val (rn_move (by conv => lhs; whnf)) ?_
                refine wl_val (rn_extract rfl rfl) ?_
                refine wl_val (rn_extract rfl rfl) ?_
                refine wl_val (rn_assign (by conv => lhs; whnf)) ?_
                refine wl_val (rn_assign (by conv => lhs; whnf)) ?_
                refine wl_nil ?_
                refine W_seq ?_
                refine W_seq ?_
                refine W_region ?_
                refine wl_val (rn_move (by conv => lhs; whnf)) ?_
                refine wl_val (rn_not rfl) ?_
                refine wl_val (rn_move (by conv => lhs; whnf)) ?_
                refine wl_split (d := 110) rfl (fun hg110 => ?_) (fun hg110 => ?_)
                · have qt : (unR t).isSome = false := by simpa using hg110
                  refine wl_no rfl (congrArg Value.bool hg110) ?_
                  refine wl_no rfl (congrArg Value.bool hg110) ?_
                  refine wl_val (rn_pickT (congrArg Value.bool hg110) (by conv => lhs; whnf)) ?_
                  refine wl_val (rn_move (by conv => lhs; whnf)) ?_
                  refine wl_no rfl rfl ?_
                  refine wl_no rfl rfl ?_
                  refine wl_no rfl rfl ?_
                  refine wl_no rfl rfl ?_
                  refine wl_no rfl rfl ?_
                  refine wl_nou rfl rfl ?_
                  refine wl_nou rfl rfl ?_
                  refine wl_nou rfl rfl ?_
                  refine wl_nou rfl rfl ?_
                  refine wl_no rfl rfl ?_
                  refine wl_val (rn_pickT rfl (by conv => lhs; whnf)) ?_
                  refine wl_val (rn_move (by conv => lhs; whnf)) ?_
                  refine wl_no rfl rfl ?_
                  refine wl_no rfl rfl ?_
                  refine wl_no rfl rfl ?_
                  refine wl_nou rfl rfl ?_
                  refine wl_nou rfl rfl ?_
                  refine wl_no rfl rfl ?_
                  refine wl_no rfl rfl ?_
                  refine wl_nou rfl rfl ?_
                  refine wl_nou rfl rfl ?_
                  refine wl_nou rfl rfl ?_
                  refine wl_nou rfl rfl ?_
                  refine wl_no rfl rfl ?_
                  refine wl_val (rn_pickT rfl (by conv => lhs; whnf)) ?_
                  refine wl_nil ?_
                  refine W_condT rfl ?_
                  refine W_seq ?_
                  refine W_region ?_
                  refine wl_val (rn_loadB s_34 rfl rfl hB4) ?_
                  have hBo := hB2
                  refine wl_storeB s_34 rfl rfl rfl (fun v hv => by have hv2 : v ∈ [Value.int .i64 _, Value.int .i64 _, Value.int .i64 _, Sv _, Sv _, Value.bool _] := hv; simp only [List.mem_cons, List.not_mem_nil, or_false] at hv2; rcases hv2 with rfl | rfl | rfl | rfl | rfl | rfl <;> rfl) hB2 rfl ?_; intro w23 hE23 hB2 hz23
                  replace hX := hX.mine hE23 hl2
                  replace hB4 := hB4.ext hE23 (fun h => by omega); replace hB8 := hB8.ext hE23 (fun h => by omega)
                  replace hs := by first | exact hs.ext hE23 (fun i h => by omega) | exact True.intro
                  refine wl_val (rn_assign (by conv => lhs; whnf)) ?_
                  refine wl_nil ?_
                  refine W_ret ?_
                  first | exact ⟨_, resR2 (res1_box s_34 rfl hB2 rfl) (res1_tmp rfl), hX, by rw [docE0 q38]; rfl⟩ | exact ⟨_, resR2 (res1_box s_34 rfl hB2 rfl) (res1_tmp rfl), hX, by rw [docE q38, if_neg (fun e => by have := e.1; omega)]; rfl⟩ | exact ⟨_, resR2 (res1_box s_34 rfl hB2 rfl) (res1_tmp rfl), hX, by rw [docE q38, if_neg (fun e => by have := e.2; omega)]; rfl⟩ | exact ⟨_, resR2 (res1_box s_34 rfl hB2 rfl) (res1_tmp rfl), hX, by rw [docE q38, if_pos (by omega)]; rfl⟩ | exact ⟨_, resR2 (res1_box s_34 rfl hB2 rfl) (res1_tmp rfl), hX, by rw [docT_none hn1 (.inr hn3)]; rfl⟩ | exact ⟨_, resR2 (res1_box s_34 rfl hB2 rfl) (res1_tmp rfl), hX, by rw [docT_none hn1 (.inl ⟨fun e => q57 (by simp [e]), fun e => q2 (by simp [e])⟩)]; rfl⟩ | exact ⟨_, resR2 (res1_box s_34 rfl hB2 rfl) (res1_tmp rfl), hX, by rw [doc3n (.inl qx)]; rfl⟩ | exact ⟨_, resR2 (res1_box s_34 rfl hB2 rfl) (res1_tmp rfl), hX, by rw [doc3n (.inr qy)]; rfl⟩ | exact ⟨_, resR2 (res1_box s_34 rfl hB2 rfl) (res1_tmp rfl), hX, by rw [doc3y qx qy]; rfl⟩ | exact ⟨_, resR2 (res1_box s_34 rfl hB2 rfl) (res1_tmp rfl), hX, by rw [doc6n (.inl qx)]; rfl⟩ | exact ⟨_, resR2 (res1_box s_34 rfl hB2 rfl) (res1_tmp rfl), hX, by rw [doc6n (.inr (.inl qy))]; rfl⟩ | exact ⟨_, resR2 (res1_box s_34 rfl hB2 rfl) (res1_tmp rfl), hX, by rw [doc6n (.inr (.inr (.inl qt)))]; rfl⟩ | exact ⟨_, resR2 (res1_box s_34 rfl hB2 rfl) (res1_tmp rfl), hX, by rw [doc6n (.inr (.inr (.inr qp)))]; rfl⟩ | exact ⟨_, resR2 (res1_box s_34 rfl hB2 rfl) (res1_tmp rfl), hX, by rw [doc6c (fun e => e.1.elim qk qw)]; rfl⟩ | exact ⟨_, resR2 (res1_box s_34 rfl hB2 rfl) (res1_tmp rfl), hX, by rw [doc6c (fun e => e.2 ⟨q129, q133, q5⟩)]; rfl⟩ | exact ⟨_, resR2 (res1_box s_34 rfl hB2 rfl) (res1_tmp rfl), hX, by rw [doc6y qx qy qt qp ⟨.inl qk, fun e => kn_ne qk e.2.2⟩]; rfl⟩ | exact ⟨_, resR2 (res1_box s_34 rfl hB2 rfl) (res1_tmp rfl), hX, by rw [doc6y qx qy qt qp ⟨.inr qw, fun e => q129 e.1⟩]; rfl⟩ | exact ⟨_, resR2 (res1_box s_34 rfl hB2 rfl) (res1_tmp rfl), hX, by rw [doc6y qx qy qt qp ⟨.inr qw, fun e => q133 e.2.1⟩]; rfl⟩ | exact ⟨_, resR2 (res1_box s_34 rfl hB2 rfl) (res1_tmp rfl), hX, by rw [doc6y qx qy qt qp ⟨.inr qw, fun e => q5 e.2.2⟩]; rfl⟩
                · have qt : (unR t).isSome = true := by simpa using hg110
                  refine wl_yes rfl (congrArg Value.bool hg110) ?_
                  refine wl_val (rn_move (by conv => lhs; whnf)) ?_
                  refine wl_yes rfl (congrArg Value.bool hg110) ?_
                  refine wl_val (rn_not rfl) ?_
                  refine wl_val (rn_pickF (congrArg Value.bool hg110) (by conv => lhs; whnf)) ?_
                  refine wl_val (rn_move (by conv => lhs; whnf)) ?_
                  refine wl_split (d := 114) rfl (fun hg114 => ?_) (fun hg114 => ?_)
                  · have qp : (unR p).isSome = false := by simpa using hg114
                    refine wl_no rfl (congrArg Value.bool hg114) ?_
                    refine wl_no rfl (congrArg Value.bool hg114) ?_
                    refine wl_no rfl (congrArg Value.bool hg114) ?_
                    refine wl_no rfl (congrArg Value.bool hg114) ?_
                    refine wl_no rfl (congrArg Value.bool hg114) ?_
                    refine wl_nou rfl rfl ?_
                    refine wl_nou rfl rfl ?_
                    refine wl_nou rfl rfl ?_
                    refine wl_nou rfl rfl ?_
                    refine wl_no rfl (congrArg Value.bool hg114) ?_
                    refine wl_val (rn_pickT (congrArg Value.bool hg114) (by conv => lhs; whnf)) ?_
                    refine wl_val (rn_move (by conv => lhs; whnf)) ?_
                    refine wl_no rfl rfl ?_
                    refine wl_no rfl rfl ?_
                    refine wl_no rfl rfl ?_
                    refine wl_nou rfl rfl ?_
                    refine wl_nou rfl rfl ?_
                    refine wl_no rfl rfl ?_
                    refine wl_no rfl rfl ?_
                    refine wl_nou rfl rfl ?_
                    refine wl_nou rfl rfl ?_
                    refine wl_nou rfl rfl ?_
                    refine wl_nou rfl rfl ?_
                    refine wl_no rfl rfl ?_
                    refine wl_val (rn_pickT rfl (by conv => lhs; whnf)) ?_
                    refine wl_nil ?_
                    refine W_condT rfl ?_
                    refine W_seq ?_
                    refine W_region ?_
                    refine wl_val (rn_loadB s_34 rfl rfl hB4) ?_
                    have hBo := hB2
                    refine wl_storeB s_34 rfl rfl rfl (fun v hv => by have hv2 : v ∈ [Value.int .i64 _, Value.int .i64 _, Value.int .i64 _, Sv _, Sv _, Value.bool _] := hv; simp only [List.mem_cons, List.not_mem_nil, or_false] at hv2; rcases hv2 with rfl | rfl | rfl | rfl | rfl | rfl <;> rfl) hB2 rfl ?_; intro w24 hE24 hB2 hz24
                    replace hX := hX.mine hE24 hl2
                    replace hB4 := hB4.ext hE24 (fun h => by omega); replace hB8 := hB8.ext hE24 (fun h => by omega)
                    replace hs := by first | exact hs.ext hE24 (fun i h => by omega) | exact True.intro
                    refine wl_val (rn_assign (by conv => lhs; whnf)) ?_
                    refine wl_nil ?_
                    refine W_ret ?_
                    first | exact ⟨_, resR2 (res1_box s_34 rfl hB2 rfl) (res1_tmp rfl), hX, by rw [docE0 q38]; rfl⟩ | exact ⟨_, resR2 (res1_box s_34 rfl hB2 rfl) (res1_tmp rfl), hX, by rw [docE q38, if_neg (fun e => by have := e.1; omega)]; rfl⟩ | exact ⟨_, resR2 (res1_box s_34 rfl hB2 rfl) (res1_tmp rfl), hX, by rw [docE q38, if_neg (fun e => by have := e.2; omega)]; rfl⟩ | exact ⟨_, resR2 (res1_box s_34 rfl hB2 rfl) (res1_tmp rfl), hX, by rw [docE q38, if_pos (by omega)]; rfl⟩ | exact ⟨_, resR2 (res1_box s_34 rfl hB2 rfl) (res1_tmp rfl), hX, by rw [docT_none hn1 (.inr hn3)]; rfl⟩ | exact ⟨_, resR2 (res1_box s_34 rfl hB2 rfl) (res1_tmp rfl), hX, by rw [docT_none hn1 (.inl ⟨fun e => q57 (by simp [e]), fun e => q2 (by simp [e])⟩)]; rfl⟩ | exact ⟨_, resR2 (res1_box s_34 rfl hB2 rfl) (res1_tmp rfl), hX, by rw [doc3n (.inl qx)]; rfl⟩ | exact ⟨_, resR2 (res1_box s_34 rfl hB2 rfl) (res1_tmp rfl), hX, by rw [doc3n (.inr qy)]; rfl⟩ | exact ⟨_, resR2 (res1_box s_34 rfl hB2 rfl) (res1_tmp rfl), hX, by rw [doc3y qx qy]; rfl⟩ | exact ⟨_, resR2 (res1_box s_34 rfl hB2 rfl) (res1_tmp rfl), hX, by rw [doc6n (.inl qx)]; rfl⟩ | exact ⟨_, resR2 (res1_box s_34 rfl hB2 rfl) (res1_tmp rfl), hX, by rw [doc6n (.inr (.inl qy))]; rfl⟩ | exact ⟨_, resR2 (res1_box s_34 rfl hB2 rfl) (res1_tmp rfl), hX, by rw [doc6n (.inr (.inr (.inl qt)))]; rfl⟩ | exact ⟨_, resR2 (res1_box s_34 rfl hB2 rfl) (res1_tmp rfl), hX, by rw [doc6n (.inr (.inr (.inr qp)))]; rfl⟩ | exact ⟨_, resR2 (res1_box s_34 rfl hB2 rfl) (res1_tmp rfl), hX, by rw [doc6c (fun e => e.1.elim qk qw)]; rfl⟩ | exact ⟨_, resR2 (res1_box s_34 rfl hB2 rfl) (res1_tmp rfl), hX, by rw [doc6c (fun e => e.2 ⟨q129, q133, q5⟩)]; rfl⟩ | exact ⟨_, resR2 (res1_box s_34 rfl hB2 rfl) (res1_tmp rfl), hX, by rw [doc6y qx qy qt qp ⟨.inl qk, fun e => kn_ne qk e.2.2⟩]; rfl⟩ | exact ⟨_, resR2 (res1_box s_34 rfl hB2 rfl) (res1_tmp rfl), hX, by rw [doc6y qx qy qt qp ⟨.inr qw, fun e => q129 e.1⟩]; rfl⟩ | exact ⟨_, resR2 (res1_box s_34 rfl hB2 rfl) (res1_tmp rfl), hX, by rw [doc6y qx qy qt qp ⟨.inr qw, fun e => q133 e.2.1⟩]; rfl⟩ | exact ⟨_, resR2 (res1_box s_34 rfl hB2 rfl) (res1_tmp rfl), hX, by rw [doc6y qx qy qt qp ⟨.inr qw, fun e => q5 e.2.2⟩]; rfl⟩
                  · have qp : (unR p).isSome = true := by simpa using hg114
                    refine wl_yes rfl (congrArg Value.bool hg114) ?_
                    refine wl_val (rn_move (by conv => lhs; whnf)) ?_
                    refine wl_yes rfl (congrArg Value.bool hg114) ?_
                    refine wl_val (rn_indexAddr sl_68 rfl rfl (by simp only [List.length_cons, List.length_nil]; omega)) ?_
                    refine wl_yes rfl (congrArg Value.bool hg114) ?_
                    refine wl_val (rn_load p_9 rfl (hs.at0 (eS_at (i := 5) (x := k) rfl) rfl)) ?_
                    refine wl_yes rfl (congrArg Value.bool hg114) ?_
                    refine wl_val (rn_sneq rfl rfl) ?_
                    refine wl_yes rfl (congrArg Value.bool hg114) ?_
                    refine wl_val (rn_move (by conv => lhs; whnf)) ?_
                    refine wl_split (d := 119) rfl (fun hg119 => ?_) (fun hg119 => ?_)
                    · have qk : ¬ k = sKept := of_decide_eq_true hg119
                      refine wl_yes rfl (congrArg Value.bool hg119) ?_
                      refine wl_val (rn_move (by conv => lhs; whnf)) ?_
                      refine wl_yes rfl (congrArg Value.bool hg119) ?_
                      refine wl_val (rn_indexAddr sl_68 rfl rfl (by simp only [List.length_cons, List.length_nil]; omega)) ?_
                      refine wl_yes rfl (congrArg Value.bool hg119) ?_
                      refine wl_val (rn_load p_9 rfl (hs.at0 (eS_at (i := 5) (x := k) rfl) rfl)) ?_
                      refine wl_yes rfl (congrArg Value.bool hg119) ?_
                      refine wl_val (rn_sneq rfl rfl) ?_
                      refine wl_yes rfl (congrArg Value.bool hg114) ?_
                      refine wl_val (rn_pickT (congrArg Value.bool hg119) (by conv => lhs; whnf)) ?_
                      refine wl_val (rn_pickF (congrArg Value.bool hg114) (by conv => lhs; whnf)) ?_
                      refine wl_val (rn_move (by conv => lhs; whnf)) ?_
                      refine wl_split (d := 126) rfl (fun hg126 => ?_) (fun hg126 => ?_)
                      · have qw : ¬ k = sNew := of_decide_eq_true hg126
                        refine wl_no rfl (congrArg Value.bool hg126) ?_
                        refine wl_no rfl (congrArg Value.bool hg126) ?_
                        refine wl_no rfl (congrArg Value.bool hg126) ?_
                        refine wl_nou rfl rfl ?_
                        refine wl_nou rfl rfl ?_
                        refine wl_no rfl (congrArg Value.bool hg126) ?_
                        refine wl_no rfl (congrArg Value.bool hg126) ?_
                        refine wl_nou rfl rfl ?_
                        refine wl_nou rfl rfl ?_
                        refine wl_nou rfl rfl ?_
                        refine wl_nou rfl rfl ?_
                        refine wl_no rfl (congrArg Value.bool hg126) ?_
                        refine wl_val (rn_pickT (congrArg Value.bool hg126) (by conv => lhs; whnf)) ?_
                        refine wl_nil ?_
                        refine W_condT rfl ?_
                        refine W_seq ?_
                        refine W_region ?_
                        refine wl_val (rn_loadB s_34 rfl rfl hB4) ?_
                        have hBo := hB2
                        refine wl_storeB s_34 rfl rfl rfl (fun v hv => by have hv2 : v ∈ [Value.int .i64 _, Value.int .i64 _, Value.int .i64 _, Sv _, Sv _, Value.bool _] := hv; simp only [List.mem_cons, List.not_mem_nil, or_false] at hv2; rcases hv2 with rfl | rfl | rfl | rfl | rfl | rfl <;> rfl) hB2 rfl ?_; intro w25 hE25 hB2 hz25
                        replace hX := hX.mine hE25 hl2
                        replace hB4 := hB4.ext hE25 (fun h => by omega); replace hB8 := hB8.ext hE25 (fun h => by omega)
                        replace hs := by first | exact hs.ext hE25 (fun i h => by omega) | exact True.intro
                        refine wl_val (rn_assign (by conv => lhs; whnf)) ?_
                        refine wl_nil ?_
                        refine W_ret ?_
                        first | exact ⟨_, resR2 (res1_box s_34 rfl hB2 rfl) (res1_tmp rfl), hX, by rw [docE0 q38]; rfl⟩ | exact ⟨_, resR2 (res1_box s_34 rfl hB2 rfl) (res1_tmp rfl), hX, by rw [docE q38, if_neg (fun e => by have := e.1; omega)]; rfl⟩ | exact ⟨_, resR2 (res1_box s_34 rfl hB2 rfl) (res1_tmp rfl), hX, by rw [docE q38, if_neg (fun e => by have := e.2; omega)]; rfl⟩ | exact ⟨_, resR2 (res1_box s_34 rfl hB2 rfl) (res1_tmp rfl), hX, by rw [docE q38, if_pos (by omega)]; rfl⟩ | exact ⟨_, resR2 (res1_box s_34 rfl hB2 rfl) (res1_tmp rfl), hX, by rw [docT_none hn1 (.inr hn3)]; rfl⟩ | exact ⟨_, resR2 (res1_box s_34 rfl hB2 rfl) (res1_tmp rfl), hX, by rw [docT_none hn1 (.inl ⟨fun e => q57 (by simp [e]), fun e => q2 (by simp [e])⟩)]; rfl⟩ | exact ⟨_, resR2 (res1_box s_34 rfl hB2 rfl) (res1_tmp rfl), hX, by rw [doc3n (.inl qx)]; rfl⟩ | exact ⟨_, resR2 (res1_box s_34 rfl hB2 rfl) (res1_tmp rfl), hX, by rw [doc3n (.inr qy)]; rfl⟩ | exact ⟨_, resR2 (res1_box s_34 rfl hB2 rfl) (res1_tmp rfl), hX, by rw [doc3y qx qy]; rfl⟩ | exact ⟨_, resR2 (res1_box s_34 rfl hB2 rfl) (res1_tmp rfl), hX, by rw [doc6n (.inl qx)]; rfl⟩ | exact ⟨_, resR2 (res1_box s_34 rfl hB2 rfl) (res1_tmp rfl), hX, by rw [doc6n (.inr (.inl qy))]; rfl⟩ | exact ⟨_, resR2 (res1_box s_34 rfl hB2 rfl) (res1_tmp rfl), hX, by rw [doc6n (.inr (.inr (.inl qt)))]; rfl⟩ | exact ⟨_, resR2 (res1_box s_34 rfl hB2 rfl) (res1_tmp rfl), hX, by rw [doc6n (.inr (.inr (.inr qp)))]; rfl⟩ | exact ⟨_, resR2 (res1_box s_34 rfl hB2 rfl) (res1_tmp rfl), hX, by rw [doc6c (fun e => e.1.elim qk qw)]; rfl⟩ | exact ⟨_, resR2 (res1_box s_34 rfl hB2 rfl) (res1_tmp rfl), hX, by rw [doc6c (fun e => e.2 ⟨q129, q133, q5⟩)]; rfl⟩ | exact ⟨_, resR2 (res1_box s_34 rfl hB2 rfl) (res1_tmp rfl), hX, by rw [doc6y qx qy qt qp ⟨.inl qk, fun e => kn_ne qk e.2.2⟩]; rfl⟩ | exact ⟨_, resR2 (res1_box s_34 rfl hB2 rfl) (res1_tmp rfl), hX, by rw [doc6y qx qy qt qp ⟨.inr qw, fun e => q129 e.1⟩]; rfl⟩ | exact ⟨_, resR2 (res1_box s_34 rfl hB2 rfl) (res1_tmp rfl), hX, by rw [doc6y qx qy qt qp ⟨.inr qw, fun e => q133 e.2.1⟩]; rfl⟩ | exact ⟨_, resR2 (res1_box s_34 rfl hB2 rfl) (res1_tmp rfl), hX, by rw [doc6y qx qy qt qp ⟨.inr qw, fun e => q5 e.2.2⟩]; rfl⟩
                      · have qw : k = sNew := Classical.not_not.1 (of_decide_eq_false hg126)
                        refine wl_yes rfl (congrArg Value.bool hg126) ?_
                        refine wl_val (rn_move (by conv => lhs; whnf)) ?_
                        refine wl_yes rfl (congrArg Value.bool hg126) ?_
                        refine wl_val (rn_seql rfl rfl) ?_
                        refine wl_yes rfl (congrArg Value.bool hg126) ?_
                        refine wl_val (rn_move (by conv => lhs; whnf)) ?_
                        refine wl_split (d := 129) rfl (fun hg129 => ?_) (fun hg129 => ?_)
                        · have q129 : (unR t).getD [] = [] := of_decide_eq_true hg129
                          refine wl_yes rfl (congrArg Value.bool hg129) ?_
                          refine wl_val (rn_move (by conv => lhs; whnf)) ?_
                          refine wl_yes rfl (congrArg Value.bool hg129) ?_
                          refine wl_val (rn_seql rfl rfl) ?_
                          refine wl_yes rfl (congrArg Value.bool hg126) ?_
                          refine wl_val (rn_pickT (congrArg Value.bool hg129) (by conv => lhs; whnf)) ?_
                          refine wl_yes rfl (congrArg Value.bool hg126) ?_
                          refine wl_val (rn_move (by conv => lhs; whnf)) ?_
                          refine wl_split (d := 133) rfl (fun hg133 => ?_) (fun hg133 => ?_)
                          · have q133 : (unR p).getD [] = [] := of_decide_eq_true hg133
                            refine wl_yes rfl (congrArg Value.bool hg133) ?_
                            refine wl_val (rn_move (by conv => lhs; whnf)) ?_
                            refine wl_yes rfl (congrArg Value.bool hg133) ?_
                            refine wl_val (rn_indexAddr sl_68 rfl rfl (by simp only [List.length_cons, List.length_nil]; omega)) ?_
                            refine wl_yes rfl (congrArg Value.bool hg133) ?_
                            refine wl_val (rn_load p_9 rfl (hs.at0 (eS_at (i := 5) (x := k) rfl) rfl)) ?_
                            refine wl_yes rfl (congrArg Value.bool hg133) ?_
                            refine wl_val (rn_seql rfl rfl) ?_
                            refine wl_yes rfl (congrArg Value.bool hg126) ?_
                            refine wl_val (rn_pickT (congrArg Value.bool hg133) (by conv => lhs; whnf)) ?_
                            refine wl_val (rn_pickF (congrArg Value.bool hg126) (by conv => lhs; whnf)) ?_
                            refine wl_nil ?_
                            refine W_cond rfl (fun hc5 => ?_) (fun hc5 => ?_)
                            · have q5 : k = sNew := of_decide_eq_true hc5
                              refine W_seq ?_
                              refine W_region ?_
                              refine wl_val (rn_loadB s_34 rfl rfl hB4) ?_
                              have hBo := hB2
                              refine wl_storeB s_34 rfl rfl rfl (fun v hv => by have hv2 : v ∈ [Value.int .i64 _, Value.int .i64 _, Value.int .i64 _, Sv _, Sv _, Value.bool _] := hv; simp only [List.mem_cons, List.not_mem_nil, or_false] at hv2; rcases hv2 with rfl | rfl | rfl | rfl | rfl | rfl <;> rfl) hB2 rfl ?_; intro w26 hE26 hB2 hz26
                              replace hX := hX.mine hE26 hl2
                              replace hB4 := hB4.ext hE26 (fun h => by omega); replace hB8 := hB8.ext hE26 (fun h => by omega)
                              replace hs := by first | exact hs.ext hE26 (fun i h => by omega) | exact True.intro
                              refine wl_val (rn_assign (by conv => lhs; whnf)) ?_
                              refine wl_nil ?_
                              refine W_ret ?_
                              first | exact ⟨_, resR2 (res1_box s_34 rfl hB2 rfl) (res1_tmp rfl), hX, by rw [docE0 q38]; rfl⟩ | exact ⟨_, resR2 (res1_box s_34 rfl hB2 rfl) (res1_tmp rfl), hX, by rw [docE q38, if_neg (fun e => by have := e.1; omega)]; rfl⟩ | exact ⟨_, resR2 (res1_box s_34 rfl hB2 rfl) (res1_tmp rfl), hX, by rw [docE q38, if_neg (fun e => by have := e.2; omega)]; rfl⟩ | exact ⟨_, resR2 (res1_box s_34 rfl hB2 rfl) (res1_tmp rfl), hX, by rw [docE q38, if_pos (by omega)]; rfl⟩ | exact ⟨_, resR2 (res1_box s_34 rfl hB2 rfl) (res1_tmp rfl), hX, by rw [docT_none hn1 (.inr hn3)]; rfl⟩ | exact ⟨_, resR2 (res1_box s_34 rfl hB2 rfl) (res1_tmp rfl), hX, by rw [docT_none hn1 (.inl ⟨fun e => q57 (by simp [e]), fun e => q2 (by simp [e])⟩)]; rfl⟩ | exact ⟨_, resR2 (res1_box s_34 rfl hB2 rfl) (res1_tmp rfl), hX, by rw [doc3n (.inl qx)]; rfl⟩ | exact ⟨_, resR2 (res1_box s_34 rfl hB2 rfl) (res1_tmp rfl), hX, by rw [doc3n (.inr qy)]; rfl⟩ | exact ⟨_, resR2 (res1_box s_34 rfl hB2 rfl) (res1_tmp rfl), hX, by rw [doc3y qx qy]; rfl⟩ | exact ⟨_, resR2 (res1_box s_34 rfl hB2 rfl) (res1_tmp rfl), hX, by rw [doc6n (.inl qx)]; rfl⟩ | exact ⟨_, resR2 (res1_box s_34 rfl hB2 rfl) (res1_tmp rfl), hX, by rw [doc6n (.inr (.inl qy))]; rfl⟩ | exact ⟨_, resR2 (res1_box s_34 rfl hB2 rfl) (res1_tmp rfl), hX, by rw [doc6n (.inr (.inr (.inl qt)))]; rfl⟩ | exact ⟨_, resR2 (res1_box s_34 rfl hB2 rfl) (res1_tmp rfl), hX, by rw [doc6n (.inr (.inr (.inr qp)))]; rfl⟩ | exact ⟨_, resR2 (res1_box s_34 rfl hB2 rfl) (res1_tmp rfl), hX, by rw [doc6c (fun e => e.1.elim qk qw)]; rfl⟩ | exact ⟨_, resR2 (res1_box s_34 rfl hB2 rfl) (res1_tmp rfl), hX, by rw [doc6c (fun e => e.2 ⟨q129, q133, q5⟩)]; rfl⟩ | exact ⟨_, resR2 (res1_box s_34 rfl hB2 rfl) (res1_tmp rfl), hX, by rw [doc6y qx qy qt qp ⟨.inl qk, fun e => kn_ne qk e.2.2⟩]; rfl⟩ | exact ⟨_, resR2 (res1_box s_34 rfl hB2 rfl) (res1_tmp rfl), hX, by rw [doc6y qx qy qt qp ⟨.inr qw, fun e => q129 e.1⟩]; rfl⟩ | exact ⟨_, resR2 (res1_box s_34 rfl hB2 rfl) (res1_tmp rfl), hX, by rw [doc6y qx qy qt qp ⟨.inr qw, fun e => q133 e.2.1⟩]; rfl⟩ | exact ⟨_, resR2 (res1_box s_34 rfl hB2 rfl) (res1_tmp rfl), hX, by rw [doc6y qx qy qt qp ⟨.inr qw, fun e => q5 e.2.2⟩]; rfl⟩
                            · have q5 : ¬ k = sNew := of_decide_eq_false hc5
                              refine W_skip ?_
                              refine W_seq ?_
                              refine W_region ?_
                              refine wl_val (rn_move (by conv => lhs; whnf)) ?_
                              refine wl_val (rn_move (by conv => lhs; whnf)) ?_
                              refine wl_val (rn_move (by conv => lhs; whnf)) ?_
                              refine wl_val (rn_indexAddr sl_68 rfl rfl (by simp only [List.length_cons, List.length_nil]; omega)) ?_
                              refine wl_val (rn_load p_9 rfl (hs.at0 (eS_at (i := 5) (x := k) rfl) rfl)) ?_
                              refine wl_val (rn_seql rfl rfl) ?_
                              refine wl_val (rn_build' b_32 rfl rfl (cs := (MsgD.enc ⟨(unR t).getD [], (unR p).getD [], decide (k = sKept)⟩)) rfl) ?_
                              refine wl_val (rn_fieldAddr f_34_3 (by decide) rfl) ?_
                              have hBo := hB8
                              refine wl_storeP (b := b8) s_32 rfl rfl rfl (MsgD.one _) hB8 (Nat.le_of_ble_eq_true rfl) ?_; intro w27 hE27 hB8 hz27
                              replace hX := hX.mine hE27 hl8
                              replace hB2 := hB2.ext hE27 (fun h => by omega); replace hB4 := hB4.ext hE27 (fun h => by omega)
                              replace hs := by first | exact hs.ext hE27 (fun i h => by omega) | exact True.intro
                              refine wl_nil ?_
                              refine W_seq ?_
                              refine W_region ?_
                              refine wl_val (rn_loadB s_34 rfl rfl hB8) ?_
                              have hBo := hB2
                              refine wl_storeB s_34 rfl rfl rfl (fun v hv => by have hv2 : v ∈ [Value.int .i64 _, Value.int .i64 _, Value.int .i64 _, Sv _, Sv _, Value.bool _] := hv; simp only [List.mem_cons, List.not_mem_nil, or_false] at hv2; rcases hv2 with rfl | rfl | rfl | rfl | rfl | rfl <;> rfl) hB2 rfl ?_; intro w28 hE28 hB2 hz28
                              replace hX := hX.mine hE28 hl2
                              replace hB4 := hB4.ext hE28 (fun h => by omega); replace hB8 := hB8.ext hE28 (fun h => by omega)
                              replace hs := by first | exact hs.ext hE28 (fun i h => by omega) | exact True.intro
                              refine wl_val (rn_assign (by conv => lhs; whnf)) ?_
                              refine wl_nil ?_
                              refine W_ret ?_
                              first | exact ⟨_, resR2 (res1_box s_34 rfl hB2 rfl) (res1_tmp rfl), hX, by rw [docE0 q38]; rfl⟩ | exact ⟨_, resR2 (res1_box s_34 rfl hB2 rfl) (res1_tmp rfl), hX, by rw [docE q38, if_neg (fun e => by have := e.1; omega)]; rfl⟩ | exact ⟨_, resR2 (res1_box s_34 rfl hB2 rfl) (res1_tmp rfl), hX, by rw [docE q38, if_neg (fun e => by have := e.2; omega)]; rfl⟩ | exact ⟨_, resR2 (res1_box s_34 rfl hB2 rfl) (res1_tmp rfl), hX, by rw [docE q38, if_pos (by omega)]; rfl⟩ | exact ⟨_, resR2 (res1_box s_34 rfl hB2 rfl) (res1_tmp rfl), hX, by rw [docT_none hn1 (.inr hn3)]; rfl⟩ | exact ⟨_, resR2 (res1_box s_34 rfl hB2 rfl) (res1_tmp rfl), hX, by rw [docT_none hn1 (.inl ⟨fun e => q57 (by simp [e]), fun e => q2 (by simp [e])⟩)]; rfl⟩ | exact ⟨_, resR2 (res1_box s_34 rfl hB2 rfl) (res1_tmp rfl), hX, by rw [doc3n (.inl qx)]; rfl⟩ | exact ⟨_, resR2 (res1_box s_34 rfl hB2 rfl) (res1_tmp rfl), hX, by rw [doc3n (.inr qy)]; rfl⟩ | exact ⟨_, resR2 (res1_box s_34 rfl hB2 rfl) (res1_tmp rfl), hX, by rw [doc3y qx qy]; rfl⟩ | exact ⟨_, resR2 (res1_box s_34 rfl hB2 rfl) (res1_tmp rfl), hX, by rw [doc6n (.inl qx)]; rfl⟩ | exact ⟨_, resR2 (res1_box s_34 rfl hB2 rfl) (res1_tmp rfl), hX, by rw [doc6n (.inr (.inl qy))]; rfl⟩ | exact ⟨_, resR2 (res1_box s_34 rfl hB2 rfl) (res1_tmp rfl), hX, by rw [doc6n (.inr (.inr (.inl qt)))]; rfl⟩ | exact ⟨_, resR2 (res1_box s_34 rfl hB2 rfl) (res1_tmp rfl), hX, by rw [doc6n (.inr (.inr (.inr qp)))]; rfl⟩ | exact ⟨_, resR2 (res1_box s_34 rfl hB2 rfl) (res1_tmp rfl), hX, by rw [doc6c (fun e => e.1.elim qk qw)]; rfl⟩ | exact ⟨_, resR2 (res1_box s_34 rfl hB2 rfl) (res1_tmp rfl), hX, by rw [doc6c (fun e => e.2 ⟨q129, q133, q5⟩)]; rfl⟩ | exact ⟨_, resR2 (res1_box s_34 rfl hB2 rfl) (res1_tmp rfl), hX, by rw [doc6y qx qy qt qp ⟨.inl qk, fun e => kn_ne qk e.2.2⟩]; rfl⟩ | exact ⟨_, resR2 (res1_box s_34 rfl hB2 rfl) (res1_tmp rfl), hX, by rw [doc6y qx qy qt qp ⟨.inr qw, fun e => q129 e.1⟩]; rfl⟩ | exact ⟨_, resR2 (res1_box s_34 rfl hB2 rfl) (res1_tmp rfl), hX, by rw [doc6y qx qy qt qp ⟨.inr qw, fun e => q133 e.2.1⟩]; rfl⟩ | exact ⟨_, resR2 (res1_box s_34 rfl hB2 rfl) (res1_tmp rfl), hX, by rw [doc6y qx qy qt qp ⟨.inr qw, fun e => q5 e.2.2⟩]; rfl⟩
                          · have q133 : ¬ (unR p).getD [] = [] := of_decide_eq_false hg133
                            refine wl_no rfl (congrArg Value.bool hg133) ?_
                            refine wl_no rfl (congrArg Value.bool hg133) ?_
                            refine wl_no rfl (congrArg Value.bool hg133) ?_
                            refine wl_no rfl (congrArg Value.bool hg133) ?_
                            refine wl_yes rfl (congrArg Value.bool hg126) ?_
                            refine wl_val (rn_pickF (congrArg Value.bool hg133) (by conv => lhs; whnf)) ?_
                            refine wl_val (rn_pickF (congrArg Value.bool hg126) (by conv => lhs; whnf)) ?_
                            refine wl_nil ?_
                            refine W_condF rfl ?_
                            refine W_skip ?_
                            refine W_seq ?_
                            refine W_region ?_
                            refine wl_val (rn_move (by conv => lhs; whnf)) ?_
                            refine wl_val (rn_move (by conv => lhs; whnf)) ?_
                            refine wl_val (rn_move (by conv => lhs; whnf)) ?_
                            refine wl_val (rn_indexAddr sl_68 rfl rfl (by simp only [List.length_cons, List.length_nil]; omega)) ?_
                            refine wl_val (rn_load p_9 rfl (hs.at0 (eS_at (i := 5) (x := k) rfl) rfl)) ?_
                            refine wl_val (rn_seql rfl rfl) ?_
                            refine wl_val (rn_build' b_32 rfl rfl (cs := (MsgD.enc ⟨(unR t).getD [], (unR p).getD [], decide (k = sKept)⟩)) rfl) ?_
                            refine wl_val (rn_fieldAddr f_34_3 (by decide) rfl) ?_
                            have hBo := hB8
                            refine wl_storeP (b := b8) s_32 rfl rfl rfl (MsgD.one _) hB8 (Nat.le_of_ble_eq_true rfl) ?_; intro w29 hE29 hB8 hz29
                            replace hX := hX.mine hE29 hl8
                            replace hB2 := hB2.ext hE29 (fun h => by omega); replace hB4 := hB4.ext hE29 (fun h => by omega)
                            replace hs := by first | exact hs.ext hE29 (fun i h => by omega) | exact True.intro
                            refine wl_nil ?_
                            refine W_seq ?_
                            refine W_region ?_
                            refine wl_val (rn_loadB s_34 rfl rfl hB8) ?_
                            have hBo := hB2
                            refine wl_storeB s_34 rfl rfl rfl (fun v hv => by have hv2 : v ∈ [Value.int .i64 _, Value.int .i64 _, Value.int .i64 _, Sv _, Sv _, Value.bool _] := hv; simp only [List.mem_cons, List.not_mem_nil, or_false] at hv2; rcases hv2 with rfl | rfl | rfl | rfl | rfl | rfl <;> rfl) hB2 rfl ?_; intro w30 hE30 hB2 hz30
                            replace hX := hX.mine hE30 hl2
                            replace hB4 := hB4.ext hE30 (fun h => by omega); replace hB8 := hB8.ext hE30 (fun h => by omega)
                            replace hs := by first | exact hs.ext hE30 (fun i h => by omega) | exact True.intro
                            refine wl_val (rn_assign (by conv => lhs; whnf)) ?_
                            refine wl_nil ?_
                            refine W_ret ?_
                            first | exact ⟨_, resR2 (res1_box s_34 rfl hB2 rfl) (res1_tmp rfl), hX, by rw [docE0 q38]; rfl⟩ | exact ⟨_, resR2 (res1_box s_34 rfl hB2 rfl) (res1_tmp rfl), hX, by rw [docE q38, if_neg (fun e => by have := e.1; omega)]; rfl⟩ | exact ⟨_, resR2 (res1_box s_34 rfl hB2 rfl) (res1_tmp rfl), hX, by rw [docE q38, if_neg (fun e => by have := e.2; omega)]; rfl⟩ | exact ⟨_, resR2 (res1_box s_34 rfl hB2 rfl) (res1_tmp rfl), hX, by rw [docE q38, if_pos (by omega)]; rfl⟩ | exact ⟨_, resR2 (res1_box s_34 rfl hB2 rfl) (res1_tmp rfl), hX, by rw [docT_none hn1 (.inr hn3)]; rfl⟩ | exact ⟨_, resR2 (res1_box s_34 rfl hB2 rfl) (res1_tmp rfl), hX, by rw [docT_none hn1 (.inl ⟨fun e => q57 (by simp [e]), fun e => q2 (by simp [e])⟩)]; rfl⟩ | exact ⟨_, resR2 (res1_box s_34 rfl hB2 rfl) (res1_tmp rfl), hX, by rw [doc3n (.inl qx)]; rfl⟩ | exact ⟨_, resR2 (res1_box s_34 rfl hB2 rfl) (res1_tmp rfl), hX, by rw [doc3n (.inr qy)]; rfl⟩ | exact ⟨_, resR2 (res1_box s_34 rfl hB2 rfl) (res1_tmp rfl), hX, by rw [doc3y qx qy]; rfl⟩ | exact ⟨_, resR2 (res1_box s_34 rfl hB2 rfl) (res1_tmp rfl), hX, by rw [doc6n (.inl qx)]; rfl⟩ | exact ⟨_, resR2 (res1_box s_34 rfl hB2 rfl) (res1_tmp rfl), hX, by rw [doc6n (.inr (.inl qy))]; rfl⟩ | exact ⟨_, resR2 (res1_box s_34 rfl hB2 rfl) (res1_tmp rfl), hX, by rw [doc6n (.inr (.inr (.inl qt)))]; rfl⟩ | exact ⟨_, resR2 (res1_box s_34 rfl hB2 rfl) (res1_tmp rfl), hX, by rw [doc6n (.inr (.inr (.inr qp)))]; rfl⟩ | exact ⟨_, resR2 (res1_box s_34 rfl hB2 rfl) (res1_tmp rfl), hX, by rw [doc6c (fun e => e.1.elim qk qw)]; rfl⟩ | exact ⟨_, resR2 (res1_box s_34 rfl hB2 rfl) (res1_tmp rfl), hX, by rw [doc6c (fun e => e.2 ⟨q129, q133, q5⟩)]; rfl⟩ | exact ⟨_, resR2 (res1_box s_34 rfl hB2 rfl) (res1_tmp rfl), hX, by rw [doc6y qx qy qt qp ⟨.inl qk, fun e => kn_ne qk e.2.2⟩]; rfl⟩ | exact ⟨_, resR2 (res1_box s_34 rfl hB2 rfl) (res1_tmp rfl), hX, by rw [doc6y qx qy qt qp ⟨.inr qw, fun e => q129 e.1⟩]; rfl⟩ | exact ⟨_, resR2 (res1_box s_34 rfl hB2 rfl) (res1_tmp rfl), hX, by rw [doc6y qx qy qt qp ⟨.inr qw, fun e => q133 e.2.1⟩]; rfl⟩ | exact ⟨_, resR2 (res1_box s_34 rfl hB2 rfl) (res1_tmp rfl), hX, by rw [doc6y qx qy qt qp ⟨.inr qw, fun e => q5 e.2.2⟩]; rfl⟩
                        · have q129 : ¬ (unR t).getD [] = [] := of_decide_eq_false hg129
                          refine wl_no rfl (congrArg Value.bool hg129) ?_
                          refine wl_no rfl (congrArg Value.bool hg129) ?_
                          refine wl_yes rfl (congrArg Value.bool hg126) ?_
                          refine wl_val (rn_pickF (congrArg Value.bool hg129) (by conv => lhs; whnf)) ?_
                          refine wl_yes rfl (congrArg Value.bool hg126) ?_
                          refine wl_val (rn_move (by conv => lhs; whnf)) ?_
                          refine wl_no rfl rfl ?_
                          refine wl_no rfl rfl ?_
                          refine wl_no rfl rfl ?_
                          refine wl_no rfl rfl ?_
                          refine wl_yes rfl (congrArg Value.bool hg126) ?_
                          refine wl_val (rn_pickF rfl (by conv => lhs; whnf)) ?_
                          refine wl_val (rn_pickF (congrArg Value.bool hg126) (by conv => lhs; whnf)) ?_
                          refine wl_nil ?_
                          refine W_condF rfl ?_
                          refine W_skip ?_
                          refine W_seq ?_
                          refine W_region ?_
                          refine wl_val (rn_move (by conv => lhs; whnf)) ?_
                          refine wl_val (rn_move (by conv => lhs; whnf)) ?_
                          refine wl_val (rn_move (by conv => lhs; whnf)) ?_
                          refine wl_val (rn_indexAddr sl_68 rfl rfl (by simp only [List.length_cons, List.length_nil]; omega)) ?_
                          refine wl_val (rn_load p_9 rfl (hs.at0 (eS_at (i := 5) (x := k) rfl) rfl)) ?_
                          refine wl_val (rn_seql rfl rfl) ?_
                          refine wl_val (rn_build' b_32 rfl rfl (cs := (MsgD.enc ⟨(unR t).getD [], (unR p).getD [], decide (k = sKept)⟩)) rfl) ?_
                          refine wl_val (rn_fieldAddr f_34_3 (by decide) rfl) ?_
                          have hBo := hB8
                          refine wl_storeP (b := b8) s_32 rfl rfl rfl (MsgD.one _) hB8 (Nat.le_of_ble_eq_true rfl) ?_; intro w31 hE31 hB8 hz31
                          replace hX := hX.mine hE31 hl8
                          replace hB2 := hB2.ext hE31 (fun h => by omega); replace hB4 := hB4.ext hE31 (fun h => by omega)
                          replace hs := by first | exact hs.ext hE31 (fun i h => by omega) | exact True.intro
                          refine wl_nil ?_
                          refine W_seq ?_
                          refine W_region ?_
                          refine wl_val (rn_loadB s_34 rfl rfl hB8) ?_
                          have hBo := hB2
                          refine wl_storeB s_34 rfl rfl rfl (fun v hv => by have hv2 : v ∈ [Value.int .i64 _, Value.int .i64 _, Value.int .i64 _, Sv _, Sv _, Value.bool _] := hv; simp only [List.mem_cons, List.not_mem_nil, or_false] at hv2; rcases hv2 with rfl | rfl | rfl | rfl | rfl | rfl <;> rfl) hB2 rfl ?_; intro w32 hE32 hB2 hz32
                          replace hX := hX.mine hE32 hl2
                          replace hB4 := hB4.ext hE32 (fun h => by omega); replace hB8 := hB8.ext hE32 (fun h => by omega)
                          replace hs := by first | exact hs.ext hE32 (fun i h => by omega) | exact True.intro
                          refine wl_val (rn_assign (by conv => lhs; whnf)) ?_
                          refine wl_nil ?_
                          refine W_ret ?_
                          first | exact ⟨_, resR2 (res1_box s_34 rfl hB2 rfl) (res1_tmp rfl), hX, by rw [docE0 q38]; rfl⟩ | exact ⟨_, resR2 (res1_box s_34 rfl hB2 rfl) (res1_tmp rfl), hX, by rw [docE q38, if_neg (fun e => by have := e.1; omega)]; rfl⟩ | exact ⟨_, resR2 (res1_box s_34 rfl hB2 rfl) (res1_tmp rfl), hX, by rw [docE q38, if_neg (fun e => by have := e.2; omega)]; rfl⟩ | exact ⟨_, resR2 (res1_box s_34 rfl hB2 rfl) (res1_tmp rfl), hX, by rw [docE q38, if_pos (by omega)]; rfl⟩ | exact ⟨_, resR2 (res1_box s_34 rfl hB2 rfl) (res1_tmp rfl), hX, by rw [docT_none hn1 (.inr hn3)]; rfl⟩ | exact ⟨_, resR2 (res1_box s_34 rfl hB2 rfl) (res1_tmp rfl), hX, by rw [docT_none hn1 (.inl ⟨fun e => q57 (by simp [e]), fun e => q2 (by simp [e])⟩)]; rfl⟩ | exact ⟨_, resR2 (res1_box s_34 rfl hB2 rfl) (res1_tmp rfl), hX, by rw [doc3n (.inl qx)]; rfl⟩ | exact ⟨_, resR2 (res1_box s_34 rfl hB2 rfl) (res1_tmp rfl), hX, by rw [doc3n (.inr qy)]; rfl⟩ | exact ⟨_, resR2 (res1_box s_34 rfl hB2 rfl) (res1_tmp rfl), hX, by rw [doc3y qx qy]; rfl⟩ | exact ⟨_, resR2 (res1_box s_34 rfl hB2 rfl) (res1_tmp rfl), hX, by rw [doc6n (.inl qx)]; rfl⟩ | exact ⟨_, resR2 (res1_box s_34 rfl hB2 rfl) (res1_tmp rfl), hX, by rw [doc6n (.inr (.inl qy))]; rfl⟩ | exact ⟨_, resR2 (res1_box s_34 rfl hB2 rfl) (res1_tmp rfl), hX, by rw [doc6n (.inr (.inr (.inl qt)))]; rfl⟩ | exact ⟨_, resR2 (res1_box s_34 rfl hB2 rfl) (res1_tmp rfl), hX, by rw [doc6n (.inr (.inr (.inr qp)))]; rfl⟩ | exact ⟨_, resR2 (res1_box s_34 rfl hB2 rfl) (res1_tmp rfl), hX, by rw [doc6c (fun e => e.1.elim qk qw)]; rfl⟩ | exact ⟨_, resR2 (res1_box s_34 rfl hB2 rfl) (res1_tmp rfl), hX, by rw [doc6c (fun e => e.2 ⟨q129, q133, q5⟩)]; rfl⟩ | exact ⟨_, resR2 (res1_box s_34 rfl hB2 rfl) (res1_tmp rfl), hX, by rw [doc6y qx qy qt qp ⟨.inl qk, fun e => kn_ne qk e.2.2⟩]; rfl⟩ | exact ⟨_, resR2 (res1_box s_34 rfl hB2 rfl) (res1_tmp rfl), hX, by rw [doc6y qx qy qt qp ⟨.inr qw, fun e => q129 e.1⟩]; rfl⟩ | exact ⟨_, resR2 (res1_box s_34 rfl hB2 rfl) (res1_tmp rfl), hX, by rw [doc6y qx qy qt qp ⟨.inr qw, fun e => q133 e.2.1⟩]; rfl⟩ | exact ⟨_, resR2 (res1_box s_34 rfl hB2 rfl) (res1_tmp rfl), hX, by rw [doc6y qx qy qt qp ⟨.inr qw, fun e => q5 e.2.2⟩]; rfl⟩
                    · have qk : k = sKept := Classical.not_not.1 (of_decide_eq_false hg119)
                      refine wl_no rfl (congrArg Value.bool hg119) ?_
                      refine wl_no rfl (congrArg Value.bool hg119) ?_
                      refine wl_no rfl (congrArg Value.bool hg119) ?_
                      refine wl_no rfl (congrArg Value.bool hg119) ?_
                      refine wl_yes rfl (congrArg Value.bool hg114) ?_
                      refine wl_val (rn_pickF (congrArg Value.bool hg119) (by conv => lhs; whnf)) ?_
                      refine wl_val (rn_pickF (congrArg Value.bool hg114) (by conv => lhs; whnf)) ?_
                      refine wl_val (rn_move (by conv => lhs; whnf)) ?_
                      refine wl_yes rfl rfl ?_
                      refine wl_val (rn_move (by conv => lhs; whnf)) ?_
                      refine wl_yes rfl rfl ?_
                      refine wl_val (rn_seql rfl rfl) ?_
                      refine wl_yes rfl rfl ?_
                      refine wl_val (rn_move (by conv => lhs; whnf)) ?_
                      refine wl_split (d := 129) rfl (fun hg129 => ?_) (fun hg129 => ?_)
                      · have q129 : (unR t).getD [] = [] := of_decide_eq_true hg129
                        refine wl_yes rfl (congrArg Value.bool hg129) ?_
                        refine wl_val (rn_move (by conv => lhs; whnf)) ?_
                        refine wl_yes rfl (congrArg Value.bool hg129) ?_
                        refine wl_val (rn_seql rfl rfl) ?_
                        refine wl_yes rfl rfl ?_
                        refine wl_val (rn_pickT (congrArg Value.bool hg129) (by conv => lhs; whnf)) ?_
                        refine wl_yes rfl rfl ?_
                        refine wl_val (rn_move (by conv => lhs; whnf)) ?_
                        refine wl_split (d := 133) rfl (fun hg133 => ?_) (fun hg133 => ?_)
                        · have q133 : (unR p).getD [] = [] := of_decide_eq_true hg133
                          refine wl_yes rfl (congrArg Value.bool hg133) ?_
                          refine wl_val (rn_move (by conv => lhs; whnf)) ?_
                          refine wl_yes rfl (congrArg Value.bool hg133) ?_
                          refine wl_val (rn_indexAddr sl_68 rfl rfl (by simp only [List.length_cons, List.length_nil]; omega)) ?_
                          refine wl_yes rfl (congrArg Value.bool hg133) ?_
                          refine wl_val (rn_load p_9 rfl (hs.at0 (eS_at (i := 5) (x := k) rfl) rfl)) ?_
                          refine wl_yes rfl (congrArg Value.bool hg133) ?_
                          refine wl_val (rn_seql rfl rfl) ?_
                          refine wl_yes rfl rfl ?_
                          refine wl_val (rn_pickT (congrArg Value.bool hg133) (by conv => lhs; whnf)) ?_
                          refine wl_val (rn_pickF rfl (by conv => lhs; whnf)) ?_
                          refine wl_nil ?_
                          refine W_cond rfl (fun hc5 => ?_) (fun hc5 => ?_)
                          · have q5 : k = sNew := of_decide_eq_true hc5
                            refine W_seq ?_
                            refine W_region ?_
                            refine wl_val (rn_loadB s_34 rfl rfl hB4) ?_
                            have hBo := hB2
                            refine wl_storeB s_34 rfl rfl rfl (fun v hv => by have hv2 : v ∈ [Value.int .i64 _, Value.int .i64 _, Value.int .i64 _, Sv _, Sv _, Value.bool _] := hv; simp only [List.mem_cons, List.not_mem_nil, or_false] at hv2; rcases hv2 with rfl | rfl | rfl | rfl | rfl | rfl <;> rfl) hB2 rfl ?_; intro w33 hE33 hB2 hz33
                            replace hX := hX.mine hE33 hl2
                            replace hB4 := hB4.ext hE33 (fun h => by omega); replace hB8 := hB8.ext hE33 (fun h => by omega)
                            replace hs := by first | exact hs.ext hE33 (fun i h => by omega) | exact True.intro
                            refine wl_val (rn_assign (by conv => lhs; whnf)) ?_
                            refine wl_nil ?_
                            refine W_ret ?_
                            first | exact ⟨_, resR2 (res1_box s_34 rfl hB2 rfl) (res1_tmp rfl), hX, by rw [docE0 q38]; rfl⟩ | exact ⟨_, resR2 (res1_box s_34 rfl hB2 rfl) (res1_tmp rfl), hX, by rw [docE q38, if_neg (fun e => by have := e.1; omega)]; rfl⟩ | exact ⟨_, resR2 (res1_box s_34 rfl hB2 rfl) (res1_tmp rfl), hX, by rw [docE q38, if_neg (fun e => by have := e.2; omega)]; rfl⟩ | exact ⟨_, resR2 (res1_box s_34 rfl hB2 rfl) (res1_tmp rfl), hX, by rw [docE q38, if_pos (by omega)]; rfl⟩ | exact ⟨_, resR2 (res1_box s_34 rfl hB2 rfl) (res1_tmp rfl), hX, by rw [docT_none hn1 (.inr hn3)]; rfl⟩ | exact ⟨_, resR2 (res1_box s_34 rfl hB2 rfl) (res1_tmp rfl), hX, by rw [docT_none hn1 (.inl ⟨fun e => q57 (by simp [e]), fun e => q2 (by simp [e])⟩)]; rfl⟩ | exact ⟨_, resR2 (res1_box s_34 rfl hB2 rfl) (res1_tmp rfl), hX, by rw [doc3n (.inl qx)]; rfl⟩ | exact ⟨_, resR2 (res1_box s_34 rfl hB2 rfl) (res1_tmp rfl), hX, by rw [doc3n (.inr qy)]; rfl⟩ | exact ⟨_, resR2 (res1_box s_34 rfl hB2 rfl) (res1_tmp rfl), hX, by rw [doc3y qx qy]; rfl⟩ | exact ⟨_, resR2 (res1_box s_34 rfl hB2 rfl) (res1_tmp rfl), hX, by rw [doc6n (.inl qx)]; rfl⟩ | exact ⟨_, resR2 (res1_box s_34 rfl hB2 rfl) (res1_tmp rfl), hX, by rw [doc6n (.inr (.inl qy))]; rfl⟩ | exact ⟨_, resR2 (res1_box s_34 rfl hB2 rfl) (res1_tmp rfl), hX, by rw [doc6n (.inr (.inr (.inl qt)))]; rfl⟩ | exact ⟨_, resR2 (res1_box s_34 rfl hB2 rfl) (res1_tmp rfl), hX, by rw [doc6n (.inr (.inr (.inr qp)))]; rfl⟩ | exact ⟨_, resR2 (res1_box s_34 rfl hB2 rfl) (res1_tmp rfl), hX, by rw [doc6c (fun e => e.1.elim qk qw)]; rfl⟩ | exact ⟨_, resR2 (res1_box s_34 rfl hB2 rfl) (res1_tmp rfl), hX, by rw [doc6c (fun e => e.2 ⟨q129, q133, q5⟩)]; rfl⟩ | exact ⟨_, resR2 (res1_box s_34 rfl hB2 rfl) (res1_tmp rfl), hX, by rw [doc6y qx qy qt qp ⟨.inl qk, fun e => kn_ne qk e.2.2⟩]; rfl⟩ | exact ⟨_, resR2 (res1_box s_34 rfl hB2 rfl) (res1_tmp rfl), hX, by rw [doc6y qx qy qt qp ⟨.inr qw, fun e => q129 e.1⟩]; rfl⟩ | exact ⟨_, resR2 (res1_box s_34 rfl hB2 rfl) (res1_tmp rfl), hX, by rw [doc6y qx qy qt qp ⟨.inr qw, fun e => q133 e.2.1⟩]; rfl⟩ | exact ⟨_, resR2 (res1_box s_34 rfl hB2 rfl) (res1_tmp rfl), hX, by rw [doc6y qx qy qt qp ⟨.inr qw, fun e => q5 e.2.2⟩]; rfl⟩
                          · have q5 : ¬ k = sNew := of_decide_eq_false hc5
                            refine W_skip ?_
                            refine W_seq ?_
                            refine W_region ?_
                            refine wl_val (rn_move (by conv => lhs; whnf)) ?_
                            refine wl_val (rn_move (by conv => lhs; whnf)) ?_
                            refine wl_val (rn_move (by conv => lhs; whnf)) ?_
                            refine wl_val (rn_indexAddr sl_68 rfl rfl (by simp only [List.length_cons, List.length_nil]; omega)) ?_
                            refine wl_val (rn_load p_9 rfl (hs.at0 (eS_at (i := 5) (x := k) rfl) rfl)) ?_
                            refine wl_val (rn_seql rfl rfl) ?_
                            refine wl_val (rn_build' b_32 rfl rfl (cs := (MsgD.enc ⟨(unR t).getD [], (unR p).getD [], decide (k = sKept)⟩)) rfl) ?_
                            refine wl_val (rn_fieldAddr f_34_3 (by decide) rfl) ?_
                            have hBo := hB8
                            refine wl_storeP (b := b8) s_32 rfl rfl rfl (MsgD.one _) hB8 (Nat.le_of_ble_eq_true rfl) ?_; intro w34 hE34 hB8 hz34
                            replace hX := hX.mine hE34 hl8
                            replace hB2 := hB2.ext hE34 (fun h => by omega); replace hB4 := hB4.ext hE34 (fun h => by omega)
                            replace hs := by first | exact hs.ext hE34 (fun i h => by omega) | exact True.intro
                            refine wl_nil ?_
                            refine W_seq ?_
                            refine W_region ?_
                            refine wl_val (rn_loadB s_34 rfl rfl hB8) ?_
                            have hBo := hB2
                            refine wl_storeB s_34 rfl rfl rfl (fun v hv => by have hv2 : v ∈ [Value.int .i64 _, Value.int .i64 _, Value.int .i64 _, Sv _, Sv _, Value.bool _] := hv; simp only [List.mem_cons, List.not_mem_nil, or_false] at hv2; rcases hv2 with rfl | rfl | rfl | rfl | rfl | rfl <;> rfl) hB2 rfl ?_; intro w35 hE35 hB2 hz35
                            replace hX := hX.mine hE35 hl2
                            replace hB4 := hB4.ext hE35 (fun h => by omega); replace hB8 := hB8.ext hE35 (fun h => by omega)
                            replace hs := by first | exact hs.ext hE35 (fun i h => by omega) | exact True.intro
                            refine wl_val (rn_assign (by conv => lhs; whnf)) ?_
                            refine wl_nil ?_
                            refine W_ret ?_
                            first | exact ⟨_, resR2 (res1_box s_34 rfl hB2 rfl) (res1_tmp rfl), hX, by rw [docE0 q38]; rfl⟩ | exact ⟨_, resR2 (res1_box s_34 rfl hB2 rfl) (res1_tmp rfl), hX, by rw [docE q38, if_neg (fun e => by have := e.1; omega)]; rfl⟩ | exact ⟨_, resR2 (res1_box s_34 rfl hB2 rfl) (res1_tmp rfl), hX, by rw [docE q38, if_neg (fun e => by have := e.2; omega)]; rfl⟩ | exact ⟨_, resR2 (res1_box s_34 rfl hB2 rfl) (res1_tmp rfl), hX, by rw [docE q38, if_pos (by omega)]; rfl⟩ | exact ⟨_, resR2 (res1_box s_34 rfl hB2 rfl) (res1_tmp rfl), hX, by rw [docT_none hn1 (.inr hn3)]; rfl⟩ | exact ⟨_, resR2 (res1_box s_34 rfl hB2 rfl) (res1_tmp rfl), hX, by rw [docT_none hn1 (.inl ⟨fun e => q57 (by simp [e]), fun e => q2 (by simp [e])⟩)]; rfl⟩ | exact ⟨_, resR2 (res1_box s_34 rfl hB2 rfl) (res1_tmp rfl), hX, by rw [doc3n (.inl qx)]; rfl⟩ | exact ⟨_, resR2 (res1_box s_34 rfl hB2 rfl) (res1_tmp rfl), hX, by rw [doc3n (.inr qy)]; rfl⟩ | exact ⟨_, resR2 (res1_box s_34 rfl hB2 rfl) (res1_tmp rfl), hX, by rw [doc3y qx qy]; rfl⟩ | exact ⟨_, resR2 (res1_box s_34 rfl hB2 rfl) (res1_tmp rfl), hX, by rw [doc6n (.inl qx)]; rfl⟩ | exact ⟨_, resR2 (res1_box s_34 rfl hB2 rfl) (res1_tmp rfl), hX, by rw [doc6n (.inr (.inl qy))]; rfl⟩ | exact ⟨_, resR2 (res1_box s_34 rfl hB2 rfl) (res1_tmp rfl), hX, by rw [doc6n (.inr (.inr (.inl qt)))]; rfl⟩ | exact ⟨_, resR2 (res1_box s_34 rfl hB2 rfl) (res1_tmp rfl), hX, by rw [doc6n (.inr (.inr (.inr qp)))]; rfl⟩ | exact ⟨_, resR2 (res1_box s_34 rfl hB2 rfl) (res1_tmp rfl), hX, by rw [doc6c (fun e => e.1.elim qk qw)]; rfl⟩ | exact ⟨_, resR2 (res1_box s_34 rfl hB2 rfl) (res1_tmp rfl), hX, by rw [doc6c (fun e => e.2 ⟨q129, q133, q5⟩)]; rfl⟩ | exact ⟨_, resR2 (res1_box s_34 rfl hB2 rfl) (res1_tmp rfl), hX, by rw [doc6y qx qy qt qp ⟨.inl qk, fun e => kn_ne qk e.2.2⟩]; rfl⟩ | exact ⟨_, resR2 (res1_box s_34 rfl hB2 rfl) (res1_tmp rfl), hX, by rw [doc6y qx qy qt qp ⟨.inr qw, fun e => q129 e.1⟩]; rfl⟩ | exact ⟨_, resR2 (res1_box s_34 rfl hB2 rfl) (res1_tmp rfl), hX, by rw [doc6y qx qy qt qp ⟨.inr qw, fun e => q133 e.2.1⟩]; rfl⟩ | exact ⟨_, resR2 (res1_box s_34 rfl hB2 rfl) (res1_tmp rfl), hX, by rw [doc6y qx qy qt qp ⟨.inr qw, fun e => q5 e.2.2⟩]; rfl⟩
                        · have q133 : ¬ (unR p).getD [] = [] := of_decide_eq_false hg133
                          refine wl_no rfl (congrArg Value.bool hg133) ?_
                          refine wl_no rfl (congrArg Value.bool hg133) ?_
                          refine wl_no rfl (congrArg Value.bool hg133) ?_
                          refine wl_no rfl (congrArg Value.bool hg133) ?_
                          refine wl_yes rfl rfl ?_
                          refine wl_val (rn_pickF (congrArg Value.bool hg133) (by conv => lhs; whnf)) ?_
                          refine wl_val (rn_pickF rfl (by conv => lhs; whnf)) ?_
                          refine wl_nil ?_
                          refine W_condF rfl ?_
                          refine W_skip ?_
                          refine W_seq ?_
                          refine W_region ?_
                          refine wl_val (rn_move (by conv => lhs; whnf)) ?_
                          refine wl_val (rn_move (by conv => lhs; whnf)) ?_
                          refine wl_val (rn_move (by conv => lhs; whnf)) ?_
                          refine wl_val (rn_indexAddr sl_68 rfl rfl (by simp only [List.length_cons, List.length_nil]; omega)) ?_
                          refine wl_val (rn_load p_9 rfl (hs.at0 (eS_at (i := 5) (x := k) rfl) rfl)) ?_
                          refine wl_val (rn_seql rfl rfl) ?_
                          refine wl_val (rn_build' b_32 rfl rfl (cs := (MsgD.enc ⟨(unR t).getD [], (unR p).getD [], decide (k = sKept)⟩)) rfl) ?_
                          refine wl_val (rn_fieldAddr f_34_3 (by decide) rfl) ?_
                          have hBo := hB8
                          refine wl_storeP (b := b8) s_32 rfl rfl rfl (MsgD.one _) hB8 (Nat.le_of_ble_eq_true rfl) ?_; intro w36 hE36 hB8 hz36
                          replace hX := hX.mine hE36 hl8
                          replace hB2 := hB2.ext hE36 (fun h => by omega); replace hB4 := hB4.ext hE36 (fun h => by omega)
                          replace hs := by first | exact hs.ext hE36 (fun i h => by omega) | exact True.intro
                          refine wl_nil ?_
                          refine W_seq ?_
                          refine W_region ?_
                          refine wl_val (rn_loadB s_34 rfl rfl hB8) ?_
                          have hBo := hB2
                          refine wl_storeB s_34 rfl rfl rfl (fun v hv => by have hv2 : v ∈ [Value.int .i64 _, Value.int .i64 _, Value.int .i64 _, Sv _, Sv _, Value.bool _] := hv; simp only [List.mem_cons, List.not_mem_nil, or_false] at hv2; rcases hv2 with rfl | rfl | rfl | rfl | rfl | rfl <;> rfl) hB2 rfl ?_; intro w37 hE37 hB2 hz37
                          replace hX := hX.mine hE37 hl2
                          replace hB4 := hB4.ext hE37 (fun h => by omega); replace hB8 := hB8.ext hE37 (fun h => by omega)
                          replace hs := by first | exact hs.ext hE37 (fun i h => by omega) | exact True.intro
                          refine wl_val (rn_assign (by conv => lhs; whnf)) ?_
                          refine wl_nil ?_
                          refine W_ret ?_
                          first | exact ⟨_, resR2 (res1_box s_34 rfl hB2 rfl) (res1_tmp rfl), hX, by rw [docE0 q38]; rfl⟩ | exact ⟨_, resR2 (res1_box s_34 rfl hB2 rfl) (res1_tmp rfl), hX, by rw [docE q38, if_neg (fun e => by have := e.1; omega)]; rfl⟩ | exact ⟨_, resR2 (res1_box s_34 rfl hB2 rfl) (res1_tmp rfl), hX, by rw [docE q38, if_neg (fun e => by have := e.2; omega)]; rfl⟩ | exact ⟨_, resR2 (res1_box s_34 rfl hB2 rfl) (res1_tmp rfl), hX, by rw [docE q38, if_pos (by omega)]; rfl⟩ | exact ⟨_, resR2 (res1_box s_34 rfl hB2 rfl) (res1_tmp rfl), hX, by rw [docT_none hn1 (.inr hn3)]; rfl⟩ | exact ⟨_, resR2 (res1_box s_34 rfl hB2 rfl) (res1_tmp rfl), hX, by rw [docT_none hn1 (.inl ⟨fun e => q57 (by simp [e]), fun e => q2 (by simp [e])⟩)]; rfl⟩ | exact ⟨_, resR2 (res1_box s_34 rfl hB2 rfl) (res1_tmp rfl), hX, by rw [doc3n (.inl qx)]; rfl⟩ | exact ⟨_, resR2 (res1_box s_34 rfl hB2 rfl) (res1_tmp rfl), hX, by rw [doc3n (.inr qy)]; rfl⟩ | exact ⟨_, resR2 (res1_box s_34 rfl hB2 rfl) (res1_tmp rfl), hX, by rw [doc3y qx qy]; rfl⟩ | exact ⟨_, resR2 (res1_box s_34 rfl hB2 rfl) (res1_tmp rfl), hX, by rw [doc6n (.inl qx)]; rfl⟩ | exact ⟨_, resR2 (res1_box s_34 rfl hB2 rfl) (res1_tmp rfl), hX, by rw [doc6n (.inr (.inl qy))]; rfl⟩ | exact ⟨_, resR2 (res1_box s_34 rfl hB2 rfl) (res1_tmp rfl), hX, by rw [doc6n (.inr (.inr (.inl qt)))]; rfl⟩ | exact ⟨_, resR2 (res1_box s_34 rfl hB2 rfl) (res1_tmp rfl), hX, by rw [doc6n (.inr (.inr (.inr qp)))]; rfl⟩ | exact ⟨_, resR2 (res1_box s_34 rfl hB2 rfl) (res1_tmp rfl), hX, by rw [doc6c (fun e => e.1.elim qk qw)]; rfl⟩ | exact ⟨_, resR2 (res1_box s_34 rfl hB2 rfl) (res1_tmp rfl), hX, by rw [doc6c (fun e => e.2 ⟨q129, q133, q5⟩)]; rfl⟩ | exact ⟨_, resR2 (res1_box s_34 rfl hB2 rfl) (res1_tmp rfl), hX, by rw [doc6y qx qy qt qp ⟨.inl qk, fun e => kn_ne qk e.2.2⟩]; rfl⟩ | exact ⟨_, resR2 (res1_box s_34 rfl hB2 rfl) (res1_tmp rfl), hX, by rw [doc6y qx qy qt qp ⟨.inr qw, fun e => q129 e.1⟩]; rfl⟩ | exact ⟨_, resR2 (res1_box s_34 rfl hB2 rfl) (res1_tmp rfl), hX, by rw [doc6y qx qy qt qp ⟨.inr qw, fun e => q133 e.2.1⟩]; rfl⟩ | exact ⟨_, resR2 (res1_box s_34 rfl hB2 rfl) (res1_tmp rfl), hX, by rw [doc6y qx qy qt qp ⟨.inr qw, fun e => q5 e.2.2⟩]; rfl⟩
                      · have q129 : ¬ (unR t).getD [] = [] := of_decide_eq_false hg129
                        refine wl_no rfl (congrArg Value.bool hg129) ?_
                        refine wl_no rfl (congrArg Value.bool hg129) ?_
                        refine wl_yes rfl rfl ?_
                        refine wl_val (rn_pickF (congrArg Value.bool hg129) (by conv => lhs; whnf)) ?_
                        refine wl_yes rfl rfl ?_
                        refine wl_val (rn_move (by conv => lhs; whnf)) ?_
                        refine wl_no rfl rfl ?_
                        refine wl_no rfl rfl ?_
                        refine wl_no rfl rfl ?_
                        refine wl_no rfl rfl ?_
                        refine wl_yes rfl rfl ?_
                        refine wl_val (rn_pickF rfl (by conv => lhs; whnf)) ?_
                        refine wl_val (rn_pickF rfl (by conv => lhs; whnf)) ?_
                        refine wl_nil ?_
                        refine W_condF rfl ?_
                        refine W_skip ?_
                        refine W_seq ?_
                        refine W_region ?_
                        refine wl_val (rn_move (by conv => lhs; whnf)) ?_
                        refine wl_val (rn_move (by conv => lhs; whnf)) ?_
                        refine wl_val (rn_move (by conv => lhs; whnf)) ?_
                        refine wl_val (rn_indexAddr sl_68 rfl rfl (by simp only [List.length_cons, List.length_nil]; omega)) ?_
                        refine wl_val (rn_load p_9 rfl (hs.at0 (eS_at (i := 5) (x := k) rfl) rfl)) ?_
                        refine wl_val (rn_seql rfl rfl) ?_
                        refine wl_val (rn_build' b_32 rfl rfl (cs := (MsgD.enc ⟨(unR t).getD [], (unR p).getD [], decide (k = sKept)⟩)) rfl) ?_
                        refine wl_val (rn_fieldAddr f_34_3 (by decide) rfl) ?_
                        have hBo := hB8
                        refine wl_storeP (b := b8) s_32 rfl rfl rfl (MsgD.one _) hB8 (Nat.le_of_ble_eq_true rfl) ?_; intro w38 hE38 hB8 hz38
                        replace hX := hX.mine hE38 hl8
                        replace hB2 := hB2.ext hE38 (fun h => by omega); replace hB4 := hB4.ext hE38 (fun h => by omega)
                        replace hs := by first | exact hs.ext hE38 (fun i h => by omega) | exact True.intro
                        refine wl_nil ?_
                        refine W_seq ?_
                        refine W_region ?_
                        refine wl_val (rn_loadB s_34 rfl rfl hB8) ?_
                        have hBo := hB2
                        refine wl_storeB s_34 rfl rfl rfl (fun v hv => by have hv2 : v ∈ [Value.int .i64 _, Value.int .i64 _, Value.int .i64 _, Sv _, Sv _, Value.bool _] := hv; simp only [List.mem_cons, List.not_mem_nil, or_false] at hv2; rcases hv2 with rfl | rfl | rfl | rfl | rfl | rfl <;> rfl) hB2 rfl ?_; intro w39 hE39 hB2 hz39
                        replace hX := hX.mine hE39 hl2
                        replace hB4 := hB4.ext hE39 (fun h => by omega); replace hB8 := hB8.ext hE39 (fun h => by omega)
                        replace hs := by first | exact hs.ext hE39 (fun i h => by omega) | exact True.intro
                        refine wl_val (rn_assign (by conv => lhs; whnf)) ?_
                        refine wl_nil ?_
                        refine W_ret ?_
                        first | exact ⟨_, resR2 (res1_box s_34 rfl hB2 rfl) (res1_tmp rfl), hX, by rw [docE0 q38]; rfl⟩ | exact ⟨_, resR2 (res1_box s_34 rfl hB2 rfl) (res1_tmp rfl), hX, by rw [docE q38, if_neg (fun e => by have := e.1; omega)]; rfl⟩ | exact ⟨_, resR2 (res1_box s_34 rfl hB2 rfl) (res1_tmp rfl), hX, by rw [docE q38, if_neg (fun e => by have := e.2; omega)]; rfl⟩ | exact ⟨_, resR2 (res1_box s_34 rfl hB2 rfl) (res1_tmp rfl), hX, by rw [docE q38, if_pos (by omega)]; rfl⟩ | exact ⟨_, resR2 (res1_box s_34 rfl hB2 rfl) (res1_tmp rfl), hX, by rw [docT_none hn1 (.inr hn3)]; rfl⟩ | exact ⟨_, resR2 (res1_box s_34 rfl hB2 rfl) (res1_tmp rfl), hX, by rw [docT_none hn1 (.inl ⟨fun e => q57 (by simp [e]), fun e => q2 (by simp [e])⟩)]; rfl⟩ | exact ⟨_, resR2 (res1_box s_34 rfl hB2 rfl) (res1_tmp rfl), hX, by rw [doc3n (.inl qx)]; rfl⟩ | exact ⟨_, resR2 (res1_box s_34 rfl hB2 rfl) (res1_tmp rfl), hX, by rw [doc3n (.inr qy)]; rfl⟩ | exact ⟨_, resR2 (res1_box s_34 rfl hB2 rfl) (res1_tmp rfl), hX, by rw [doc3y qx qy]; rfl⟩ | exact ⟨_, resR2 (res1_box s_34 rfl hB2 rfl) (res1_tmp rfl), hX, by rw [doc6n (.inl qx)]; rfl⟩ | exact ⟨_, resR2 (res1_box s_34 rfl hB2 rfl) (res1_tmp rfl), hX, by rw [doc6n (.inr (.inl qy))]; rfl⟩ | exact ⟨_, resR2 (res1_box s_34 rfl hB2 rfl) (res1_tmp rfl), hX, by rw [doc6n (.inr (.inr (.inl qt)))]; rfl⟩ | exact ⟨_, resR2 (res1_box s_34 rfl hB2 rfl) (res1_tmp rfl), hX, by rw [doc6n (.inr (.inr (.inr qp)))]; rfl⟩ | exact ⟨_, resR2 (res1_box s_34 rfl hB2 rfl) (res1_tmp rfl), hX, by rw [doc6c (fun e => e.1.elim qk qw)]; rfl⟩ | exact ⟨_, resR2 (res1_box s_34 rfl hB2 rfl) (res1_tmp rfl), hX, by rw [doc6c (fun e => e.2 ⟨q129, q133, q5⟩)]; rfl⟩ | exact ⟨_, resR2 (res1_box s_34 rfl hB2 rfl) (res1_tmp rfl), hX, by rw [doc6y qx qy qt qp ⟨.inl qk, fun e => kn_ne qk e.2.2⟩]; rfl⟩ | exact ⟨_, resR2 (res1_box s_34 rfl hB2 rfl) (res1_tmp rfl), hX, by rw [doc6y qx qy qt qp ⟨.inr qw, fun e => q129 e.1⟩]; rfl⟩ | exact ⟨_, resR2 (res1_box s_34 rfl hB2 rfl) (res1_tmp rfl), hX, by rw [doc6y qx qy qt qp ⟨.inr qw, fun e => q133 e.2.1⟩]; rfl⟩ | exact ⟨_, resR2 (res1_box s_34 rfl hB2 rfl) (res1_tmp rfl), hX, by rw [doc6y qx qy qt qp ⟨.inr qw, fun e => q5 e.2.2⟩]; rfl⟩
      · have q57 := Classical.not_not.1 (of_decide_eq_false hg57)
        obtain ⟨x, y, rfl⟩ := two_of (l := r) (by simp only [List.length_cons] at q57; omega)
        refine wl_no rfl (congrArg Value.bool hg57) ?_
        refine wl_no rfl (congrArg Value.bool hg57) ?_
        refine wl_no rfl (congrArg Value.bool hg57) ?_
        refine wl_yes rfl (congrArg Value.bool hg53) ?_
        refine wl_val (rn_pickF (congrArg Value.bool hg57) (by conv => lhs; whnf)) ?_
        refine wl_val (rn_pickF (congrArg Value.bool hg53) (by conv => lhs; whnf)) ?_
        refine wl_nil ?_
        refine W_condF rfl ?_
        refine W_skip ?_
        refine W_seq ?_
        refine W_region ?_
        refine wl_val (rn_build' b_34 rfl rfl (cs := aZ.enc) rfl) ?_
        refine wl_alloc z_34 ?_; intro b8 w40 hb8 hE40 hB8
        have hn2_8 : b2 < b8 := Nat.lt_of_lt_of_le hB2.lt hb8
        have hn4_8 : b4 < b8 := Nat.lt_of_lt_of_le hB4.lt hb8
        have hq8 : w.heap.size ≤ b8 := Nat.le_trans hX.size hb8
        have hl8 : Mine Non w b8 := .inr hq8
        have hn8 : n19 ≤ b8 := by omega
        replace hX := hX.tr hE40
        replace hB2 := hB2.ext hE40 id; replace hB4 := hB4.ext hE40 id
        replace hs := hs.ext hE40 (fun _ h => h.elim)
        have hBo := hB8
        refine wl_storeB s_34 rfl rfl rfl (fun v hv => by have hv2 : v ∈ [Value.int .i64 _, Value.int .i64 _, Value.int .i64 _, Sv _, Sv _, Value.bool _] := hv; simp only [List.mem_cons, List.not_mem_nil, or_false] at hv2; rcases hv2 with rfl | rfl | rfl | rfl | rfl | rfl <;> rfl) hB8 rfl ?_; intro w41 hE41 hB8 hz41
        replace hX := hX.mine hE41 hl8
        replace hB2 := hB2.ext hE41 (fun h => by omega); replace hB4 := hB4.ext hE41 (fun h => by omega)
        replace hs := by first | exact hs.ext hE41 (fun i h => by omega) | exact True.intro
        refine wl_nil ?_
        refine W_seq ?_
        refine W_region ?_
        refine wl_val (rn_move (by conv => lhs; whnf)) ?_
        refine wl_val (rn_indexAddr sl_68 rfl rfl (by simp only [List.length_cons, List.length_nil]; omega)) ?_
        refine wl_val (rn_load p_9 rfl (hs.at0 (eS_at (i := 1) (x := x) rfl) rfl)) ?_
        refine wl_call e_104 rfl (rnumM_ok w41 x (hln x (by simp))) ?_; intro v69 w42 hE42 hR42
        replace hX := hX.tr hE42
        replace hB2 := hB2.ext hE42 id; replace hB4 := hB4.ext hE42 id; replace hB8 := hB8.ext hE42 id
        replace hs := hs.ext hE42 (fun _ h => h.elim)
        subst hR42
        refine wl_val (rn_move (by conv => lhs; whnf)) ?_
        refine wl_val (rn_extract rfl rfl) ?_
        refine wl_val (rn_extract rfl rfl) ?_
        refine wl_val (rn_assign (by conv => lhs; whnf)) ?_
        refine wl_val (rn_assign (by conv => lhs; whnf)) ?_
        refine wl_nil ?_
        refine W_seq ?_
        refine W_region ?_
        refine wl_val (rn_move (by conv => lhs; whnf)) ?_
        refine wl_val (rn_indexAddr sl_68 rfl rfl (by simp only [List.length_cons, List.length_nil]; omega)) ?_
        refine wl_val (rn_load p_9 rfl (hs.at0 (eS_at (i := 2) (x := y) rfl) rfl)) ?_
        refine wl_call e_104 rfl (rnumM_ok w42 y (hln y (by simp))) ?_; intro v76 w43 hE43 hR43
        replace hX := hX.tr hE43
        replace hB2 := hB2.ext hE43 id; replace hB4 := hB4.ext hE43 id; replace hB8 := hB8.ext hE43 id
        replace hs := hs.ext hE43 (fun _ h => h.elim)
        subst hR43
        refine wl_val (rn_move (by conv => lhs; whnf)) ?_
        refine wl_val (rn_extract rfl rfl) ?_
        refine wl_val (rn_extract rfl rfl) ?_
        refine wl_val (rn_assign (by conv => lhs; whnf)) ?_
        refine wl_val (rn_assign (by conv => lhs; whnf)) ?_
        refine wl_nil ?_
        refine W_seq ?_
        refine W_seq ?_
        refine W_region ?_
        refine wl_val (rn_move (by conv => lhs; whnf)) ?_
        refine wl_val (rn_not rfl) ?_
        refine wl_val (rn_move (by conv => lhs; whnf)) ?_
        refine wl_split (d := 81) rfl (fun hg81 => ?_) (fun hg81 => ?_)
        · have qx : (numM x).isSome = false := by simpa using hg81
          refine wl_no rfl (congrArg Value.bool hg81) ?_
          refine wl_no rfl (congrArg Value.bool hg81) ?_
          refine wl_val (rn_pickT (congrArg Value.bool hg81) (by conv => lhs; whnf)) ?_
          refine wl_nil ?_
          refine W_condT rfl ?_
          refine W_seq ?_
          refine W_region ?_
          refine wl_val (rn_loadB s_34 rfl rfl hB4) ?_
          have hBo := hB2
          refine wl_storeB s_34 rfl rfl rfl (fun v hv => by have hv2 : v ∈ [Value.int .i64 _, Value.int .i64 _, Value.int .i64 _, Sv _, Sv _, Value.bool _] := hv; simp only [List.mem_cons, List.not_mem_nil, or_false] at hv2; rcases hv2 with rfl | rfl | rfl | rfl | rfl | rfl <;> rfl) hB2 rfl ?_; intro w44 hE44 hB2 hz44
          replace hX := hX.mine hE44 hl2
          replace hB4 := hB4.ext hE44 (fun h => by omega); replace hB8 := hB8.ext hE44 (fun h => by omega)
          replace hs := by first | exact hs.ext hE44 (fun i h => by omega) | exact True.intro
          refine wl_val (rn_assign (by conv => lhs; whnf)) ?_
          refine wl_nil ?_
          refine W_ret ?_
          first | exact ⟨_, resR2 (res1_box s_34 rfl hB2 rfl) (res1_tmp rfl), hX, by rw [docE0 q38]; rfl⟩ | exact ⟨_, resR2 (res1_box s_34 rfl hB2 rfl) (res1_tmp rfl), hX, by rw [docE q38, if_neg (fun e => by have := e.1; omega)]; rfl⟩ | exact ⟨_, resR2 (res1_box s_34 rfl hB2 rfl) (res1_tmp rfl), hX, by rw [docE q38, if_neg (fun e => by have := e.2; omega)]; rfl⟩ | exact ⟨_, resR2 (res1_box s_34 rfl hB2 rfl) (res1_tmp rfl), hX, by rw [docE q38, if_pos (by omega)]; rfl⟩ | exact ⟨_, resR2 (res1_box s_34 rfl hB2 rfl) (res1_tmp rfl), hX, by rw [docT_none hn1 (.inr hn3)]; rfl⟩ | exact ⟨_, resR2 (res1_box s_34 rfl hB2 rfl) (res1_tmp rfl), hX, by rw [docT_none hn1 (.inl ⟨fun e => q57 (by simp [e]), fun e => q2 (by simp [e])⟩)]; rfl⟩ | exact ⟨_, resR2 (res1_box s_34 rfl hB2 rfl) (res1_tmp rfl), hX, by rw [doc3n (.inl qx)]; rfl⟩ | exact ⟨_, resR2 (res1_box s_34 rfl hB2 rfl) (res1_tmp rfl), hX, by rw [doc3n (.inr qy)]; rfl⟩ | exact ⟨_, resR2 (res1_box s_34 rfl hB2 rfl) (res1_tmp rfl), hX, by rw [doc3y qx qy]; rfl⟩ | exact ⟨_, resR2 (res1_box s_34 rfl hB2 rfl) (res1_tmp rfl), hX, by rw [doc6n (.inl qx)]; rfl⟩ | exact ⟨_, resR2 (res1_box s_34 rfl hB2 rfl) (res1_tmp rfl), hX, by rw [doc6n (.inr (.inl qy))]; rfl⟩ | exact ⟨_, resR2 (res1_box s_34 rfl hB2 rfl) (res1_tmp rfl), hX, by rw [doc6n (.inr (.inr (.inl qt)))]; rfl⟩ | exact ⟨_, resR2 (res1_box s_34 rfl hB2 rfl) (res1_tmp rfl), hX, by rw [doc6n (.inr (.inr (.inr qp)))]; rfl⟩ | exact ⟨_, resR2 (res1_box s_34 rfl hB2 rfl) (res1_tmp rfl), hX, by rw [doc6c (fun e => e.1.elim qk qw)]; rfl⟩ | exact ⟨_, resR2 (res1_box s_34 rfl hB2 rfl) (res1_tmp rfl), hX, by rw [doc6c (fun e => e.2 ⟨q129, q133, q5⟩)]; rfl⟩ | exact ⟨_, resR2 (res1_box s_34 rfl hB2 rfl) (res1_tmp rfl), hX, by rw [doc6y qx qy qt qp ⟨.inl qk, fun e => kn_ne qk e.2.2⟩]; rfl⟩ | exact ⟨_, resR2 (res1_box s_34 rfl hB2 rfl) (res1_tmp rfl), hX, by rw [doc6y qx qy qt qp ⟨.inr qw, fun e => q129 e.1⟩]; rfl⟩ | exact ⟨_, resR2 (res1_box s_34 rfl hB2 rfl) (res1_tmp rfl), hX, by rw [doc6y qx qy qt qp ⟨.inr qw, fun e => q133 e.2.1⟩]; rfl⟩ | exact ⟨_, resR2 (res1_box s_34 rfl hB2 rfl) (res1_tmp rfl), hX, by rw [doc6y qx qy qt qp ⟨.inr qw, fun e => q5 e.2.2⟩]; rfl⟩
        · have qx : (numM x).isSome = true := by simpa using hg81
          refine wl_yes rfl (congrArg Value.bool hg81) ?_
          refine wl_val (rn_move (by conv => lhs; whnf)) ?_
          refine wl_yes rfl (congrArg Value.bool hg81) ?_
          refine wl_val (rn_not rfl) ?_
          refine wl_val (rn_pickF (congrArg Value.bool hg81) (by conv => lhs; whnf)) ?_
          refine wl_nil ?_
          refine W_cond rfl (fun hc3 => ?_) (fun hc3 => ?_)
          · have qy : (numM y).isSome = false := by simpa using hc3
            refine W_seq ?_
            refine W_region ?_
            refine wl_val (rn_loadB s_34 rfl rfl hB4) ?_
            have hBo := hB2
            refine wl_storeB s_34 rfl rfl rfl (fun v hv => by have hv2 : v ∈ [Value.int .i64 _, Value.int .i64 _, Value.int .i64 _, Sv _, Sv _, Value.bool _] := hv; simp only [List.mem_cons, List.not_mem_nil, or_false] at hv2; rcases hv2 with rfl | rfl | rfl | rfl | rfl | rfl <;> rfl) hB2 rfl ?_; intro w45 hE45 hB2 hz45
            replace hX := hX.mine hE45 hl2
            replace hB4 := hB4.ext hE45 (fun h => by omega); replace hB8 := hB8.ext hE45 (fun h => by omega)
            replace hs := by first | exact hs.ext hE45 (fun i h => by omega) | exact True.intro
            refine wl_val (rn_assign (by conv => lhs; whnf)) ?_
            refine wl_nil ?_
            refine W_ret ?_
            first | exact ⟨_, resR2 (res1_box s_34 rfl hB2 rfl) (res1_tmp rfl), hX, by rw [docE0 q38]; rfl⟩ | exact ⟨_, resR2 (res1_box s_34 rfl hB2 rfl) (res1_tmp rfl), hX, by rw [docE q38, if_neg (fun e => by have := e.1; omega)]; rfl⟩ | exact ⟨_, resR2 (res1_box s_34 rfl hB2 rfl) (res1_tmp rfl), hX, by rw [docE q38, if_neg (fun e => by have := e.2; omega)]; rfl⟩ | exact ⟨_, resR2 (res1_box s_34 rfl hB2 rfl) (res1_tmp rfl), hX, by rw [docE q38, if_pos (by omega)]; rfl⟩ | exact ⟨_, resR2 (res1_box s_34 rfl hB2 rfl) (res1_tmp rfl), hX, by rw [docT_none hn1 (.inr hn3)]; rfl⟩ | exact ⟨_, resR2 (res1_box s_34 rfl hB2 rfl) (res1_tmp rfl), hX, by rw [docT_none hn1 (.inl ⟨fun e => q57 (by simp [e]), fun e => q2 (by simp [e])⟩)]; rfl⟩ | exact ⟨_, resR2 (res1_box s_34 rfl hB2 rfl) (res1_tmp rfl), hX, by rw [doc3n (.inl qx)]; rfl⟩ | exact ⟨_, resR2 (res1_box s_34 rfl hB2 rfl) (res1_tmp rfl), hX, by rw [doc3n (.inr qy)]; rfl⟩ | exact ⟨_, resR2 (res1_box s_34 rfl hB2 rfl) (res1_tmp rfl), hX, by rw [doc3y qx qy]; rfl⟩ | exact ⟨_, resR2 (res1_box s_34 rfl hB2 rfl) (res1_tmp rfl), hX, by rw [doc6n (.inl qx)]; rfl⟩ | exact ⟨_, resR2 (res1_box s_34 rfl hB2 rfl) (res1_tmp rfl), hX, by rw [doc6n (.inr (.inl qy))]; rfl⟩ | exact ⟨_, resR2 (res1_box s_34 rfl hB2 rfl) (res1_tmp rfl), hX, by rw [doc6n (.inr (.inr (.inl qt)))]; rfl⟩ | exact ⟨_, resR2 (res1_box s_34 rfl hB2 rfl) (res1_tmp rfl), hX, by rw [doc6n (.inr (.inr (.inr qp)))]; rfl⟩ | exact ⟨_, resR2 (res1_box s_34 rfl hB2 rfl) (res1_tmp rfl), hX, by rw [doc6c (fun e => e.1.elim qk qw)]; rfl⟩ | exact ⟨_, resR2 (res1_box s_34 rfl hB2 rfl) (res1_tmp rfl), hX, by rw [doc6c (fun e => e.2 ⟨q129, q133, q5⟩)]; rfl⟩ | exact ⟨_, resR2 (res1_box s_34 rfl hB2 rfl) (res1_tmp rfl), hX, by rw [doc6y qx qy qt qp ⟨.inl qk, fun e => kn_ne qk e.2.2⟩]; rfl⟩ | exact ⟨_, resR2 (res1_box s_34 rfl hB2 rfl) (res1_tmp rfl), hX, by rw [doc6y qx qy qt qp ⟨.inr qw, fun e => q129 e.1⟩]; rfl⟩ | exact ⟨_, resR2 (res1_box s_34 rfl hB2 rfl) (res1_tmp rfl), hX, by rw [doc6y qx qy qt qp ⟨.inr qw, fun e => q133 e.2.1⟩]; rfl⟩ | exact ⟨_, resR2 (res1_box s_34 rfl hB2 rfl) (res1_tmp rfl), hX, by rw [doc6y qx qy qt qp ⟨.inr qw, fun e => q5 e.2.2⟩]; rfl⟩
          · have qy : (numM y).isSome = true := by simpa using hc3
            refine W_skip ?_
            refine W_seq ?_
            refine W_region ?_
            refine wl_val (rn_move (by conv => lhs; whnf)) ?_
            refine wl_val (rn_move (by conv => lhs; whnf)) ?_
            refine wl_val (rn_fieldAddr f_34_1 (by decide) rfl) ?_
            have hBo := hB8
            refine wl_store1 (b := b8) p_3 rfl (by conv => lhs; whnf) rfl rfl hB8 (Nat.le_of_ble_eq_true rfl) ?_; intro w46 hE46 hB8 hz46
            replace hX := hX.mine hE46 hl8
            replace hB2 := hB2.ext hE46 (fun h => by omega); replace hB4 := hB4.ext hE46 (fun h => by omega)
            replace hs := by first | exact hs.ext hE46 (fun i h => by omega) | exact True.intro
            refine wl_val (rn_fieldAddr f_34_2 (by decide) rfl) ?_
            have hBo := hB8
            refine wl_store1 (b := b8) p_3 rfl (by conv => lhs; whnf) rfl rfl hB8 (Nat.le_of_ble_eq_true rfl) ?_; intro w47 hE47 hB8 hz47
            replace hX := hX.mine hE47 hl8
            replace hB2 := hB2.ext hE47 (fun h => by omega); replace hB4 := hB4.ext hE47 (fun h => by omega)
            replace hs := by first | exact hs.ext hE47 (fun i h => by omega) | exact True.intro
            refine wl_nil ?_
            refine W_seq ?_
            refine W_seq ?_
            refine W_region ?_
            refine wl_val (rn_move (by conv => lhs; whnf)) ?_
            refine wl_val (rn_len sl_68 rfl) ?_
            refine wl_val (rn_eql rfl rfl) ?_
            refine wl_nil ?_
            refine W_cond rfl (fun hc4 => ?_) (fun hc4 => ?_)
            · refine W_seq ?_
              refine W_region ?_
              refine wl_val (rn_loadB s_34 rfl rfl hB8) ?_
              have hBo := hB2
              refine wl_storeB s_34 rfl rfl rfl (fun v hv => by have hv2 : v ∈ [Value.int .i64 _, Value.int .i64 _, Value.int .i64 _, Sv _, Sv _, Value.bool _] := hv; simp only [List.mem_cons, List.not_mem_nil, or_false] at hv2; rcases hv2 with rfl | rfl | rfl | rfl | rfl | rfl <;> rfl) hB2 rfl ?_; intro w48 hE48 hB2 hz48
              replace hX := hX.mine hE48 hl2
              replace hB4 := hB4.ext hE48 (fun h => by omega); replace hB8 := hB8.ext hE48 (fun h => by omega)
              replace hs := by first | exact hs.ext hE48 (fun i h => by omega) | exact True.intro
              refine wl_val (rn_assign (by conv => lhs; whnf)) ?_
              refine wl_nil ?_
              refine W_ret ?_
              first | exact ⟨_, resR2 (res1_box s_34 rfl hB2 rfl) (res1_tmp rfl), hX, by rw [docE0 q38]; rfl⟩ | exact ⟨_, resR2 (res1_box s_34 rfl hB2 rfl) (res1_tmp rfl), hX, by rw [docE q38, if_neg (fun e => by have := e.1; omega)]; rfl⟩ | exact ⟨_, resR2 (res1_box s_34 rfl hB2 rfl) (res1_tmp rfl), hX, by rw [docE q38, if_neg (fun e => by have := e.2; omega)]; rfl⟩ | exact ⟨_, resR2 (res1_box s_34 rfl hB2 rfl) (res1_tmp rfl), hX, by rw [docE q38, if_pos (by omega)]; rfl⟩ | exact ⟨_, resR2 (res1_box s_34 rfl hB2 rfl) (res1_tmp rfl), hX, by rw [docT_none hn1 (.inr hn3)]; rfl⟩ | exact ⟨_, resR2 (res1_box s_34 rfl hB2 rfl) (res1_tmp rfl), hX, by rw [docT_none hn1 (.inl ⟨fun e => q57 (by simp [e]), fun e => q2 (by simp [e])⟩)]; rfl⟩ | exact ⟨_, resR2 (res1_box s_34 rfl hB2 rfl) (res1_tmp rfl), hX, by rw [doc3n (.inl qx)]; rfl⟩ | exact ⟨_, resR2 (res1_box s_34 rfl hB2 rfl) (res1_tmp rfl), hX, by rw [doc3n (.inr qy)]; rfl⟩ | exact ⟨_, resR2 (res1_box s_34 rfl hB2 rfl) (res1_tmp rfl), hX, by rw [doc3y qx qy]; rfl⟩ | exact ⟨_, resR2 (res1_box s_34 rfl hB2 rfl) (res1_tmp rfl), hX, by rw [doc6n (.inl qx)]; rfl⟩ | exact ⟨_, resR2 (res1_box s_34 rfl hB2 rfl) (res1_tmp rfl), hX, by rw [doc6n (.inr (.inl qy))]; rfl⟩ | exact ⟨_, resR2 (res1_box s_34 rfl hB2 rfl) (res1_tmp rfl), hX, by rw [doc6n (.inr (.inr (.inl qt)))]; rfl⟩ | exact ⟨_, resR2 (res1_box s_34 rfl hB2 rfl) (res1_tmp rfl), hX, by rw [doc6n (.inr (.inr (.inr qp)))]; rfl⟩ | exact ⟨_, resR2 (res1_box s_34 rfl hB2 rfl) (res1_tmp rfl), hX, by rw [doc6c (fun e => e.1.elim qk qw)]; rfl⟩ | exact ⟨_, resR2 (res1_box s_34 rfl hB2 rfl) (res1_tmp rfl), hX, by rw [doc6c (fun e => e.2 ⟨q129, q133, q5⟩)]; rfl⟩ | exact ⟨_, resR2 (res1_box s_34 rfl hB2 rfl) (res1_tmp rfl), hX, by rw [doc6y qx qy qt qp ⟨.inl qk, fun e => kn_ne qk e.2.2⟩]; rfl⟩ | exact ⟨_, resR2 (res1_box s_34 rfl hB2 rfl) (res1_tmp rfl), hX, by rw [doc6y qx qy qt qp ⟨.inr qw, fun e => q129 e.1⟩]; rfl⟩ | exact ⟨_, resR2 (res1_box s_34 rfl hB2 rfl) (res1_tmp rfl), hX, by rw [doc6y qx qy qt qp ⟨.inr qw, fun e => q133 e.2.1⟩]; rfl⟩ | exact ⟨_, resR2 (res1_box s_34 rfl hB2 rfl) (res1_tmp rfl), hX, by rw [doc6y qx qy qt qp ⟨.inr qw, fun e => q5 e.2.2⟩]; rfl⟩
            · exact absurd (of_decide_eq_false hc4) (by simp)
end Go.Proofs.YthcclgoidchkdaaDoorC
