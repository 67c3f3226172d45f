/- Answers as texts; plain. -/
import Derived.Test.YthcclgoidchkdaaDoorBunV6
import Derived.Test.YthcclgoidchkdaaDoorBunV3
import Derived.Lib.AppendStr
set_option linter.unusedVariables false
set_option linter.unusedSimpArgs false
namespace Go.Proofs.YthcclgoidchkdaaDoorC
open Go.RowKit Go.Lib
abbrev sErr : Str := [101, 114, 114, 111, 114]
abbrev sOk : Str := [111, 107]
abbrev sKept : Str := [107, 101, 112, 116]
abbrev sNew : Str := [110, 101, 119]
abbrev mZ : MsgD := ⟨[], [], false⟩
abbrev aZ : AnsD := ⟨0, 0, 0, mZ⟩
def howR (b : Bool) : Str := if b = true then sKept else sNew
/-- An answer's words. -/
def ansW (a : AnsD) : List Str := if a.err ≠ 0 then [sErr, itoa a.err] else if a.msg = mZ then [sOk, itoa a.a, itoa a.b] else [sOk, itoa a.a, itoa a.b, wordR a.msg.topic, wordR a.msg.payload, howR a.msg.kept]
def ansR (a : AnsD) : Str := join (ansW a) [32]
def lineQ (x : OpD) : Str := if plainR x = true then lineR x else [63]
def tx (l : List Int) : Str := (l.map fun n => itoa n ++ [32]).flatten
/-- A call's row. -/
def rowR (c : CallD) : Str := ((tx [c.thread, c.place, c.from_, c.to_] ++ lineQ c.op) ++ [32, 61, 32]) ++ ansR c.ans
abbrev I64 (n : Int) : Prop := -9223372036854775808 ≤ n ∧ n ≤ 9223372036854775807
structure AnsOk (a : AnsD) : Prop where
  e : I64 a.err
  x : I64 a.a
  y : I64 a.b
  t : a.msg.topic.length ≤ 4000
  p : a.msg.payload.length ≤ 4000
structure CallOk (c : CallD) : Prop where
  th : I64 c.thread
  pl : I64 c.place
  fr : I64 c.from_
  to : I64 c.to_
  t : c.op.text.length ≤ 4000
  p : c.op.payload.length ≤ 4000
  ans : AnsOk c.ans
/-! ### numbers -/
theorem itoa_neg {n : Nat} (h : 1 ≤ n) : itoa (-(n : Int)) = 45 :: decDigits n := by
  unfold itoa; rw [if_pos (by omega)]; simp
theorem dec_digit {n : Nat} {i : Nat} {c : UInt8} (h : (decDigits n)[i]? = some c) : 48 ≤ c.toNat ∧ c.toNat ≤ 57 := by
  obtain ⟨d, hd⟩ := digit_of_decFrom _ 0 n (dec_num n) i c h
  unfold digitVal at hd; split at hd
  · assumption
  · cases hd
theorem dec_cons (n : Nat) : ∃ c r, decDigits n = c :: r ∧ 48 ≤ c.toNat ∧ c.toNat ≤ 57 := by
  cases hs : decDigits n with
  | nil => exact absurd hs (dec_ne n)
  | cons c r => exact ⟨c, r, rfl, dec_digit (n := n) (i := 0) (by rw [hs]; rfl)⟩
theorem itoa_nb' (n : Int) : ¬ (32 : UInt8) ∈ itoa n := by
  unfold itoa; split
  · rw [List.mem_cons]; rintro (h | h)
    · revert h; decide
    · exact dec_nb _ h
  · exact dec_nb _
theorem atoi_decM {n : Nat} (h : n ≤ 1000000) : atoiAll (decDigits n) = .ok (n : Int) := by
  rw [atoiAll_short _ (by have := dec_len6 h; omega)]
  have hd := dec_num n
  obtain ⟨c, r, hs, hr⟩ := dec_cons n
  rw [hs] at hd ⊢
  have h45 : (c == 45) = false := by rw [beq_eq_false_iff_ne]; intro e; rw [e] at hr; revert hr; decide
  have h43 : (c == 43) = false := by rw [beq_eq_false_iff_ne]; intro e; rw [e] at hr; revert hr; decide
  have e : atoi (c :: r) = some (n : Int) := by
    simp only [atoi, h45, h43, Bool.false_eq_true, if_false]
    unfold decNat
    simp [hd]
  rw [e]; rfl
theorem atoi_negM {n : Nat} (h : n ≤ 1000000) : atoiAll (45 :: decDigits n) = .ok (-(n : Int)) := by
  rw [atoiAll_short _ (by have := dec_len6 h; simp only [List.length_cons]; omega)]
  have hd := dec_num n
  have hne := dec_ne n
  have e : atoi (45 :: decDigits n) = some (-(n : Int)) := by
    simp only [atoi]
    unfold decNat
    cases hs : decDigits n with
    | nil => exact absurd hs hne
    | cons c r => rw [hs] at hd; simp [hd]
  rw [e]; rfl
theorem int_cases (n : Int) : (∃ m : Nat, n = (m : Int)) ∨ ∃ m : Nat, 1 ≤ m ∧ n = -(m : Int) := by
  by_cases h : n < 0
  · exact .inr ⟨n.natAbs, by omega, by omega⟩
  · exact .inl ⟨n.toNat, by omega⟩
theorem atoi_itoa {n : Int} (h : -1000000 ≤ n ∧ n ≤ 1000000) : atoiAll (itoa n) = .ok n := by
  rcases int_cases n with ⟨m, rfl⟩ | ⟨m, h1, rfl⟩
  · rw [itoa_nat]; exact atoi_decM (by omega)
  · rw [itoa_neg h1]; exact atoi_negM (by omega)
/-- A number of at most seven digits. -/
def natM (v : Str) : Option Nat := if v.length < 1 ∨ 7 < v.length ∨ (1 < v.length ∧ v[0]? = some 48) then none else decFrom 0 v
theorem of_natM {v : Str} {n : Nat} (h : natM v = some n) : decDigits n = v := by
  unfold natM at h
  split at h
  · cases h
  · rename_i h1
    simp only [not_or] at h1
    exact dec_of v.length v n rfl h (fun e => by rw [e] at h1; simp at h1) (fun h2 h3 => h1.2.2 ⟨h2, h3⟩)
theorem natM_dec {n : Nat} (h : n ≤ 1000000) : natM (decDigits n) = some n := by
  unfold natM
  rw [if_neg, dec_num]
  have hl := dec_len6 h
  have hp := List.length_pos_iff.2 (dec_ne n)
  rintro (h1 | h1 | ⟨h1, h2⟩)
  · omega
  · omega
  · refine dec_head n ?_ h2
    apply Classical.byContradiction
    intro h0
    rw [show n = 0 by omega, decDigits_one (by decide)] at h1
    simp at h1
/-- A number within 1,000,000. -/
def numM (w : Str) : Option Int :=
  if w[0]? = some 45 then (if w.drop 1 = [48] then none else match natM (w.drop 1) with | some n => if n ≤ 1000000 then some (-(n : Int)) else none | none => none)
  else match natM w with | some n => if n ≤ 1000000 then some (n : Int) else none | none => none
theorem numM_itoa {n : Int} (h : -1000000 ≤ n ∧ n ≤ 1000000) : numM (itoa n) = some n := by
  rcases int_cases n with ⟨m, rfl⟩ | ⟨m, h1, rfl⟩
  · rw [itoa_nat]
    unfold numM
    obtain ⟨c, r, hs, hr⟩ := dec_cons m
    rw [if_neg, natM_dec (by omega)]
    · simp only; rw [if_pos (by omega)]
    · rw [hs]; simp only [List.getElem?_cons_zero, Option.some.injEq]; intro e; rw [e] at hr; revert hr; decide
  · rw [itoa_neg h1]
    unfold numM
    rw [if_pos (show (45 :: decDigits m)[0]? = some 45 from rfl), List.drop_succ_cons, List.drop_zero, if_neg, natM_dec (by omega)]
    · simp only; rw [if_pos (by omega)]
    · intro e
      have := dec_num m
      rw [e] at this
      simp [decFrom, digitVal] at this
      omega
theorem of_numM {w : Str} {n : Int} (h : numM w = some n) : itoa n = w ∧ -1000000 ≤ n ∧ n ≤ 1000000 := by
  unfold numM at h
  split at h
  · rename_i h0
    split at h
    · cases h
    · rename_i h1
      cases hn : natM (w.drop 1) with
      | none => rw [hn] at h; cases h
      | some m =>
        rw [hn] at h; simp only at h
        split at h
        · simp only [Option.some.injEq] at h; subst h
          have hd := of_natM hn
          have hm : 1 ≤ m := by
            apply Classical.byContradiction; intro h2
            rw [show m = 0 by omega, decDigits_one (by decide)] at hd
            exact h1 hd.symm
          refine ⟨?_, by omega, by omega⟩
          rw [itoa_neg hm, hd]
          cases w with
          | nil => cases h0
          | cons c r => simp only [List.getElem?_cons_zero, Option.some.injEq] at h0; rw [h0]; rfl
        · cases h
  · cases hn : natM w with
    | none => rw [hn] at h; cases h
    | some m =>
      rw [hn] at h; simp only at h
      split at h
      · simp only [Option.some.injEq] at h; subst h
        exact ⟨by rw [itoa_nat]; exact of_natM hn, by omega, by omega⟩
      · cases h
theorem numM_iff (w : Str) (n : Int) : numM w = some n ↔ itoa n = w ∧ -1000000 ≤ n ∧ n ≤ 1000000 := ⟨of_numM, fun h => by rw [← h.1]; exact numM_itoa h.2⟩
/-- A number, as the library reads it, within 1,000,000. -/
def numA (w : Str) : Option Int := match atoiAll w with | .ok n => if -1000000 ≤ n ∧ n ≤ 1000000 then some n else none | _ => none
theorem of_numA {w : Str} {n : Int} (h : numA w = some n) : -1000000 ≤ n ∧ n ≤ 1000000 := by
  unfold numA at h
  split at h
  · split at h
    · simp only [Option.some.injEq] at h; subst h; assumption
    · cases h
  · cases h
theorem numA_itoa {n : Int} (h : -1000000 ≤ n ∧ n ≤ 1000000) : numA (itoa n) = some n := by unfold numA; rw [atoi_itoa h]; exact if_pos h
theorem numM_A (w : Str) (n : Int) : numM w = some n ↔ numA w = some n ∧ itoa n = w := by
  rw [numM_iff]
  constructor
  · rintro ⟨h1, h2⟩; exact ⟨by rw [← h1]; exact numA_itoa h2, h1⟩
  · rintro ⟨h1, h2⟩; exact ⟨h2, of_numA h1⟩
/-! ### answers -/
theorem ansW_nb (a : AnsD) : ∀ x ∈ ansW a, ¬ (32 : UInt8) ∈ x := by
  intro x hx
  unfold ansW at hx
  have hh : ¬ (32 : UInt8) ∈ howR a.msg.kept := by unfold howR; split <;> decide
  split at hx
  · simp only [List.mem_cons, List.not_mem_nil, or_false] at hx
    rcases hx with rfl | rfl; decide; exact itoa_nb' _
  · split at hx
    · simp only [List.mem_cons, List.not_mem_nil, or_false] at hx
      rcases hx with rfl | rfl | rfl; decide; exact itoa_nb' _; exact itoa_nb' _
    · simp only [List.mem_cons, List.not_mem_nil, or_false] at hx
      rcases hx with rfl | rfl | rfl | rfl | rfl | rfl; decide; exact itoa_nb' _; exact itoa_nb' _; exact wordR_nb _; exact wordR_nb _; exact hh
theorem ansW_ne (a : AnsD) : ansW a ≠ [] := by unfold ansW; (repeat' split) <;> simp
theorem spl_ans (a : AnsD) : spl 32 (ansR a) = ansW a := spl_join _ (ansW_ne a) (ansW_nb a)
theorem ans_iff (a : AnsD) (s : Str) : ansR a = s ↔ ansW a = spl 32 s := by
  constructor
  · intro h; rw [← h, spl_ans]
  · intro h; unfold ansR; rw [h, line_spl]
/-- What the program's reading of words gives. -/
def readR : List Str → Option AnsD
  | [h, x] => if h = sErr then (match numA x with | some n => if 0 < n ∧ n ≤ 12 then some ⟨n, 0, 0, mZ⟩ else none | none => none) else none
  | [h, x, y] => if h = sOk then (match numA x, numA y with | some m, some n => some ⟨0, m, n, mZ⟩ | _, _ => none) else none
  | [h, x, y, t, p, k] => if h = sOk then (match numA x, numA y with | some m, some n => (match unR t, unR p with | some tt, some pp => some ⟨0, m, n, ⟨tt, pp, decide (k = sKept)⟩⟩ | _, _ => none) | _, _ => none) else none
  | _ => none
def takeR (s : Str) : Option AnsD := match readR (spl 32 s) with | some a => if ansR a = s then some a else none | none => none
/-- What the document takes. -/
def docT : List Str → Option AnsD
  | [h, x] => if h = sErr then (match numM x with | some n => if 0 < n ∧ n ≤ 12 then some ⟨n, 0, 0, mZ⟩ else none | none => none) else none
  | [h, x, y] => if h = sOk then (match numM x, numM y with | some m, some n => some ⟨0, m, n, mZ⟩ | _, _ => none) else none
  | [h, x, y, t, p, k] => if h = sOk then (match numM x, numM y with | some m, some n => (match unR t, unR p with | some tt, some pp => if (k = sKept ∨ k = sNew) ∧ ¬ (tt = [] ∧ pp = [] ∧ k = sNew) then some ⟨0, m, n, ⟨tt, pp, decide (k = sKept)⟩⟩ else none | _, _ => none) | _, _ => none) else none
  | _ => none
theorem take_iff {l : List Str} {a : AnsD} : (readR l = some a ∧ ansW a = l) ↔ docT l = some a := by
  match l with
  | [] => simp [readR, docT]
  | [_] => simp [readR, docT]
  | [h, x] =>
    simp only [readR, docT]
    by_cases hh : h = sErr
    · rw [if_pos hh, if_pos hh]
      constructor
      · rintro ⟨h1, h2⟩
        cases hx : numA x with
        | none => rw [hx] at h1; cases h1
        | some n =>
          rw [hx] at h1; simp only at h1
          split at h1
          · rename_i hn
            simp only [Option.some.injEq] at h1; subst h1
            simp only [ansW] at h2
            rw [if_pos (by omega)] at h2
            simp only [List.cons.injEq, and_true] at h2
            rw [(numM_A x n).2 ⟨hx, h2.2⟩]; simp only; rw [if_pos hn]
          · cases h1
      · intro h1
        cases hx : numM x with
        | none => rw [hx] at h1; cases h1
        | some n =>
          rw [hx] at h1; simp only at h1
          split at h1
          · rename_i hn
            simp only [Option.some.injEq] at h1; subst h1
            obtain ⟨q1, q2⟩ := (numM_A x n).1 hx
            rw [q1]; simp only; rw [if_pos hn]
            refine ⟨rfl, ?_⟩
            simp only [ansW]
            rw [if_pos (by omega), q2, hh]
          · cases h1
    · rw [if_neg hh, if_neg hh]; simp
  | [h, x, y] =>
    simp only [readR, docT]
    by_cases hh : h = sOk
    · rw [if_pos hh, if_pos hh]
      constructor
      · rintro ⟨h1, h2⟩
        cases hx : numA x with
        | none => rw [hx] at h1; cases h1
        | some m =>
          cases hy : numA y with
          | none => rw [hx, hy] at h1; cases h1
          | some n =>
            rw [hx, hy] at h1; simp only [Option.some.injEq] at h1; subst h1
            simp only [ansW] at h2
            rw [if_neg (by simp), if_pos trivial] at h2
            simp only [List.cons.injEq, and_true] at h2
            rw [(numM_A x m).2 ⟨hx, h2.2.1⟩, (numM_A y n).2 ⟨hy, h2.2.2⟩]
      · intro h1
        cases hx : numM x with
        | none => rw [hx] at h1; cases h1
        | some m =>
          cases hy : numM y with
          | none => rw [hx, hy] at h1; cases h1
          | some n =>
            rw [hx, hy] at h1; simp only [Option.some.injEq] at h1; subst h1
            obtain ⟨q1, q2⟩ := (numM_A x m).1 hx
            obtain ⟨q3, q4⟩ := (numM_A y n).1 hy
            rw [q1, q3]
            refine ⟨rfl, ?_⟩
            simp only [ansW]
            rw [if_neg (by simp), if_pos trivial, q2, q4, hh]
    · rw [if_neg hh, if_neg hh]; simp
  | [_, _, _, _] => simp [readR, docT]
  | [_, _, _, _, _] => simp [readR, docT]
  | [h, x, y, t, p, k] =>
    simp only [readR, docT]
    by_cases hh : h = sOk
    · rw [if_pos hh, if_pos hh]
      constructor
      · rintro ⟨h1, h2⟩
        cases hx : numA x with
        | none => rw [hx] at h1; cases h1
        | some m =>
          cases hy : numA y with
          | none => rw [hx, hy] at h1; cases h1
          | some n =>
            cases ht : unR t with
            | none => rw [hx, hy, ht] at h1; cases h1
            | some tt =>
              cases hp : unR p with
              | none => rw [hx, hy, ht, hp] at h1; cases h1
              | some pp =>
                rw [hx, hy, ht, hp] at h1; simp only [Option.some.injEq] at h1; subst h1
                simp only [ansW] at h2
                rw [if_neg (by simp)] at h2
                by_cases hz : (⟨tt, pp, decide (k = sKept)⟩ : MsgD) = mZ
                · rw [if_pos hz] at h2; simp at h2
                · rw [if_neg hz] at h2
                  simp only [List.cons.injEq, and_true] at h2
                  rw [(numM_A x m).2 ⟨hx, h2.2.1⟩, (numM_A y n).2 ⟨hy, h2.2.2.1⟩]
                  simp only
                  rw [if_pos]
                  have hk := h2.2.2.2.2.2
                  refine ⟨?_, ?_⟩
                  · unfold howR at hk; split at hk
                    · exact .inl hk.symm
                    · exact .inr hk.symm
                  · rintro ⟨r1, r2, r3⟩
                    apply hz; subst r1; subst r2; subst r3; rfl
      · intro h1
        cases hx : numM x with
        | none => rw [hx] at h1; cases h1
        | some m =>
          cases hy : numM y with
          | none => rw [hx, hy] at h1; cases h1
          | some n =>
            cases ht : unR t with
            | none => rw [hx, hy, ht] at h1; cases h1
            | some tt =>
              cases hp : unR p with
              | none => rw [hx, hy, ht, hp] at h1; cases h1
              | some pp =>
                rw [hx, hy, ht, hp] at h1; simp only at h1
                split at h1
                · rename_i hc
                  simp only [Option.some.injEq] at h1; subst h1
                  obtain ⟨q1, q2⟩ := (numM_A x m).1 hx
                  obtain ⟨q3, q4⟩ := (numM_A y n).1 hy
                  rw [q1, q3]
                  refine ⟨rfl, ?_⟩
                  simp only [ansW]
                  have hz : ¬ (⟨tt, pp, decide (k = sKept)⟩ : MsgD) = mZ := by
                    intro e
                    simp only [MsgD.mk.injEq, decide_eq_false_iff_not] at e
                    rcases hc.1 with e2 | e2
                    · exact e.2.2 e2
                    · exact hc.2 ⟨e.1, e.2.1, e2⟩
                  rw [if_neg (by simp), if_neg hz, q2, q4, hh, word_unR ht, word_unR hp]
                  have hk : howR (decide (k = sKept)) = k := by
                    unfold howR
                    rcases hc.1 with e2 | e2 <;> subst e2 <;> rfl
                  rw [hk]
                · cases h1
    · rw [if_neg hh, if_neg hh]; simp
  | _ :: _ :: _ :: _ :: _ :: _ :: _ :: _ => simp [readR, docT]
theorem take_doc (s : Str) : takeR s = docT (spl 32 s) := by
  unfold takeR
  cases hd : docT (spl 32 s) with
  | some a =>
    obtain ⟨h1, h2⟩ := take_iff.2 hd
    rw [h1]; simp only
    rw [if_pos ((ans_iff a s).2 h2)]
  | none =>
    cases hr : readR (spl 32 s) with
    | none => rfl
    | some a =>
      simp only
      rw [if_neg]
      intro h
      have := take_iff.1 ⟨hr, (ans_iff a s).1 h⟩
      rw [hd] at this; cases this
/-- An answer within bounds is read from its text again. -/
def ansB (a : AnsD) : AnsD := if a.err ≠ 0 then ⟨a.err, 0, 0, mZ⟩ else a
theorem take_ans {a : AnsD} (he : 0 ≤ a.err ∧ a.err ≤ 12) (ha : -1000000 ≤ a.a ∧ a.a ≤ 1000000) (hb : -1000000 ≤ a.b ∧ a.b ≤ 1000000) : takeR (ansR a) = some (ansB a) := by
  rw [take_doc, spl_ans]
  obtain ⟨e, x, y, ⟨t, p, k⟩⟩ := a
  simp only at he ha hb
  unfold ansW ansB
  simp only
  by_cases h0 : e ≠ 0
  · rw [if_pos h0, if_pos h0]
    simp only [docT]
    rw [if_pos trivial, numM_itoa (by omega)]; simp only
    rw [if_pos (by omega)]
  · have h0 : e = 0 := Classical.not_not.1 h0
    subst h0
    rw [if_neg (show ¬ (0 : Int) ≠ 0 by simp), if_neg (show ¬ (0 : Int) ≠ 0 by simp)]
    by_cases hz : (⟨t, p, k⟩ : MsgD) = mZ
    · rw [if_pos hz]
      simp only [docT]
      rw [if_pos trivial, numM_itoa ha, numM_itoa hb]
      simp only [hz]
    · rw [if_neg hz]
      simp only [docT]
      rw [if_pos trivial, numM_itoa ha, numM_itoa hb, unR_word, unR_word]
      simp only
      have hk : decide (howR k = sKept) = k := by unfold howR; cases k <;> rfl
      rw [if_pos, hk]
      refine ⟨?_, ?_⟩
      · unfold howR; cases k
        · exact .inr rfl
        · exact .inl rfl
      · rintro ⟨r1, r2, r3⟩
        apply hz
        unfold howR at r3
        cases k
        · rw [r1, r2]
        · exact absurd (show sKept = sNew from r3) (by decide)
theorem dec_len19 {m : Nat} (hm : m ≤ 9223372036854775808) : (decDigits m).length ≤ 19 := by
  rw [decDigits_length]; exact ndig_pow 18 m (by omega)
theorem itoa_len {n : Int} (h : I64 n) : (itoa n).length ≤ 20 := by
  rcases int_cases n with ⟨m, rfl⟩ | ⟨m, h1, rfl⟩
  · rw [itoa_nat]; have := dec_len19 (m := m) (by have := h.2; omega); omega
  · rw [itoa_neg h1]; have := dec_len19 (m := m) (by have := h.1; omega); simp only [List.length_cons]; omega
theorem join6 (a b c d e f : Str) : join [a, b, c, d, e, f] [32] = a ++ 32 :: (b ++ 32 :: (c ++ 32 :: (d ++ 32 :: (e ++ 32 :: f)))) := by
  rw [join_cons2, join_cons2, join_cons2, join_cons2, join_cons2, join_one]
theorem ansR_err {e x y : Int} {m : MsgD} (h : e ≠ 0) : ansR ⟨e, x, y, m⟩ = [101, 114, 114, 111, 114, 32] ++ itoa e := by
  unfold ansR ansW; rw [if_pos h, join2]; rfl
theorem ansR_3 {x y : Int} {m : MsgD} (hz : m = mZ) : ansR ⟨0, x, y, m⟩ = (([111, 107, 32] ++ itoa x) ++ [32]) ++ itoa y := by
  unfold ansR ansW; rw [if_neg (by simp), if_pos hz, join3]; simp
theorem ansR_6 {x y : Int} {t p : Str} {k : Bool} (hz : ¬ (⟨t, p, k⟩ : MsgD) = mZ) : ansR ⟨0, x, y, ⟨t, p, k⟩⟩ = (((((([111, 107, 32] ++ itoa x) ++ [32]) ++ itoa y) ++ [32]) ++ wordR t) ++ [32]) ++ wordR p ++ (32 :: howR k) := by
  unfold ansR ansW; rw [if_neg (by simp), if_neg hz, join6]; simp
theorem howR_len (k : Bool) : (howR k).length ≤ 4 := by unfold howR; split <;> simp
theorem ansR_len {a : AnsD} (h : AnsOk a) : (ansR a).length ≤ 24100 := by
  obtain ⟨e, x, y, ⟨t, p, k⟩⟩ := a
  have h1 := itoa_len h.e; have h2 := itoa_len h.x; have h3 := itoa_len h.y
  have h4 := wordR_len t; have h5 := wordR_len p
  have h6 : t.length ≤ 4000 := h.t
  have h7 : p.length ≤ 4000 := h.p
  simp only at h1 h2 h3
  have hh : (howR k).length ≤ 4 := by unfold howR; split <;> simp
  by_cases h0 : e ≠ 0
  · rw [ansR_err h0]; simp only [List.length_append, List.length_cons, List.length_nil]; omega
  · obtain rfl : e = 0 := Classical.not_not.1 h0
    by_cases hz : (⟨t, p, k⟩ : MsgD) = mZ
    · rw [ansR_3 hz]; simp only [List.length_append, List.length_cons, List.length_nil]; omega
    · rw [ansR_6 hz]; simp only [List.length_append, List.length_cons, List.length_nil]; omega
theorem lineQ_len {x : OpD} (h1 : x.text.length ≤ 4000) (h2 : x.payload.length ≤ 4000) : (if plainR x = true then lineR x else []).length ≤ 24100 ∧ (lineQ x).length ≤ 24100 := by
  unfold lineQ
  by_cases h : plainR x = true
  · rw [if_pos h, if_pos h]; have := lineR_len h; omega
  · rw [if_neg h, if_neg h]; simp
theorem tx_step {l : List Int} {i : Nat} {n : Int} (h : l[i]? = some n) : tx (l.take (i + 1)) = tx (l.take i) ++ (itoa n ++ [32]) := by
  unfold tx; rw [List.take_add_one, h]; simp
theorem tx_len : ∀ (l : List Int), (∀ n ∈ l, I64 n) → (tx l).length ≤ 21 * l.length
  | [], _ => by simp [tx]
  | n :: l, h => by
    have h1 := tx_len l (fun x hx => h x (by simp [hx]))
    have h2 := itoa_len (h n (by simp))
    unfold tx at h1 ⊢
    simp only [List.map_cons, List.flatten_cons, List.length_append, List.length_cons, List.length_nil] at h1 ⊢
    omega
theorem tx4 (a b c d : Int) : tx [a, b, c, d] = (((((((itoa a ++ [32]) ++ itoa b) ++ [32]) ++ itoa c) ++ [32]) ++ itoa d) ++ [32]) := by simp [tx]
theorem negmod (k : Nat) : (-(k : Int)).tmod 10 = -((k % 10 : Nat) : Int) := by rw [Int.neg_tmod]; rfl
theorem negquo (k : Nat) : (-(k : Int)).tdiv 10 = -((k / 10 : Nat) : Int) := by rw [Int.neg_tdiv]; rfl
theorem readR_none {h : Str} {r : List Str} (h1 : ¬ (r.length = 1 ∧ h = sErr)) (h2 : (¬ r.length = 2 ∧ ¬ r.length = 5) ∨ ¬ h = sOk) : readR (h :: r) = none := by
  match r, h1, h2 with
  | [], _, _ => rfl
  | [_], h1, _ => simp only [readR]; rw [if_neg (fun e => h1 ⟨rfl, e⟩)]
  | [_, _], _, h2 => simp only [readR]; rw [if_neg (h2.resolve_left (fun h => h.1 rfl))]
  | [_, _, _], _, _ => rfl
  | [_, _, _, _], _, _ => rfl
  | [_, _, _, _, _], _, h2 => simp only [readR]; rw [if_neg (h2.resolve_left (fun h => h.2 rfl))]
  | _ :: _ :: _ :: _ :: _ :: _ :: _, _, _ => rfl
theorem docT_none {h : Str} {r : List Str} (h1 : ¬ (r.length = 1 ∧ h = sErr)) (h2 : (¬ r.length = 2 ∧ ¬ r.length = 5) ∨ ¬ h = sOk) : docT (h :: r) = none := by
  match r, h1, h2 with
  | [], _, _ => rfl
  | [_], h1, _ => simp only [docT]; rw [if_neg (fun e => h1 ⟨rfl, e⟩)]
  | [_, _], _, h2 => simp only [docT]; rw [if_neg (h2.resolve_left (fun h => h.1 rfl))]
  | [_, _, _], _, _ => rfl
  | [_, _, _, _], _, _ => rfl
  | [_, _, _, _, _], _, h2 => simp only [docT]; rw [if_neg (h2.resolve_left (fun h => h.2 rfl))]
  | _ :: _ :: _ :: _ :: _ :: _ :: _, _, _ => rfl
theorem i64z : I64 0 := by constructor <;> decide
theorem numA_i64 {w : Str} {n : Int} (h : numA w = some n) : I64 n := by have := of_numA h; exact ⟨by omega, by omega⟩
theorem readR_ok {l : List Str} {a : AnsD} (hl : ∀ x ∈ l, x.length ≤ 4000) (h : readR l = some a) : AnsOk a := by
  match l, hl, h with
  | [h, x], hl, hr =>
    simp only [readR] at hr
    split at hr
    · cases hx : numA x with
      | none => rw [hx] at hr; cases hr
      | some n =>
        rw [hx] at hr; simp only at hr
        split at hr
        · simp only [Option.some.injEq] at hr; subst hr
          exact ⟨numA_i64 hx, i64z, i64z, by simp, by simp⟩
        · cases hr
    · cases hr
  | [h, x, y], hl, hr =>
    simp only [readR] at hr
    split at hr
    · cases hx : numA x with
      | none => rw [hx] at hr; cases hr
      | some n =>
        cases hy : numA y with
        | none => rw [hx, hy] at hr; cases hr
        | some m =>
          rw [hx, hy] at hr; simp only [Option.some.injEq] at hr; subst hr
          exact ⟨i64z, numA_i64 hx, numA_i64 hy, by simp, by simp⟩
    · cases hr
  | [h, x, y, t, p, k], hl, hr =>
    simp only [readR] at hr
    split at hr
    · cases hx : numA x with
      | none => rw [hx] at hr; cases hr
      | some n =>
        cases hy : numA y with
        | none => rw [hx, hy] at hr; cases hr
        | some m =>
          cases ht : unR t with
          | none => rw [hx, hy, ht] at hr; cases hr
          | some tt =>
            cases hp : unR p with
            | none => rw [hx, hy, ht, hp] at hr; cases hr
            | some pp =>
              rw [hx, hy, ht, hp] at hr; simp only [Option.some.injEq] at hr; subst hr
              exact ⟨i64z, numA_i64 hx, numA_i64 hy, Nat.le_trans (unR_len ht) (hl t (by simp)), Nat.le_trans (unR_len hp) (hl p (by simp))⟩
    · cases hr
end Go.Proofs.YthcclgoidchkdaaDoorC

/- append(s, text...) of bytes, in the calculus; the rule holds of whatever program. -/
set_option linter.unusedVariables false
set_option linter.unusedSimpArgs false
namespace Go.Proofs.YthcclgoidchkdaaDoorC
open Go.RowKit
variable {P : Program} {σ : Env} {w : World} {ops rest : List Oper} {K : Ops} {ty : TypeId} {pos : String} {af : Array Edge}
theorem strCells_str (l : Str) : Lib.strCells ⟨l.toArray⟩ = Lib.byteCells l := by simp [Lib.strCells, Lib.byteCells]
theorem owO_of_row {e : TypeId} {v : Value} {l : Str} (h : w.ownsRow 0 e 1 v l.length (Lib.byteCells l)) : OwO w v v.ownBlock 1 (l.map eC) := by
  rcases h.2 with ⟨rfl, h2⟩ | ⟨g, cap, cur, rfl, _, hg, h1, h2, h3, h4⟩
  · exact .inl ⟨rfl, by simpa using h2, rfl⟩
  · refine .inr ⟨g, cur.toList.drop l.length, rfl, ?_⟩
    have e1 : (l.map eC).flatten ++ cur.toList.drop l.length = cur.toList := by
      rw [eC_flat]
      have : cur.toList.take l.length = Lib.byteCells l := by simpa using h4
      rw [← this, List.take_append_drop]
    refine ⟨⟨cap, by rw [List.length_map], by rw [List.length_map]; exact h1, by simp only [maxLen, big] at *; omega, ?_⟩, ⟨e, by rw [e1]; simpa using hg⟩, fun r hr => by obtain ⟨c, _, rfl⟩ := List.mem_map.1 hr; rfl⟩
    rw [List.length_drop, Array.length_toList, h3, List.length_map, Nat.mul_one, Nat.mul_one]
/-- append(s, text...) of bytes, s the call's own or nil; its row's type stays known. -/
theorem wl_appTs {t u e : TypeId} {s x : Operand} {d : Nat} {v : Value} {o : Option Nat} {l l2 : Str} (hT : SliceT P t e 1 1 [.int .u8 0]) (hz : (P.info? e).bind (·.zero) = some (.int .u8 0)) (hu : P.underlying u = some .string) (hsv : ev σ s = v) (hxv : ev σ x = Sv l2) (hs : OwO w v o 1 (l.map eC)) (hr : w.ownsRow 0 e 1 v l.length (Lib.byteCells l))
    (hn : l.length + l2.length ≤ 100000000)
    (kk : ∀ v' w' o', Ext (fun i => o = some i) w w' → OwO w' v' o' 1 ((l ++ l2).map eC) → w'.ownsRow 0 e 1 v' (l ++ l2).length (Lib.byteCells (l ++ l2)) → (∀ i, o' = some i → o = some i ∨ w.heap.size ≤ i) → wl P ops rest K (upd σ d v') w') :
    wl P ops (⟨some d, .call ⟨.builtin .append, #[s, x], #[t, u]⟩, ty, pos, af, none⟩ :: rest) K σ w := by
  have hl2 : (⟨l2.toArray⟩ : ByteArray).size = l2.length := by simp [ByteArray.size]
  obtain ⟨inf, z0, i1, i2, i3, i4, i5⟩ := hT.inf
  have hz0 : inf.zero = some (.int .u8 0) := by rw [i1] at hz; exact hz
  have hob : v.ownBlock = o ∧ ∀ b, o = some b → ∃ c, v = .slice (some ⟨b, 0, none⟩) l.length c := by
    rcases hs with ⟨rfl, _, rfl⟩ | ⟨b, spare, rfl, h⟩
    · exact ⟨rfl, fun b h => by cases h⟩
    · obtain ⟨c, rfl, _⟩ := h.val
      exact ⟨rfl, fun b h => by cases h; exact ⟨c, by rw [List.length_map]⟩⟩
  have hkey : ∃ v' w', (Builtin.append_ #[t, u] ty #[v, .string ⟨l2.toArray⟩]).run P w = .ok v' w' ∧ w'.ownsRow 0 e 1 v' (l ++ l2).length (Lib.byteCells (l ++ l2)) ∧ Ext (fun i => o = some i) w w' ∧ (∀ i, v'.ownBlock = some i → o = some i ∨ w.heap.size ≤ i) := by
    have hbase : ∀ base, w.ownsRow base e 1 v l.length (Lib.byteCells l) → base ≤ w.heap.size → ∃ v' w', (Builtin.append_ #[t, u] ty #[v, .string ⟨l2.toArray⟩]).run P w = .ok v' w' ∧ w'.ownsRow base e 1 v' (l ++ l2).length (Lib.byteCells (l ++ l2)) ∧ Ext (fun i => o = some i) w w' := by
      intro base hrb hb
      obtain ⟨v', w', f1, f2, f3, _⟩ := Lib.run_append_own_string (P := P) (w := w) base t u ty e inf hT.under hu i1 hz0 i2 i3 v l.length (Lib.byteCells l) hrb ⟨l2.toArray⟩ (by rw [hl2]; simp only [maxLen]; omega) (by rw [hl2]; omega) hb
      refine ⟨v', w', f1, ?_, ⟨f3.os, f3.tape, f3.output, f3.size, fun i hi hn => f3.block i hi (fun h => hn (by rw [hob.1] at h; exact h.symm))⟩⟩
      rw [hl2, strCells_str] at f2
      have e1 : Lib.byteCells l ++ Lib.byteCells l2 = Lib.byteCells (l ++ l2) := by simp [Lib.byteCells]
      rw [e1] at f2
      rw [List.length_append]; exact f2
    cases o with
    | none =>
      have hv : v = .slice none 0 0 ∧ l.length = 0 := by
        rcases hs with ⟨h1, h2, _⟩ | ⟨b, spare, h, _⟩
        · exact ⟨h1, by simpa using congrArg List.length h2⟩
        · cases h
      obtain ⟨v', w', f1, f2, f3⟩ := hbase w.heap.size ⟨hr.1, .inl hv⟩ (Nat.le_refl _)
      refine ⟨v', w', f1, ⟨f2.1, ?_⟩, f3, fun i hi => ?_⟩
      · rcases f2.2 with h | ⟨g, cap, cur, h1, _, h3⟩
        · exact .inl h
        · exact .inr ⟨g, cap, cur, h1, Nat.zero_le _, h3⟩
      · rcases f2.2 with ⟨h, _⟩ | ⟨g, cap, cur, h1, h2, _⟩
        · rw [h] at hi; cases hi
        · rw [h1] at hi; cases hi; exact .inr h2
    | some b =>
      obtain ⟨v', w', f1, f2, f3⟩ := hbase 0 hr (Nat.zero_le _)
      refine ⟨v', w', f1, f2, f3, fun i hi => ?_⟩
      obtain ⟨c, hv⟩ := hob.2 b rfl
      rcases hr.2 with ⟨h, _⟩ | ⟨g, cap, cur, h1, _, hg, hc1, hc2, hc3, hc4⟩
      · rw [hv] at h; cases h
      · rw [hv] at h1
        simp only [Value.slice.injEq, Option.some.injEq, Addr.mk.injEq] at h1
        obtain ⟨⟨rfl, _⟩, _, rfl⟩ := h1
        subst hv
        by_cases hroom : l.length + (⟨l2.toArray⟩ : ByteArray).size ≤ c
        · have := Lib.run_append_room_string (P := P) (w := w) t u ty e inf hT.under hu i1 i2 b l.length c cur hg ⟨l2.toArray⟩ hroom (by rw [hc3]; omega)
          rw [this] at f1
          simp only [Result.ok.injEq] at f1
          obtain ⟨rfl, _⟩ := f1
          cases hi; exact .inl rfl
        · have := Lib.run_append_grow_string (P := P) (w := w) t u ty e inf (.int .u8 0) hT.under hu i1 hz0 ⟨b, 0, none⟩ l.length c (Lib.byteCells l) (by rw [i2]; simp [Lib.byteCells]) (fun j y hj => by
            have hjl : j < l.length := by have := (List.getElem?_eq_some_iff.1 hj).1; simpa [Lib.byteCells] using this
            rw [← hc4, List.getElem?_take_of_lt (by omega)] at hj
            rw [add_at, Nat.zero_add]
            have hj' : cur[j]? = some y := by rw [← hj]; simp
            have hlt := (Array.getElem?_eq_some_iff.1 hj').1
            simp [World.cell?, hg, hj']) ⟨l2.toArray⟩ (by omega) (by rw [hl2]; omega) (by rw [i3]; exact growslice_fits (by omega) (by rw [hl2, Nat.mul_one]; omega))
          rw [this] at f1
          simp only [Result.ok.injEq] at f1
          obtain ⟨rfl, _⟩ := f1
          cases hi; exact .inr (Nat.le_refl _)
  obtain ⟨v', w', e2, e3, e4, e5⟩ := hkey
  refine wl_new (w' := w') (v := v') ?_ (kk v' w' v'.ownBlock e4 (owO_of_row e3) e3 e5)
  show (execOp (ev σ) _).run P w = _
  simp [execOp, resolve, invoke, builtin, hsv, hxv, e2]
end Go.Proofs.YthcclgoidchkdaaDoorC
