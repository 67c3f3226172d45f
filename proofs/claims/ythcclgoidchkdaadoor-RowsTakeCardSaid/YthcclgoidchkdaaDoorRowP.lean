/- Answers as texts; plain. -/
import Derived.Test.YthcclgoidchkdaaDoorOpAb
set_option linter.unusedVariables false
set_option linter.unusedSimpArgs false
namespace Go.Proofs.YthcclgoidchkdaaDoorC
open Go.RowKit Go.Lib
abbrev sErr : Str := [101, 114, 114, 111, 114]
abbrev sOk : Str := [111, 107]
abbrev sKept : Str := [107, 101, 112, 116]
abbrev sNew : Str := [110, 101, 119]
abbrev mZ : MsgD := ⟨[], [], false⟩
abbrev aZ : AnsD := ⟨0, 0, 0, mZ⟩
def howR (b : Bool) : Str := if b = true then sKept else sNew
/-- An answer's words. -/
def ansW (a : AnsD) : List Str := if a.err ≠ 0 then [sErr, itoa a.err] else if a.msg = mZ then [sOk, itoa a.a, itoa a.b] else [sOk, itoa a.a, itoa a.b, wordR a.msg.topic, wordR a.msg.payload, howR a.msg.kept]
def ansR (a : AnsD) : Str := join (ansW a) [32]
def lineQ (x : OpD) : Str := if plainR x = true then lineR x else [63]
def tx (l : List Int) : Str := (l.map fun n => itoa n ++ [32]).flatten
/-- A call's row. -/
def rowR (c : CallD) : Str := ((tx [c.thread, c.place, c.from_, c.to_] ++ lineQ c.op) ++ [32, 61, 32]) ++ ansR c.ans
abbrev I64 (n : Int) : Prop := -9223372036854775808 ≤ n ∧ n ≤ 9223372036854775807
structure AnsOk (a : AnsD) : Prop where
  e : I64 a.err
  x : I64 a.a
  y : I64 a.b
  t : a.msg.topic.length ≤ 4000
  p : a.msg.payload.length ≤ 4000
structure CallOk (c : CallD) : Prop where
  th : I64 c.thread
  pl : I64 c.place
  fr : I64 c.from_
  to : I64 c.to_
  t : c.op.text.length ≤ 4000
  p : c.op.payload.length ≤ 4000
  ans : AnsOk c.ans
/-! ### numbers -/
theorem itoa_neg {n : Nat} (h : 1 ≤ n) : itoa (-(n : Int)) = 45 :: decDigits n := by
  unfold itoa; rw [if_pos (by omega)]; simp
theorem dec_digit {n : Nat} {i : Nat} {c : UInt8} (h : (decDigits n)[i]? = some c) : 48 ≤ c.toNat ∧ c.toNat ≤ 57 := by
  obtain ⟨d, hd⟩ := digit_of_decFrom _ 0 n (dec_num n) i c h
  unfold digitVal at hd; split at hd
  · assumption
  · cases hd
theorem dec_cons (n : Nat) : ∃ c r, decDigits n = c :: r ∧ 48 ≤ c.toNat ∧ c.toNat ≤ 57 := by
  cases hs : decDigits n with
  | nil => exact absurd hs (dec_ne n)
  | cons c r => exact ⟨c, r, rfl, dec_digit (n := n) (i := 0) (by rw [hs]; rfl)⟩
theorem itoa_nb' (n : Int) : ¬ (32 : UInt8) ∈ itoa n := by
  unfold itoa; split
  · rw [List.mem_cons]; rintro (h | h)
    · revert h; decide
    · exact dec_nb _ h
  · exact dec_nb _
theorem atoi_decM {n : Nat} (h : n ≤ 1000000) : atoiAll (decDigits n) = .ok (n : Int) := by
  rw [atoiAll_short _ (by have := dec_len6 h; omega)]
  have hd := dec_num n
  obtain ⟨c, r, hs, hr⟩ := dec_cons n
  rw [hs] at hd ⊢
  have h45 : (c == 45) = false := by rw [beq_eq_false_iff_ne]; intro e; rw [e] at hr; revert hr; decide
  have h43 : (c == 43) = false := by rw [beq_eq_false_iff_ne]; intro e; rw [e] at hr; revert hr; decide
  have e : atoi (c :: r) = some (n : Int) := by
    simp only [atoi, h45, h43, Bool.false_eq_true, if_false]
    unfold decNat
    simp [hd]
  rw [e]; rfl
theorem atoi_negM {n : Nat} (h : n ≤ 1000000) : atoiAll (45 :: decDigits n) = .ok (-(n : Int)) := by
  rw [atoiAll_short _ (by have := dec_len6 h; simp only [List.length_cons]; omega)]
  have hd := dec_num n
  have hne := dec_ne n
  have e : atoi (45 :: decDigits n) = some (-(n : Int)) := by
    simp only [atoi]
    unfold decNat
    cases hs : decDigits n with
    | nil => exact absurd hs hne
    | cons c r => rw [hs] at hd; simp [hd]
  rw [e]; rfl
theorem int_cases (n : Int) : (∃ m : Nat, n = (m : Int)) ∨ ∃ m : Nat, 1 ≤ m ∧ n = -(m : Int) := by
  by_cases h : n < 0
  · exact .inr ⟨n.natAbs, by omega, by omega⟩
  · exact .inl ⟨n.toNat, by omega⟩
theorem atoi_itoa {n : Int} (h : -1000000 ≤ n ∧ n ≤ 1000000) : atoiAll (itoa n) = .ok n := by
  rcases int_cases n with ⟨m, rfl⟩ | ⟨m, h1, rfl⟩
  · rw [itoa_nat]; exact atoi_decM (by omega)
  · rw [itoa_neg h1]; exact atoi_negM (by omega)
/-- A number of at most seven digits. -/
def natM (v : Str) : Option Nat := if v.length < 1 ∨ 7 < v.length ∨ (1 < v.length ∧ v[0]? = some 48) then none else decFrom 0 v
theorem of_natM {v : Str} {n : Nat} (h : natM v = some n) : decDigits n = v := by
  unfold natM at h
  split at h
  · cases h
  · rename_i h1
    simp only [not_or] at h1
    exact dec_of v.length v n rfl h (fun e => by rw [e] at h1; simp at h1) (fun h2 h3 => h1.2.2 ⟨h2, h3⟩)
theorem natM_dec {n : Nat} (h : n ≤ 1000000) : natM (decDigits n) = some n := by
  unfold natM
  rw [if_neg, dec_num]
  have hl := dec_len6 h
  have hp := List.length_pos_iff.2 (dec_ne n)
  rintro (h1 | h1 | ⟨h1, h2⟩)
  · omega
  · omega
  · refine dec_head n ?_ h2
    apply Classical.byContradiction
    intro h0
    rw [show n = 0 by omega, decDigits_one (by decide)] at h1
    simp at h1
/-- A number within 1,000,000. -/
def numM (w : Str) : Option Int :=
  if w[0]? = some 45 then (if w.drop 1 = [48] then none else match natM (w.drop 1) with | some n => if n ≤ 1000000 then some (-(n : Int)) else none | none => none)
  else match natM w with | some n => if n ≤ 1000000 then some (n : Int) else none | none => none
theorem numM_itoa {n : Int} (h : -1000000 ≤ n ∧ n ≤ 1000000) : numM (itoa n) = some n := by
  rcases int_cases n with ⟨m, rfl⟩ | ⟨m, h1, rfl⟩
  · rw [itoa_nat]
    unfold numM
    obtain ⟨c, r, hs, hr⟩ := dec_cons m
    rw [if_neg, natM_dec (by omega)]
    · simp only; rw [if_pos (by omega)]
    · rw [hs]; simp only [List.getElem?_cons_zero, Option.some.injEq]; intro e; rw [e] at hr; revert hr; decide
  · rw [itoa_neg h1]
    unfold numM
    rw [if_pos (show (45 :: decDigits m)[0]? = some 45 from rfl), List.drop_succ_cons, List.drop_zero, if_neg, natM_dec (by omega)]
    · simp only; rw [if_pos (by omega)]
    · intro e
      have := dec_num m
      rw [e] at this
      simp [decFrom, digitVal] at this
      omega
theorem of_numM {w : Str} {n : Int} (h : numM w = some n) : itoa n = w ∧ -1000000 ≤ n ∧ n ≤ 1000000 := by
  unfold numM at h
  split at h
  · rename_i h0
    split at h
    · cases h
    · rename_i h1
      cases hn : natM (w.drop 1) with
      | none => rw [hn] at h; cases h
      | some m =>
        rw [hn] at h; simp only at h
        split at h
        · simp only [Option.some.injEq] at h; subst h
          have hd := of_natM hn
          have hm : 1 ≤ m := by
            apply Classical.byContradiction; intro h2
            rw [show m = 0 by omega, decDigits_one (by decide)] at hd
            exact h1 hd.symm
          refine ⟨?_, by omega, by omega⟩
          rw [itoa_neg hm, hd]
          cases w with
          | nil => cases h0
          | cons c r => simp only [List.getElem?_cons_zero, Option.some.injEq] at h0; rw [h0]; rfl
        · cases h
  · cases hn : natM w with
    | none => rw [hn] at h; cases h
    | some m =>
      rw [hn] at h; simp only at h
      split at h
      · simp only [Option.some.injEq] at h; subst h
        exact ⟨by rw [itoa_nat]; exact of_natM hn, by omega, by omega⟩
      · cases h
theorem numM_iff (w : Str) (n : Int) : numM w = some n ↔ itoa n = w ∧ -1000000 ≤ n ∧ n ≤ 1000000 := ⟨of_numM, fun h => by rw [← h.1]; exact numM_itoa h.2⟩
/-- A number, as the library reads it, within 1,000,000. -/
def numA (w : Str) : Option Int := match atoiAll w with | .ok n => if -1000000 ≤ n ∧ n ≤ 1000000 then some n else none | _ => none
theorem of_numA {w : Str} {n : Int} (h : numA w = some n) : -1000000 ≤ n ∧ n ≤ 1000000 := by
  unfold numA at h
  split at h
  · split at h
    · simp only [Option.some.injEq] at h; subst h; assumption
    · cases h
  · cases h
theorem numA_itoa {n : Int} (h : -1000000 ≤ n ∧ n ≤ 1000000) : numA (itoa n) = some n := by unfold numA; rw [atoi_itoa h]; exact if_pos h
theorem numM_A (w : Str) (n : Int) : numM w = some n ↔ numA w = some n ∧ itoa n = w := by
  rw [numM_iff]
  constructor
  · rintro ⟨h1, h2⟩; exact ⟨by rw [← h1]; exact numA_itoa h2, h1⟩
  · rintro ⟨h1, h2⟩; exact ⟨h2, of_numA h1⟩
/-! ### answers -/
theorem ansW_nb (a : AnsD) : ∀ x ∈ ansW a, ¬ (32 : UInt8) ∈ x := by
  intro x hx
  unfold ansW at hx
  have hh : ¬ (32 : UInt8) ∈ howR a.msg.kept := by unfold howR; split <;> decide
  split at hx
  · simp only [List.mem_cons, List.not_mem_nil, or_false] at hx
    rcases hx with rfl | rfl; decide; exact itoa_nb' _
  · split at hx
    · simp only [List.mem_cons, List.not_mem_nil, or_false] at hx
      rcases hx with rfl | rfl | rfl; decide; exact itoa_nb' _; exact itoa_nb' _
    · simp only [List.mem_cons, List.not_mem_nil, or_false] at hx
      rcases hx with rfl | rfl | rfl | rfl | rfl | rfl; decide; exact itoa_nb' _; exact itoa_nb' _; exact wordR_nb _; exact wordR_nb _; exact hh
theorem ansW_ne (a : AnsD) : ansW a ≠ [] := by unfold ansW; (repeat' split) <;> simp
theorem spl_ans (a : AnsD) : spl 32 (ansR a) = ansW a := spl_join _ (ansW_ne a) (ansW_nb a)
theorem ans_iff (a : AnsD) (s : Str) : ansR a = s ↔ ansW a = spl 32 s := by
  constructor
  · intro h; rw [← h, spl_ans]
  · intro h; unfold ansR; rw [h, line_spl]
/-- What the program's reading of words gives. -/
def readR : List Str → Option AnsD
  | [h, x] => if h = sErr then (match numA x with | some n => if 0 < n ∧ n ≤ 12 then some ⟨n, 0, 0, mZ⟩ else none | none => none) else none
  | [h, x, y] => if h = sOk then (match numA x, numA y with | some m, some n => some ⟨0, m, n, mZ⟩ | _, _ => none) else none
  | [h, x, y, t, p, k] => if h = sOk then (match numA x, numA y with | some m, some n => (match unR t, unR p with | some tt, some pp => some ⟨0, m, n, ⟨tt, pp, decide (k = sKept)⟩⟩ | _, _ => none) | _, _ => none) else none
  | _ => none
def takeR (s : Str) : Option AnsD := match readR (spl 32 s) with | some a => if ansR a = s then some a else none | none => none
/-- What the document takes. -/
def docT : List Str → Option AnsD
  | [h, x] => if h = sErr then (match numM x with | some n => if 0 < n ∧ n ≤ 12 then some ⟨n, 0, 0, mZ⟩ else none | none => none) else none
  | [h, x, y] => if h = sOk then (match numM x, numM y with | some m, some n => some ⟨0, m, n, mZ⟩ | _, _ => none) else none
  | [h, x, y, t, p, k] => if h = sOk then (match numM x, numM y with | some m, some n => (match unR t, unR p with | some tt, some pp => if (k = sKept ∨ k = sNew) ∧ ¬ (tt = [] ∧ pp = [] ∧ k = sNew) then some ⟨0, m, n, ⟨tt, pp, decide (k = sKept)⟩⟩ else none | _, _ => none) | _, _ => none) else none
  | _ => none
theorem take_iff {l : List Str} {a : AnsD} : (readR l = some a ∧ ansW a = l) ↔ docT l = some a := by
  match l with
  | [] => simp [readR, docT]
  | [_] => simp [readR, docT]
  | [h, x] =>
    simp only [readR, docT]
    by_cases hh : h = sErr
    · rw [if_pos hh, if_pos hh]
      constructor
      · rintro ⟨h1, h2⟩
        cases hx : numA x with
        | none => rw [hx] at h1; cases h1
        | some n =>
          rw [hx] at h1; simp only at h1
          split at h1
          · rename_i hn
            simp only [Option.some.injEq] at h1; subst h1
            simp only [ansW] at h2
            rw [if_pos (by omega)] at h2
            simp only [List.cons.injEq, and_true] at h2
            rw [(numM_A x n).2 ⟨hx, h2.2⟩]; simp only; rw [if_pos hn]
          · cases h1
      · intro h1
        cases hx : numM x with
        | none => rw [hx] at h1; cases h1
        | some n =>
          rw [hx] at h1; simp only at h1
          split at h1
          · rename_i hn
            simp only [Option.some.injEq] at h1; subst h1
            obtain ⟨q1, q2⟩ := (numM_A x n).1 hx
            rw [q1]; simp only; rw [if_pos hn]
            refine ⟨rfl, ?_⟩
            simp only [ansW]
            rw [if_pos (by omega), q2, hh]
          · cases h1
    · rw [if_neg hh, if_neg hh]; simp
  | [h, x, y] =>
    simp only [readR, docT]
    by_cases hh : h = sOk
    · rw [if_pos hh, if_pos hh]
      constructor
      · rintro ⟨h1, h2⟩
        cases hx : numA x with
        | none => rw [hx] at h1; cases h1
        | some m =>
          cases hy : numA y with
          | none => rw [hx, hy] at h1; cases h1
          | some n =>
            rw [hx, hy] at h1; simp only [Option.some.injEq] at h1; subst h1
            simp only [ansW] at h2
            rw [if_neg (by simp), if_pos trivial] at h2
            simp only [List.cons.injEq, and_true] at h2
            rw [(numM_A x m).2 ⟨hx, h2.2.1⟩, (numM_A y n).2 ⟨hy, h2.2.2⟩]
      · intro h1
        cases hx : numM x with
        | none => rw [hx] at h1; cases h1
        | some m =>
          cases hy : numM y with
          | none => rw [hx, hy] at h1; cases h1
          | some n =>
            rw [hx, hy] at h1; simp only [Option.some.injEq] at h1; subst h1
            obtain ⟨q1, q2⟩ := (numM_A x m).1 hx
            obtain ⟨q3, q4⟩ := (numM_A y n).1 hy
            rw [q1, q3]
            refine ⟨rfl, ?_⟩
            simp only [ansW]
            rw [if_neg (by simp), if_pos trivial, q2, q4, hh]
    · rw [if_neg hh, if_neg hh]; simp
  | [_, _, _, _] => simp [readR, docT]
  | [_, _, _, _, _] => simp [readR, docT]
  | [h, x, y, t, p, k] =>
    simp only [readR, docT]
    by_cases hh : h = sOk
    · rw [if_pos hh, if_pos hh]
      constructor
      · rintro ⟨h1, h2⟩
        cases hx : numA x with
        | none => rw [hx] at h1; cases h1
        | some m =>
          cases hy : numA y with
          | none => rw [hx, hy] at h1; cases h1
          | some n =>
            cases ht : unR t with
            | none => rw [hx, hy, ht] at h1; cases h1
            | some tt =>
              cases hp : unR p with
              | none => rw [hx, hy, ht, hp] at h1; cases h1
              | some pp =>
                rw [hx, hy, ht, hp] at h1; simp only [Option.some.injEq] at h1; subst h1
                simp only [ansW] at h2
                rw [if_neg (by simp)] at h2
                by_cases hz : (⟨tt, pp, decide (k = sKept)⟩ : MsgD) = mZ
                · rw [if_pos hz] at h2; simp at h2
                · rw [if_neg hz] at h2
                  simp only [List.cons.injEq, and_true] at h2
                  rw [(numM_A x m).2 ⟨hx, h2.2.1⟩, (numM_A y n).2 ⟨hy, h2.2.2.1⟩]
                  simp only
                  rw [if_pos]
                  have hk := h2.2.2.2.2.2
                  refine ⟨?_, ?_⟩
                  · unfold howR at hk; split at hk
                    · exact .inl hk.symm
                    · exact .inr hk.symm
                  · rintro ⟨r1, r2, r3⟩
                    apply hz; subst r1; subst r2; subst r3; rfl
      · intro h1
        cases hx : numM x with
        | none => rw [hx] at h1; cases h1
        | some m =>
          cases hy : numM y with
          | none => rw [hx, hy] at h1; cases h1
          | some n =>
            cases ht : unR t with
            | none => rw [hx, hy, ht] at h1; cases h1
            | some tt =>
              cases hp : unR p with
              | none => rw [hx, hy, ht, hp] at h1; cases h1
              | some pp =>
                rw [hx, hy, ht, hp] at h1; simp only at h1
                split at h1
                · rename_i hc
                  simp only [Option.some.injEq] at h1; subst h1
                  obtain ⟨q1, q2⟩ := (numM_A x m).1 hx
                  obtain ⟨q3, q4⟩ := (numM_A y n).1 hy
                  rw [q1, q3]
                  refine ⟨rfl, ?_⟩
                  simp only [ansW]
                  have hz : ¬ (⟨tt, pp, decide (k = sKept)⟩ : MsgD) = mZ := by
                    intro e
                    simp only [MsgD.mk.injEq, decide_eq_false_iff_not] at e
                    rcases hc.1 with e2 | e2
                    · exact e.2.2 e2
                    · exact hc.2 ⟨e.1, e.2.1, e2⟩
                  rw [if_neg (by simp), if_neg hz, q2, q4, hh, word_unR ht, word_unR hp]
                  have hk : howR (decide (k = sKept)) = k := by
                    unfold howR
                    rcases hc.1 with e2 | e2 <;> subst e2 <;> rfl
                  rw [hk]
                · cases h1
    · rw [if_neg hh, if_neg hh]; simp
  | _ :: _ :: _ :: _ :: _ :: _ :: _ :: _ => simp [readR, docT]
theorem take_doc (s : Str) : takeR s = docT (spl 32 s) := by
  unfold takeR
  cases hd : docT (spl 32 s) with
  | some a =>
    obtain ⟨h1, h2⟩ := take_iff.2 hd
    rw [h1]; simp only
    rw [if_pos ((ans_iff a s).2 h2)]
  | none =>
    cases hr : readR (spl 32 s) with
    | none => rfl
    | some a =>
      simp only
      rw [if_neg]
      intro h
      have := take_iff.1 ⟨hr, (ans_iff a s).1 h⟩
      rw [hd] at this; cases this
/-- An answer within bounds is read from its text again. -/
def ansB (a : AnsD) : AnsD := if a.err ≠ 0 then ⟨a.err, 0, 0, mZ⟩ else a
theorem take_ans {a : AnsD} (he : 0 ≤ a.err ∧ a.err ≤ 12) (ha : -1000000 ≤ a.a ∧ a.a ≤ 1000000) (hb : -1000000 ≤ a.b ∧ a.b ≤ 1000000) : takeR (ansR a) = some (ansB a) := by
  rw [take_doc, spl_ans]
  obtain ⟨e, x, y, ⟨t, p, k⟩⟩ := a
  simp only at he ha hb
  unfold ansW ansB
  simp only
  by_cases h0 : e ≠ 0
  · rw [if_pos h0, if_pos h0]
    simp only [docT]
    rw [if_pos trivial, numM_itoa (by omega)]; simp only
    rw [if_pos (by omega)]
  · have h0 : e = 0 := Classical.not_not.1 h0
    subst h0
    rw [if_neg (show ¬ (0 : Int) ≠ 0 by simp), if_neg (show ¬ (0 : Int) ≠ 0 by simp)]
    by_cases hz : (⟨t, p, k⟩ : MsgD) = mZ
    · rw [if_pos hz]
      simp only [docT]
      rw [if_pos trivial, numM_itoa ha, numM_itoa hb]
      simp only [hz]
    · rw [if_neg hz]
      simp only [docT]
      rw [if_pos trivial, numM_itoa ha, numM_itoa hb, unR_word, unR_word]
      simp only
      have hk : decide (howR k = sKept) = k := by unfold howR; cases k <;> rfl
      rw [if_pos, hk]
      refine ⟨?_, ?_⟩
      · unfold howR; cases k
        · exact .inr rfl
        · exact .inl rfl
      · rintro ⟨r1, r2, r3⟩
        apply hz
        unfold howR at r3
        cases k
        · rw [r1, r2]
        · exact absurd (show sKept = sNew from r3) (by decide)
theorem dec_len19 {m : Nat} (hm : m ≤ 9223372036854775808) : (decDigits m).length ≤ 19 := by
  rw [decDigits_length]; exact ndig_pow 18 m (by omega)
theorem itoa_len {n : Int} (h : I64 n) : (itoa n).length ≤ 20 := by
  rcases int_cases n with ⟨m, rfl⟩ | ⟨m, h1, rfl⟩
  · rw [itoa_nat]; have := dec_len19 (m := m) (by have := h.2; omega); omega
  · rw [itoa_neg h1]; have := dec_len19 (m := m) (by have := h.1; omega); simp only [List.length_cons]; omega
theorem join6 (a b c d e f : Str) : join [a, b, c, d, e, f] [32] = a ++ 32 :: (b ++ 32 :: (c ++ 32 :: (d ++ 32 :: (e ++ 32 :: f)))) := by
  rw [join_cons2, join_cons2, join_cons2, join_cons2, join_cons2, join_one]
theorem ansR_err {e x y : Int} {m : MsgD} (h : e ≠ 0) : ansR ⟨e, x, y, m⟩ = [101, 114, 114, 111, 114, 32] ++ itoa e := by
  unfold ansR ansW; rw [if_pos h, join2]; rfl
theorem ansR_3 {x y : Int} {m : MsgD} (hz : m = mZ) : ansR ⟨0, x, y, m⟩ = (([111, 107, 32] ++ itoa x) ++ [32]) ++ itoa y := by
  unfold ansR ansW; rw [if_neg (by simp), if_pos hz, join3]; simp
theorem ansR_6 {x y : Int} {t p : Str} {k : Bool} (hz : ¬ (⟨t, p, k⟩ : MsgD) = mZ) : ansR ⟨0, x, y, ⟨t, p, k⟩⟩ = (((((([111, 107, 32] ++ itoa x) ++ [32]) ++ itoa y) ++ [32]) ++ wordR t) ++ [32]) ++ wordR p ++ (32 :: howR k) := by
  unfold ansR ansW; rw [if_neg (by simp), if_neg hz, join6]; simp
theorem howR_len (k : Bool) : (howR k).length ≤ 4 := by unfold howR; split <;> simp
theorem ansR_len {a : AnsD} (h : AnsOk a) : (ansR a).length ≤ 24100 := by
  obtain ⟨e, x, y, ⟨t, p, k⟩⟩ := a
  have h1 := itoa_len h.e; have h2 := itoa_len h.x; have h3 := itoa_len h.y
  have h4 := wordR_len t; have h5 := wordR_len p
  have h6 : t.length ≤ 4000 := h.t
  have h7 : p.length ≤ 4000 := h.p
  simp only at h1 h2 h3
  have hh : (howR k).length ≤ 4 := by unfold howR; split <;> simp
  by_cases h0 : e ≠ 0
  · rw [ansR_err h0]; simp only [List.length_append, List.length_cons, List.length_nil]; omega
  · obtain rfl : e = 0 := Classical.not_not.1 h0
    by_cases hz : (⟨t, p, k⟩ : MsgD) = mZ
    · rw [ansR_3 hz]; simp only [List.length_append, List.length_cons, List.length_nil]; omega
    · rw [ansR_6 hz]; simp only [List.length_append, List.length_cons, List.length_nil]; omega
theorem lineQ_len {x : OpD} (h1 : x.text.length ≤ 4000) (h2 : x.payload.length ≤ 4000) : (if plainR x = true then lineR x else []).length ≤ 24100 ∧ (lineQ x).length ≤ 24100 := by
  unfold lineQ
  by_cases h : plainR x = true
  · rw [if_pos h, if_pos h]; have := lineR_len h; omega
  · rw [if_neg h, if_neg h]; simp
theorem tx_step {l : List Int} {i : Nat} {n : Int} (h : l[i]? = some n) : tx (l.take (i + 1)) = tx (l.take i) ++ (itoa n ++ [32]) := by
  unfold tx; rw [List.take_add_one, h]; simp
theorem tx_len : ∀ (l : List Int), (∀ n ∈ l, I64 n) → (tx l).length ≤ 21 * l.length
  | [], _ => by simp [tx]
  | n :: l, h => by
    have h1 := tx_len l (fun x hx => h x (by simp [hx]))
    have h2 := itoa_len (h n (by simp))
    unfold tx at h1 ⊢
    simp only [List.map_cons, List.flatten_cons, List.length_append, List.length_cons, List.length_nil] at h1 ⊢
    omega
theorem tx4 (a b c d : Int) : tx [a, b, c, d] = (((((((itoa a ++ [32]) ++ itoa b) ++ [32]) ++ itoa c) ++ [32]) ++ itoa d) ++ [32]) := by simp [tx]
theorem negmod (k : Nat) : (-(k : Int)).tmod 10 = -((k % 10 : Nat) : Int) := by rw [Int.neg_tmod]; rfl
theorem negquo (k : Nat) : (-(k : Int)).tdiv 10 = -((k / 10 : Nat) : Int) := by rw [Int.neg_tdiv]; rfl
theorem readR_none {h : Str} {r : List Str} (h1 : ¬ (r.length = 1 ∧ h = sErr)) (h2 : (¬ r.length = 2 ∧ ¬ r.length = 5) ∨ ¬ h = sOk) : readR (h :: r) = none := by
  match r, h1, h2 with
  | [], _, _ => rfl
  | [_], h1, _ => simp only [readR]; rw [if_neg (fun e => h1 ⟨rfl, e⟩)]
  | [_, _], _, h2 => simp only [readR]; rw [if_neg (h2.resolve_left (fun h => h.1 rfl))]
  | [_, _, _], _, _ => rfl
  | [_, _, _, _], _, _ => rfl
  | [_, _, _, _, _], _, h2 => simp only [readR]; rw [if_neg (h2.resolve_left (fun h => h.2 rfl))]
  | _ :: _ :: _ :: _ :: _ :: _ :: _, _, _ => rfl
theorem docT_none {h : Str} {r : List Str} (h1 : ¬ (r.length = 1 ∧ h = sErr)) (h2 : (¬ r.length = 2 ∧ ¬ r.length = 5) ∨ ¬ h = sOk) : docT (h :: r) = none := by
  match r, h1, h2 with
  | [], _, _ => rfl
  | [_], h1, _ => simp only [docT]; rw [if_neg (fun e => h1 ⟨rfl, e⟩)]
  | [_, _], _, h2 => simp only [docT]; rw [if_neg (h2.resolve_left (fun h => h.1 rfl))]
  | [_, _, _], _, _ => rfl
  | [_, _, _, _], _, _ => rfl
  | [_, _, _, _, _], _, h2 => simp only [docT]; rw [if_neg (h2.resolve_left (fun h => h.2 rfl))]
  | _ :: _ :: _ :: _ :: _ :: _ :: _, _, _ => rfl
theorem i64z : I64 0 := by constructor <;> decide
theorem numA_i64 {w : Str} {n : Int} (h : numA w = some n) : I64 n := by have := of_numA h; exact ⟨by omega, by omega⟩
theorem readR_ok {l : List Str} {a : AnsD} (hl : ∀ x ∈ l, x.length ≤ 4000) (h : readR l = some a) : AnsOk a := by
  match l, hl, h with
  | [h, x], hl, hr =>
    simp only [readR] at hr
    split at hr
    · cases hx : numA x with
      | none => rw [hx] at hr; cases hr
      | some n =>
        rw [hx] at hr; simp only at hr
        split at hr
        · simp only [Option.some.injEq] at hr; subst hr
          exact ⟨numA_i64 hx, i64z, i64z, by simp, by simp⟩
        · cases hr
    · cases hr
  | [h, x, y], hl, hr =>
    simp only [readR] at hr
    split at hr
    · cases hx : numA x with
      | none => rw [hx] at hr; cases hr
      | some n =>
        cases hy : numA y with
        | none => rw [hx, hy] at hr; cases hr
        | some m =>
          rw [hx, hy] at hr; simp only [Option.some.injEq] at hr; subst hr
          exact ⟨i64z, numA_i64 hx, numA_i64 hy, by simp, by simp⟩
    · cases hr
  | [h, x, y, t, p, k], hl, hr =>
    simp only [readR] at hr
    split at hr
    · cases hx : numA x with
      | none => rw [hx] at hr; cases hr
      | some n =>
        cases hy : numA y with
        | none => rw [hx, hy] at hr; cases hr
        | some m =>
          cases ht : unR t with
          | none => rw [hx, hy, ht] at hr; cases hr
          | some tt =>
            cases hp : unR p with
            | none => rw [hx, hy, ht, hp] at hr; cases hr
            | some pp =>
              rw [hx, hy, ht, hp] at hr; simp only [Option.some.injEq] at hr; subst hr
              exact ⟨i64z, numA_i64 hx, numA_i64 hy, Nat.le_trans (unR_len ht) (hl t (by simp)), Nat.le_trans (unR_len hp) (hl p (by simp))⟩
    · cases hr
end Go.Proofs.YthcclgoidchkdaaDoorC
