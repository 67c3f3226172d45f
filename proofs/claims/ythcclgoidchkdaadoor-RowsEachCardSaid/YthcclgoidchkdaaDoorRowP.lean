/- Answers as texts; plain. -/
import Derived.Test.YthcclgoidchkdaaDoorOpAb
set_option linter.unusedVariables false
set_option linter.unusedSimpArgs false
namespace Go.Proofs.YthcclgoidchkdaaDoorC
open Go.RowKit Go.Lib
abbrev sErr : Str := [101, 114, 114, 111, 114]
abbrev sOk : Str := [111, 107]
abbrev sKept : Str := [107, 101, 112, 116]
abbrev sNew : Str := [110, 101, 119]
abbrev mZ : MsgD := ⟨[], [], false⟩
def howR (b : Bool) : Str := if b = true then sKept else sNew
/-- An answer's words. -/
def ansW (a : AnsD) : List Str := if a.err ≠ 0 then [sErr, itoa a.err] else if a.msg = mZ then [sOk, itoa a.a, itoa a.b] else [sOk, itoa a.a, itoa a.b, wordR a.msg.topic, wordR a.msg.payload, howR a.msg.kept]
def ansR (a : AnsD) : Str := join (ansW a) [32]
def lineQ (x : OpD) : Str := if plainR x = true then lineR x else [63]
def tx (l : List Int) : Str := (l.map fun n => itoa n ++ [32]).flatten
/-- A call's row. -/
def rowR (c : CallD) : Str := ((tx [c.thread, c.place, c.from_, c.to_] ++ lineQ c.op) ++ [32, 61, 32]) ++ ansR c.ans
abbrev I64 (n : Int) : Prop := -9223372036854775808 ≤ n ∧ n ≤ 9223372036854775807
structure AnsOk (a : AnsD) : Prop where
  e : I64 a.err
  x : I64 a.a
  y : I64 a.b
  t : a.msg.topic.length ≤ 4000
  p : a.msg.payload.length ≤ 4000
structure CallOk (c : CallD) : Prop where
  th : I64 c.thread
  pl : I64 c.place
  fr : I64 c.from_
  to : I64 c.to_
  t : c.op.text.length ≤ 4000
  p : c.op.payload.length ≤ 4000
  ans : AnsOk c.ans
/-! ### numbers -/
theorem itoa_neg {n : Nat} (h : 1 ≤ n) : itoa (-(n : Int)) = 45 :: decDigits n := by
  unfold itoa; rw [if_pos (by omega)]; simp
theorem int_cases (n : Int) : (∃ m : Nat, n = (m : Int)) ∨ ∃ m : Nat, 1 ≤ m ∧ n = -(m : Int) := by
  by_cases h : n < 0
  · exact .inr ⟨n.natAbs, by omega, by omega⟩
  · exact .inl ⟨n.toNat, by omega⟩
/-! ### answers -/
theorem dec_len19 {m : Nat} (hm : m ≤ 9223372036854775808) : (decDigits m).length ≤ 19 := by
  rw [decDigits_length]; exact ndig_pow 18 m (by omega)
theorem itoa_len {n : Int} (h : I64 n) : (itoa n).length ≤ 20 := by
  rcases int_cases n with ⟨m, rfl⟩ | ⟨m, h1, rfl⟩
  · rw [itoa_nat]; have := dec_len19 (m := m) (by have := h.2; omega); omega
  · rw [itoa_neg h1]; have := dec_len19 (m := m) (by have := h.1; omega); simp only [List.length_cons]; omega
theorem join6 (a b c d e f : Str) : join [a, b, c, d, e, f] [32] = a ++ 32 :: (b ++ 32 :: (c ++ 32 :: (d ++ 32 :: (e ++ 32 :: f)))) := by
  rw [join_cons2, join_cons2, join_cons2, join_cons2, join_cons2, join_one]
theorem ansR_err {e x y : Int} {m : MsgD} (h : e ≠ 0) : ansR ⟨e, x, y, m⟩ = [101, 114, 114, 111, 114, 32] ++ itoa e := by
  unfold ansR ansW; rw [if_pos h, join2]; rfl
theorem ansR_3 {x y : Int} {m : MsgD} (hz : m = mZ) : ansR ⟨0, x, y, m⟩ = (([111, 107, 32] ++ itoa x) ++ [32]) ++ itoa y := by
  unfold ansR ansW; rw [if_neg (by simp), if_pos hz, join3]; simp
theorem ansR_6 {x y : Int} {t p : Str} {k : Bool} (hz : ¬ (⟨t, p, k⟩ : MsgD) = mZ) : ansR ⟨0, x, y, ⟨t, p, k⟩⟩ = (((((([111, 107, 32] ++ itoa x) ++ [32]) ++ itoa y) ++ [32]) ++ wordR t) ++ [32]) ++ wordR p ++ (32 :: howR k) := by
  unfold ansR ansW; rw [if_neg (by simp), if_neg hz, join6]; simp
theorem howR_len (k : Bool) : (howR k).length ≤ 4 := by unfold howR; split <;> simp
theorem ansR_len {a : AnsD} (h : AnsOk a) : (ansR a).length ≤ 24100 := by
  obtain ⟨e, x, y, ⟨t, p, k⟩⟩ := a
  have h1 := itoa_len h.e; have h2 := itoa_len h.x; have h3 := itoa_len h.y
  have h4 := wordR_len t; have h5 := wordR_len p
  have h6 : t.length ≤ 4000 := h.t
  have h7 : p.length ≤ 4000 := h.p
  simp only at h1 h2 h3
  have hh : (howR k).length ≤ 4 := by unfold howR; split <;> simp
  by_cases h0 : e ≠ 0
  · rw [ansR_err h0]; simp only [List.length_append, List.length_cons, List.length_nil]; omega
  · obtain rfl : e = 0 := Classical.not_not.1 h0
    by_cases hz : (⟨t, p, k⟩ : MsgD) = mZ
    · rw [ansR_3 hz]; simp only [List.length_append, List.length_cons, List.length_nil]; omega
    · rw [ansR_6 hz]; simp only [List.length_append, List.length_cons, List.length_nil]; omega
theorem lineQ_len {x : OpD} (h1 : x.text.length ≤ 4000) (h2 : x.payload.length ≤ 4000) : (if plainR x = true then lineR x else []).length ≤ 24100 ∧ (lineQ x).length ≤ 24100 := by
  unfold lineQ
  by_cases h : plainR x = true
  · rw [if_pos h, if_pos h]; have := lineR_len h; omega
  · rw [if_neg h, if_neg h]; simp
theorem tx_step {l : List Int} {i : Nat} {n : Int} (h : l[i]? = some n) : tx (l.take (i + 1)) = tx (l.take i) ++ (itoa n ++ [32]) := by
  unfold tx; rw [List.take_add_one, h]; simp
theorem tx_len : ∀ (l : List Int), (∀ n ∈ l, I64 n) → (tx l).length ≤ 21 * l.length
  | [], _ => by simp [tx]
  | n :: l, h => by
    have h1 := tx_len l (fun x hx => h x (by simp [hx]))
    have h2 := itoa_len (h n (by simp))
    unfold tx at h1 ⊢
    simp only [List.map_cons, List.flatten_cons, List.length_append, List.length_cons, List.length_nil] at h1 ⊢
    omega
theorem tx4 (a b c d : Int) : tx [a, b, c, d] = (((((((itoa a ++ [32]) ++ itoa b) ++ [32]) ++ itoa c) ++ [32]) ++ itoa d) ++ [32]) := by simp [tx]
theorem negmod (k : Nat) : (-(k : Int)).tmod 10 = -((k % 10 : Nat) : Int) := by rw [Int.neg_tmod]; rfl
theorem negquo (k : Nat) : (-(k : Int)).tdiv 10 = -((k / 10 : Nat) : Int) := by rw [Int.neg_tdiv]; rfl
end Go.Proofs.YthcclgoidchkdaaDoorC
