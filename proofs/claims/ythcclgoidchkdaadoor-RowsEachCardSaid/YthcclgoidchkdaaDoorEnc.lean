/- The program's records as lists of cells. -/
import Derived.Test.YthcclgoidchkdaaDoorTy
import Derived.Test.YthcclgoidchkdaaDoorCoreN
set_option linter.unusedVariables false
set_option linter.unusedSimpArgs false
namespace Go.Proofs.YthcclgoidchkdaaDoorC
open Go.RowKit
structure MsgD where
  topic : Str
  payload : Str
  kept : Bool
  deriving DecidableEq
def MsgD.enc (m : MsgD) : List Value := [Sv m.topic, Sv m.payload, .bool m.kept]
structure OpD where
  kind : Int
  sub : Int
  text : Str
  payload : Str
  keep : Bool
  deriving DecidableEq
def OpD.enc (o : OpD) : List Value := [.int .i64 o.kind, .int .i64 o.sub, Sv o.text, Sv o.payload, .bool o.keep]
structure AnsD where
  err : Int
  a : Int
  b : Int
  msg : MsgD
  deriving DecidableEq
def AnsD.enc (x : AnsD) : List Value := [.int .i64 x.err, .int .i64 x.a, .int .i64 x.b] ++ x.msg.enc
structure CallD where
  thread : Int
  place : Int
  op : OpD
  ans : AnsD
  from_ : Int
  to_ : Int
  deriving DecidableEq
def CallD.enc (c : CallD) : List Value := [.int .i64 c.thread, .int .i64 c.place] ++ c.op.enc ++ c.ans.enc ++ [.int .i64 c.from_, .int .i64 c.to_]
theorem MsgD.one (m : MsgD) : ∀ v ∈ m.enc, v.oneCell' = true := by intro v hv; simp only [MsgD.enc, List.mem_cons, List.not_mem_nil, or_false] at hv; rcases hv with rfl | rfl | rfl <;> rfl
theorem OpD.one (m : OpD) : ∀ v ∈ m.enc, v.oneCell' = true := by intro v hv; simp only [OpD.enc, List.mem_cons, List.not_mem_nil, or_false] at hv; rcases hv with rfl | rfl | rfl | rfl | rfl <;> rfl
theorem AnsD.one (m : AnsD) : ∀ v ∈ m.enc, v.oneCell' = true := by
  intro v hv; simp only [AnsD.enc, List.mem_append, List.mem_cons, List.not_mem_nil, or_false] at hv
  rcases hv with (rfl | rfl | rfl) | h
  all_goals first | rfl | exact MsgD.one _ _ h
theorem CallD.one (m : CallD) : ∀ v ∈ m.enc, v.oneCell' = true := by
  intro v hv; simp only [CallD.enc, List.mem_append, List.mem_cons, List.not_mem_nil, or_false] at hv
  rcases hv with (((rfl | rfl) | h) | h) | (rfl | rfl)
  all_goals first | rfl | exact OpD.one _ _ h | exact AnsD.one _ _ h
theorem msg_eqs (x y : MsgD) : EqS Tryd.prog 2 32 (.agg x.enc.toArray) (.agg y.enc.toArray) (decide (x = y)) := by
  have h := eqs_struct (P := Tryd.prog) (t := 32) (m := 1) (xs := x.enc.toArray) (ys := y.enc.toArray) (by kernel_rfl) sh_32 fs_32
    (EqF.cons rfl (part_1 p_9 rfl) (part_1 p_9 rfl) (eqs_str us_9) (EqF.cons rfl (part_1 p_9 rfl) (part_1 p_9 rfl) (eqs_str us_9) (EqF.cons rfl (part_1 p_4 rfl) (part_1 p_4 rfl) (eqs_bool ub_4) .nil)))
  rw [show decide (x = y) = (decide (x.topic = y.topic) && (decide (x.payload = y.payload) && (decide (x.kept = y.kept) && true))) from ?_]
  · exact h
  · obtain ⟨a, b, c⟩ := x; obtain ⟨a', b', c'⟩ := y
    by_cases h1 : a = a' <;> by_cases h2 : b = b' <;> by_cases h3 : c = c' <;> simp [h1, h2, h3]
theorem map_at {α : Type} {f : α → List Value} {l : List α} {i : Nat} {x : α} (h : l[i]? = some x) : (l.map f)[i]? = some (f x) := by simp [h]
end Go.Proofs.YthcclgoidchkdaaDoorC
