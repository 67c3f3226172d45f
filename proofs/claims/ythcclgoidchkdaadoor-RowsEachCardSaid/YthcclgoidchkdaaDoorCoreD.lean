/- What single operations yield, in the calculus; each rule holds of whatever program. -/
import Derived.Test.YthcclgoidchkdaaDoorCoreC
import Derived.Laws.Wrap64
set_option linter.unusedVariables false
set_option linter.unusedSimpArgs false
namespace Go.Proofs.YthcclgoidchkdaaDoorC
open Go.RowKit
variable {P : Program} {σ : Env} {w : World} {dst : Option Nat} {ty : TypeId} {pos : String} {af : Array Edge} {g : Option (Nat × Bool)}

theorem rn_move {x : Operand} {v : Value} (h : ev σ x = v) : Rn P σ w ⟨dst, .move x, ty, pos, af, g⟩ v := by subst h; rfl
theorem rn_assign {x : Operand} {v : Value} (h : ev σ x = v) : Rn P σ w ⟨dst, .assign x, ty, pos, af, g⟩ v := by subst h; rfl
theorem rn_pick {c x y : Operand} {b : Bool} (hc : ev σ c = .bool b) : Rn P σ w ⟨dst, .pick c x y, ty, pos, af, g⟩ (bif b then ev σ x else ev σ y) := by
  show (execOp (ev σ) _).run P w = _
  cases b <;> simp [execOp, hc, asBool, Sem.run_bind, Result.andThen, Sem.run]
theorem rn_extract {x : Operand} {i : Nat} {vs : Array Value} {v : Value} (h : ev σ x = .tuple vs) (hv : vs[i]? = some v) : Rn P σ w ⟨dst, .extract x i, ty, pos, af, g⟩ v := by
  show (execOp (ev σ) _).run P w = _
  simp [execOp, h, Instr.extract, hv, Sem.run_bind, Result.andThen, Sem.run]
theorem rn_makeFunc {f : Fn} {cap : List Operand} {vs : List Value} (h : cap.map (ev σ) = vs) : Rn P σ w ⟨dst, .makeFunc f #[] cap.toArray, ty, pos, af, g⟩ (.func f #[] vs.toArray) := by
  subst h
  show (execOp (ev σ) _).run P w = _
  simp [execOp, Instr.makeFunc, Sem.run_bind, Result.andThen, Sem.run]
theorem rn_nilCheck {x : Operand} {a : Addr} (h : ev σ x = .pointer (some a)) : Rn P σ w ⟨dst, .nilCheck x, ty, pos, af, g⟩ (.pointer (some a)) := by
  show (execOp (ev σ) _).run P w = _
  simp [execOp, h, Sem.run]
theorem rn_not {x : Operand} {b : Bool} {t : TypeId} (h : ev σ x = .bool b) : Rn P σ w ⟨dst, .unOp .not t x, ty, pos, af, g⟩ (.bool (!b)) := by
  show (execOp (ev σ) _).run P w = _
  simp [execOp, h, Op.unary, Sem.run_bind, Result.andThen, Sem.run]

/-! ### numbers -/
theorem wrap_id {n : Int} (h : -9223372036854775808 ≤ n ∧ n ≤ 9223372036854775807) : IntKind.i64.wrap n = n := by
  have h1 := h.1
  have h2 := h.2
  simp only [IntKind.wrap, IntKind.signed, IntKind.bits]
  simp
  omega
section ints
variable {x y : Operand} {t u : TypeId} {a b : Int} {k : IntKind}
theorem rn_add (hx : ev σ x = .int .i64 a) (hy : ev σ y = .int .i64 b) (h : -9223372036854775808 ≤ a + b ∧ a + b ≤ 9223372036854775807) :
    Rn P σ w ⟨dst, .binOp .add t x y u, ty, pos, af, g⟩ (.int .i64 (a + b)) := by
  show (execOp (ev σ) _).run P w = _
  simp [execOp, hx, hy, eqGuard, binOp, Op.intArith, Sem.run_bind, Result.andThen, Sem.run, wrap_id h]
theorem rn_eql (hx : ev σ x = .int k a) (hy : ev σ y = .int k b) : Rn P σ w ⟨dst, .binOp .eql t x y u, ty, pos, af, g⟩ (.bool (decide (a = b))) := by
  show (execOp (ev σ) _).run P w = _
  simp [execOp, hx, hy, eqGuard, binOp, Op.intCmp, Sem.run_bind, Result.andThen, Sem.run]
  by_cases h : a = b <;> simp [h]
theorem rn_neq (hx : ev σ x = .int k a) (hy : ev σ y = .int k b) : Rn P σ w ⟨dst, .binOp .neq t x y u, ty, pos, af, g⟩ (.bool (decide (a ≠ b))) := by
  show (execOp (ev σ) _).run P w = _
  simp [execOp, hx, hy, eqGuard, binOp, Op.intCmp, Sem.run_bind, Result.andThen, Sem.run]
  by_cases h : a = b <;> simp [h]
theorem rn_lss (hx : ev σ x = .int k a) (hy : ev σ y = .int k b) : Rn P σ w ⟨dst, .binOp .lss t x y u, ty, pos, af, g⟩ (.bool (decide (a < b))) := by
  show (execOp (ev σ) _).run P w = _
  simp [execOp, hx, hy, eqGuard, binOp, Op.intCmp, Sem.run_bind, Result.andThen, Sem.run]
theorem rn_leq (hx : ev σ x = .int k a) (hy : ev σ y = .int k b) : Rn P σ w ⟨dst, .binOp .leq t x y u, ty, pos, af, g⟩ (.bool (decide (a ≤ b))) := by
  show (execOp (ev σ) _).run P w = _
  simp [execOp, hx, hy, eqGuard, binOp, Op.intCmp, Sem.run_bind, Result.andThen, Sem.run]
theorem rn_gtr (hx : ev σ x = .int k a) (hy : ev σ y = .int k b) : Rn P σ w ⟨dst, .binOp .gtr t x y u, ty, pos, af, g⟩ (.bool (decide (b < a))) := by
  show (execOp (ev σ) _).run P w = _
  simp [execOp, hx, hy, eqGuard, binOp, Op.intCmp, Sem.run_bind, Result.andThen, Sem.run]
theorem rn_geq (hx : ev σ x = .int k a) (hy : ev σ y = .int k b) : Rn P σ w ⟨dst, .binOp .geq t x y u, ty, pos, af, g⟩ (.bool (decide (b ≤ a))) := by
  show (execOp (ev σ) _).run P w = _
  simp [execOp, hx, hy, eqGuard, binOp, Op.intCmp, Sem.run_bind, Result.andThen, Sem.run]
end ints
abbrev Str := List UInt8
/-- A text's value. -/
abbrev Sv (l : Str) : Value := .string ⟨l.toArray⟩
section strs
variable {x y : Operand} {t u : TypeId} {a b : Str}
theorem rn_seql (hx : ev σ x = Sv a) (hy : ev σ y = Sv b) : Rn P σ w ⟨dst, .binOp .eql t x y u, ty, pos, af, g⟩ (.bool (decide (a = b))) := by
  show (execOp (ev σ) _).run P w = _
  simp [execOp, hx, hy, eqGuard, binOp, Op.stringOp, Sem.run_bind, Result.andThen, Sem.run]
  by_cases h : a = b <;> simp [h]
theorem rn_sneq (hx : ev σ x = Sv a) (hy : ev σ y = Sv b) : Rn P σ w ⟨dst, .binOp .neq t x y u, ty, pos, af, g⟩ (.bool (decide (a ≠ b))) := by
  show (execOp (ev σ) _).run P w = _
  simp [execOp, hx, hy, eqGuard, binOp, Op.stringOp, Sem.run_bind, Result.andThen, Sem.run]
  by_cases h : a = b <;> simp [h]
theorem rn_sadd (hx : ev σ x = Sv a) (hy : ev σ y = Sv b) (h : a.length + b.length ≤ 9223372036854775807) : Rn P σ w ⟨dst, .binOp .add t x y u, ty, pos, af, g⟩ (Sv (a ++ b)) := by
  show (execOp (ev σ) _).run P w = _
  have e1 : (ByteArray.mk a.toArray).size = a.length := by simp [ByteArray.size]
  have e2 : (ByteArray.mk b.toArray).size = b.length := by simp [ByteArray.size]
  have e3 : ByteArray.mk a.toArray ++ ByteArray.mk b.toArray = ⟨(a ++ b).toArray⟩ := by
    apply ByteArray.ext; simp
  have e4 : IntKind.i64.max = 9223372036854775807 := by decide
  have e5 : ¬ (((a.length + b.length : Nat) : Int) > 9223372036854775807) := by omega
  have e6 : Op.stringOp .add (ByteArray.mk a.toArray) (ByteArray.mk b.toArray) = pure (Sv (a ++ b)) := by
    simp only [Op.stringOp, e1, e2, e3, e4]
    rw [if_neg e5]
  simp [execOp, hx, hy, eqGuard, binOp, e6, Sem.run_bind]
theorem rn_slen (hu : P.underlying t = some .string) (hx : ev σ x = Sv a) : Rn P σ w ⟨dst, .call ⟨.builtin .len, #[x], #[t]⟩, ty, pos, af, g⟩ (.int .i64 a.length) := by
  show (execOp (ev σ) _).run P w = _
  simp [execOp, resolve, invoke, hx, builtin, Builtin.len_, run_underlying hu, goInt]
  simp [ByteArray.size]
theorem getElem?_str (a : Str) (i : Nat) : (ByteArray.mk a.toArray)[i]? = a[i]? := by
  by_cases h : i < a.length
  · have h3 : i < (ByteArray.mk a.toArray).size := by simpa [ByteArray.size] using h
    have h4 : (ByteArray.mk a.toArray)[i]? = some ((ByteArray.mk a.toArray)[i]'h3) := by simp [h3]
    rw [h4, List.getElem?_eq_getElem h]
    rfl
  · have h3 : ¬ i < (ByteArray.mk a.toArray).size := by simpa [ByteArray.size] using h
    have h4 : (ByteArray.mk a.toArray)[i]? = none := by simp; omega
    rw [h4, List.getElem?_eq_none (by omega)]
theorem rn_sindex (hu : P.underlying t = some .string) {k : IntKind} {i : Int} {c : UInt8} (hx : ev σ x = Sv a) (hy : ev σ y = .int k i) (h0 : 0 ≤ i) (hc : a[i.toNat]? = some c) :
    Rn P σ w ⟨dst, .index t x y, ty, pos, af, g⟩ (.int .u8 c.toNat) := by
  show (execOp (ev σ) _).run P w = _
  simp [execOp, hx, hy, Instr.index, asIntOf, run_underlying hu, h0, getElem?_str, hc]
end strs

/-! ### slices, fields -/
section slices
variable {x y : Operand} {t e : TypeId}
/-- The element type of slice type t, how many cells an element takes, how many bytes, its zero value's cells. -/
structure SliceT (P : Program) (t e : TypeId) (k bytes : Nat) (z : List Value) : Prop where
  under : P.underlying t = some (.slice e)
  info : (P.info? e).map (fun i => (i.size, i.bytes, i.zero.map (fun v => v.cells.toList))) = some (k, bytes, some z)
theorem SliceT.inf {k bytes : Nat} {z : List Value} (h : SliceT P t e k bytes z) : ∃ i v, P.info? e = some i ∧ i.size = k ∧ i.bytes = bytes ∧ i.zero = some v ∧ v.cells.toList = z := by
  have := h.info
  cases hi : P.info? e with
  | none => simp [hi] at this
  | some i =>
    simp only [hi, Option.map_some, Option.some.injEq, Prod.mk.injEq] at this
    obtain ⟨h1, h2, h3⟩ := this
    cases hz : i.zero with
    | none => simp [hz] at h3
    | some v => exact ⟨i, v, rfl, h1, h2, hz, by simpa [hz] using h3⟩
variable {k bytes : Nat} {z : List Value}
theorem rn_len (hT : SliceT P t e k bytes z) {a : Option Addr} {n c : Nat} (hx : ev σ x = .slice a n c) : Rn P σ w ⟨dst, .call ⟨.builtin .len, #[x], #[t]⟩, ty, pos, af, g⟩ (.int .i64 n) := by
  show (execOp (ev σ) _).run P w = _
  simp [execOp, resolve, invoke, hx, builtin, Builtin.len_, run_underlying hT.under, goInt]
theorem run_sizeOf' {i : TypeInfo} (h : P.info? e = some i) : (sizeOf e).run P w = .ok i.size w := by
  simp [sizeOf, typeInfo, h]
theorem rn_indexAddr (hT : SliceT P t e k bytes z) {kk : IntKind} {a : Addr} {n c : Nat} {i : Int} (hx : ev σ x = .slice (some a) n c) (hy : ev σ y = .int kk i) (h : 0 ≤ i ∧ i < n) :
    Rn P σ w ⟨dst, .indexAddr t x y, ty, pos, af, g⟩ (.pointer (some (a.add (i.toNat * k)))) := by
  show (execOp (ev σ) _).run P w = _
  obtain ⟨inf, v, h1, h2, h3, h4, h5⟩ := hT.inf
  simp [execOp, hx, hy, Instr.indexAt, asIntOf, run_underlying hT.under, run_sizeOf' h1, h, h2]
/-- Field f of struct type t lies at cell off, is of type u, which takes k cells (k is not 0). -/
structure FieldT (P : Program) (t : TypeId) (f off : Nat) (u : TypeId) (k : Nat) : Prop where
  fld : (match P.underlying t with | some (.struct fs) => (fs[f]?).map fun x => (x.offset, x.type) | _ => none) = some (off, u)
  size : (P.info? u).map (·.size) = some k
  agg : (match P.underlying u with | some (.struct _) => some true | some (.array _ _) => some true | some _ => some false | none => none) = some (decide (k ≠ 1) || (match P.underlying u with | some (.struct _) => true | some (.array _ _) => true | _ => false))
theorem FieldT.spec {f off : Nat} {u : TypeId} {k : Nat} (h : FieldT P t f off u k) : ∃ fs x i, P.underlying t = some (.struct fs) ∧ fs[f]? = some x ∧ x.offset = off ∧ x.type = u ∧ P.info? u = some i ∧ i.size = k := by
  have h1 := h.fld
  cases hu : P.underlying t with
  | none => simp [hu] at h1
  | some d =>
    cases d <;> simp [hu] at h1
    rename_i fs
    obtain ⟨x, hx, h2, h3⟩ := h1
    have h4 := h.size
    cases hi : P.info? u with
    | none => simp [hi] at h4
    | some i => exact ⟨fs, x, i, rfl, hx, h2, h3, rfl, by simpa [hi] using h4⟩
theorem rn_fieldAddr {f off : Nat} {u : TypeId} {k : Nat} (hF : FieldT P t f off u k) (hk : k ≠ 0) {a : Addr} (hx : ev σ x = .pointer (some a)) :
    Rn P σ w ⟨dst, .fieldAddr t x f, ty, pos, af, g⟩ (.pointer (some (a.add off))) := by
  show (execOp (ev σ) _).run P w = _
  obtain ⟨fs, fl, i, h1, h2, h3, h4, h5, h6⟩ := hF.spec
  subst h4
  simp [execOp, hx, Instr.fieldAt, run_underlying h1, h2, Instr.sureAddr, fieldPlace, run_sizeOf' h5, h6, hk, h3]
end slices
end Go.Proofs.YthcclgoidchkdaaDoorC
