/- Texts: where a byte stands, what lies ahead of it; the library's search for a byte, in the calculus. -/
import Derived.Test.YthcclgoidchkdaaDoorCoreP
import Derived.Laws.Externs
import Derived.Lib.Bytealg
import Derived.Laws.IdiomStrings
set_option linter.unusedVariables false
set_option linter.unusedSimpArgs false
namespace Go.Proofs.YthcclgoidchkdaaDoorC
open Go.RowKit
/-- What lies ahead of the first byte c. -/
def pre1 (c : UInt8) (s : Str) : Str := s.takeWhile (fun x => !(x == c))
/-- The place of the first byte c, or -1. -/
def fi (s : Str) (c : UInt8) : Int := if c ∈ s then ((pre1 c s).length : Int) else -1
theorem pre1_mem {c : UInt8} : ∀ {s : Str}, c ∈ s → s[(pre1 c s).length]? = some c
  | [], h => by cases h
  | y :: s, h => by
    unfold pre1
    rw [List.takeWhile_cons]
    by_cases e : y = c
    · subst e; simp
    · have h2 : c ∈ s := by rcases List.mem_cons.1 h with h | h; exact absurd h.symm e; exact h
      have := pre1_mem h2
      unfold pre1 at this
      simp [e, this]
theorem pre1_take (c : UInt8) : ∀ (s : Str), s.take (pre1 c s).length = pre1 c s
  | [] => rfl
  | y :: s => by
    have := pre1_take c s
    unfold pre1 at *
    rw [List.takeWhile_cons]
    split
    · simp [this]
    · simp
theorem pre1_ne {c : UInt8} : ∀ {s : Str} {x : UInt8}, x ∈ pre1 c s → x ≠ c
  | [], x, h => by simp [pre1] at h
  | y :: s, x, h => by
    unfold pre1 at h
    rw [List.takeWhile_cons] at h
    split at h
    · rename_i hy
      rcases List.mem_cons.1 h with e | h
      · subst e; simpa using hy
      · exact pre1_ne (s := s) h
    · cases h
theorem pre1_lt {c : UInt8} {s : Str} {i : Nat} {x : UInt8} (hi : i < (pre1 c s).length) (hx : s[i]? = some x) : x ≠ c := by
  have h1 : (pre1 c s)[i]? = some x := by rw [← pre1_take c s, List.getElem?_take_of_lt hi, hx]
  have h2 : x ∈ pre1 c s := List.mem_of_getElem? h1
  exact pre1_ne h2
theorem get_str! (s : Str) (i : Nat) (h : i < s.length) : (ByteArray.mk s.toArray)[i]! = s[i] := by
  have h1 : i < (ByteArray.mk s.toArray).size := by simpa [ByteArray.size] using h
  rw [getElem!_pos _ i h1]; rfl
theorem firstIdx_fi (s : Str) (c : UInt8) : firstIdx ⟨s.toArray⟩ c = fi s c := by
  unfold firstIdx fi
  have hsz : (ByteArray.mk s.toArray).size = s.length := by simp [ByteArray.size]
  rw [hsz]
  by_cases hc : c ∈ s
  · rw [if_pos hc]
    have h1 := pre1_mem hc
    have hlt : (pre1 c s).length < s.length := (List.getElem?_eq_some_iff.1 h1).1
    have : (List.range s.length).find? (fun i => (ByteArray.mk s.toArray)[i]! == c) = some (pre1 c s).length := by
      rw [List.find?_range_eq_some]
      refine ⟨?_, by simpa using hlt, fun j hj => ?_⟩
      · rw [get_str! s _ hlt]
        have := (List.getElem?_eq_some_iff.1 h1).2
        simp [this]
      · have hj' : j < s.length := by omega
        rw [get_str! s j hj']
        have := pre1_lt hj (List.getElem?_eq_getElem hj')
        simpa using this
    rw [this]
  · rw [if_neg hc]
    have : (List.range s.length).find? (fun i => (ByteArray.mk s.toArray)[i]! == c) = none := by
      rw [List.find?_eq_none]
      intro i hi
      have hi' : i < s.length := by simpa using hi
      rw [get_str! s i hi']
      intro e
      have : s[i] = c := by simpa using e
      exact hc (this ▸ List.getElem_mem hi')
    rw [this]
/-- Function f is the library's search for a byte. -/
structure IB (P : Program) (f : FuncId) : Prop where
  ex : ∃ fn, P.funcs[f]? = some fn ∧ (fn.name == "runtime.NumGoroutine") = false ∧ fn.body.isNone = true ∧ Extern.findNext fn = none ∧ Extern.find fn = some Extern.BytealgIndexByte.indexByte
section
variable {P : Program} {σ : Env} {w : World} {dst : Option Nat} {ty : TypeId} {pos : String} {af : Array Edge} {g : Option (Nat × Bool)}
theorem rn_indexByte {f : FuncId} {ts : Array TypeId} {x y : Operand} {s : Str} {c : UInt8} (hib : IB P f)
    (hx : ev σ x = Sv s) (hy : ev σ y = .int .u8 c.toNat) : Rn P σ w ⟨dst, .call ⟨.value (.func f), #[x, y], ts⟩, ty, pos, af, g⟩ (.int .i64 (fi s c)) := by
  show (execOp (ev σ) _).run P w = _
  obtain ⟨fn, hf, hname, hb, hn, he⟩ := hib.ex
  have h1 := run_callFunc_extern hf hname hb hn he #[Sv s, .int .u8 c.toNat] w
  have h2 := run_indexByte_string (P := P) ⟨s.toArray⟩ (c.toNat : Int) w
  have h3 : ((c.toNat : Int)).toNat.toUInt8 = c := by simp
  rw [h3, firstIdx_fi] at h2
  have h4 : (callFunc f #[Sv s, .int .u8 c.toNat]).run P w = .ok (.value (.int .i64 (fi s c))) w := by rw [h1, h2]; rfl
  simp only [execOp, resolve, Sem.run_bind, Sem.run_pure, Result.andThen_ok]
  have hargs : (#[x, y] : Array Operand).map (ev σ) = #[Sv s, .int .u8 c.toNat] := by simp [hx, hy]
  rw [hargs]
  simp only [ev, Deferred.ofValue, Sem.run_pure, Result.andThen_ok, invoke]
  simpa using h4
end
/-- Function f is the library's count of a byte. -/
structure CB (P : Program) (f : FuncId) : Prop where
  ex : ∃ fn, P.funcs[f]? = some fn ∧ (fn.name == "runtime.NumGoroutine") = false ∧ fn.body.isNone = true ∧ Extern.findNext fn = none ∧ Extern.find fn = some Extern.BytealgCount.count
section
variable {P : Program} {σ : Env} {w : World} {dst : Option Nat} {ty : TypeId} {pos : String} {af : Array Edge} {g : Option (Nat × Bool)}
theorem rn_countString {f : FuncId} {ts : Array TypeId} {x y : Operand} {s : Str} {c : UInt8} (hib : CB P f)
    (hx : ev σ x = Sv s) (hy : ev σ y = .int .u8 c.toNat) : Rn P σ w ⟨dst, .call ⟨.value (.func f), #[x, y], ts⟩, ty, pos, af, g⟩ (.int .i64 (s.count c : Nat)) := by
  show (execOp (ev σ) _).run P w = _
  obtain ⟨fn, hf, hname, hb, hn, he⟩ := hib.ex
  have h1 := run_callFunc_extern hf hname hb hn he #[Sv s, .int .u8 c.toNat] w
  have h2 := Lib.run_countString (P := P) ⟨s.toArray⟩ (c.toNat : Int) w
  have h3 : ((c.toNat : Int)).toNat.toUInt8 = c := by simp
  rw [h3] at h2
  unfold Lib.countByte at h2
  have h4 : (callFunc f #[Sv s, .int .u8 c.toNat]).run P w = .ok (.value (.int .i64 (s.count c : Nat))) w := by rw [h1, h2]; rfl
  simp only [execOp, resolve, Sem.run_bind, Sem.run_pure, Result.andThen_ok]
  have hargs : (#[x, y] : Array Operand).map (ev σ) = #[Sv s, .int .u8 c.toNat] := by simp [hx, hy]
  rw [hargs]
  simp only [ev, Deferred.ofValue, Sem.run_pure, Result.andThen_ok, invoke]
  simpa using h4
end
section
variable {P : Program} {σ : Env} {w : World} {ty : TypeId} {pos : String} {af : Array Edge} {ops rest : List Oper} {K : Ops}
end
end Go.Proofs.YthcclgoidchkdaaDoorC
