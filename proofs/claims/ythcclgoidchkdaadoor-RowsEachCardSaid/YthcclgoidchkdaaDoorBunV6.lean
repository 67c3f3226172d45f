/- Texts: where a byte stands, what lies ahead of it; the library's search for a byte, in the calculus. -/
import Derived.Test.YthcclgoidchkdaaDoorBunV3
import Derived.Laws.Externs
import Derived.Lib.Bytealg
import Derived.Laws.IdiomStrings
import Derived.Test.YthcclgoidchkdaaDoorBunV4
import Derived.Test.YthcclgoidchkdaaDoorBunV2
import Derived.Test.YthcclgoidchkdaaDoorBunV5
import Derived.Lib.Atoi
import Derived.Lib.AtoiTie
import Derived.Lib.AtoiAll
import Derived.Shelf.Strconv.AtoiAll
set_option linter.unusedVariables false
set_option linter.unusedSimpArgs false
namespace Go.Proofs.YthcclgoidchkdaaDoorC
open Go.RowKit
/-- What lies ahead of the first byte c. -/
def pre1 (c : UInt8) (s : Str) : Str := s.takeWhile (fun x => !(x == c))
/-- The place of the first byte c, or -1. -/
def fi (s : Str) (c : UInt8) : Int := if c ∈ s then ((pre1 c s).length : Int) else -1
theorem pre1_mem {c : UInt8} : ∀ {s : Str}, c ∈ s → s[(pre1 c s).length]? = some c
  | [], h => by cases h
  | y :: s, h => by
    unfold pre1
    rw [List.takeWhile_cons]
    by_cases e : y = c
    · subst e; simp
    · have h2 : c ∈ s := by rcases List.mem_cons.1 h with h | h; exact absurd h.symm e; exact h
      have := pre1_mem h2
      unfold pre1 at this
      simp [e, this]
theorem pre1_take (c : UInt8) : ∀ (s : Str), s.take (pre1 c s).length = pre1 c s
  | [] => rfl
  | y :: s => by
    have := pre1_take c s
    unfold pre1 at *
    rw [List.takeWhile_cons]
    split
    · simp [this]
    · simp
theorem pre1_ne {c : UInt8} : ∀ {s : Str} {x : UInt8}, x ∈ pre1 c s → x ≠ c
  | [], x, h => by simp [pre1] at h
  | y :: s, x, h => by
    unfold pre1 at h
    rw [List.takeWhile_cons] at h
    split at h
    · rename_i hy
      rcases List.mem_cons.1 h with e | h
      · subst e; simpa using hy
      · exact pre1_ne (s := s) h
    · cases h
theorem pre1_lt {c : UInt8} {s : Str} {i : Nat} {x : UInt8} (hi : i < (pre1 c s).length) (hx : s[i]? = some x) : x ≠ c := by
  have h1 : (pre1 c s)[i]? = some x := by rw [← pre1_take c s, List.getElem?_take_of_lt hi, hx]
  have h2 : x ∈ pre1 c s := List.mem_of_getElem? h1
  exact pre1_ne h2
theorem get_str! (s : Str) (i : Nat) (h : i < s.length) : (ByteArray.mk s.toArray)[i]! = s[i] := by
  have h1 : i < (ByteArray.mk s.toArray).size := by simpa [ByteArray.size] using h
  rw [getElem!_pos _ i h1]; rfl
theorem firstIdx_fi (s : Str) (c : UInt8) : firstIdx ⟨s.toArray⟩ c = fi s c := by
  unfold firstIdx fi
  have hsz : (ByteArray.mk s.toArray).size = s.length := by simp [ByteArray.size]
  rw [hsz]
  by_cases hc : c ∈ s
  · rw [if_pos hc]
    have h1 := pre1_mem hc
    have hlt : (pre1 c s).length < s.length := (List.getElem?_eq_some_iff.1 h1).1
    have : (List.range s.length).find? (fun i => (ByteArray.mk s.toArray)[i]! == c) = some (pre1 c s).length := by
      rw [List.find?_range_eq_some]
      refine ⟨?_, by simpa using hlt, fun j hj => ?_⟩
      · rw [get_str! s _ hlt]
        have := (List.getElem?_eq_some_iff.1 h1).2
        simp [this]
      · have hj' : j < s.length := by omega
        rw [get_str! s j hj']
        have := pre1_lt hj (List.getElem?_eq_getElem hj')
        simpa using this
    rw [this]
  · rw [if_neg hc]
    have : (List.range s.length).find? (fun i => (ByteArray.mk s.toArray)[i]! == c) = none := by
      rw [List.find?_eq_none]
      intro i hi
      have hi' : i < s.length := by simpa using hi
      rw [get_str! s i hi']
      intro e
      have : s[i] = c := by simpa using e
      exact hc (this ▸ List.getElem_mem hi')
    rw [this]
/-- Function f is the library's search for a byte. -/
structure IB (P : Program) (f : FuncId) : Prop where
  ex : ∃ fn, P.funcs[f]? = some fn ∧ (fn.name == "runtime.NumGoroutine") = false ∧ fn.body.isNone = true ∧ Extern.findNext fn = none ∧ Extern.find fn = some Extern.BytealgIndexByte.indexByte
section
variable {P : Program} {σ : Env} {w : World} {dst : Option Nat} {ty : TypeId} {pos : String} {af : Array Edge} {g : Option (Nat × Bool)}
theorem rn_indexByte {f : FuncId} {ts : Array TypeId} {x y : Operand} {s : Str} {c : UInt8} (hib : IB P f)
    (hx : ev σ x = Sv s) (hy : ev σ y = .int .u8 c.toNat) : Rn P σ w ⟨dst, .call ⟨.value (.func f), #[x, y], ts⟩, ty, pos, af, g⟩ (.int .i64 (fi s c)) := by
  show (execOp (ev σ) _).run P w = _
  obtain ⟨fn, hf, hname, hb, hn, he⟩ := hib.ex
  have h1 := run_callFunc_extern hf hname hb hn he #[Sv s, .int .u8 c.toNat] w
  have h2 := run_indexByte_string (P := P) ⟨s.toArray⟩ (c.toNat : Int) w
  have h3 : ((c.toNat : Int)).toNat.toUInt8 = c := by simp
  rw [h3, firstIdx_fi] at h2
  have h4 : (callFunc f #[Sv s, .int .u8 c.toNat]).run P w = .ok (.value (.int .i64 (fi s c))) w := by rw [h1, h2]; rfl
  simp only [execOp, resolve, Sem.run_bind, Sem.run_pure, Result.andThen_ok]
  have hargs : (#[x, y] : Array Operand).map (ev σ) = #[Sv s, .int .u8 c.toNat] := by simp [hx, hy]
  rw [hargs]
  simp only [ev, Deferred.ofValue, Sem.run_pure, Result.andThen_ok, invoke]
  simpa using h4
end
/-- Function f is the library's count of a byte. -/
structure CB (P : Program) (f : FuncId) : Prop where
  ex : ∃ fn, P.funcs[f]? = some fn ∧ (fn.name == "runtime.NumGoroutine") = false ∧ fn.body.isNone = true ∧ Extern.findNext fn = none ∧ Extern.find fn = some Extern.BytealgCount.count
section
variable {P : Program} {σ : Env} {w : World} {dst : Option Nat} {ty : TypeId} {pos : String} {af : Array Edge} {g : Option (Nat × Bool)}
theorem rn_countString {f : FuncId} {ts : Array TypeId} {x y : Operand} {s : Str} {c : UInt8} (hib : CB P f)
    (hx : ev σ x = Sv s) (hy : ev σ y = .int .u8 c.toNat) : Rn P σ w ⟨dst, .call ⟨.value (.func f), #[x, y], ts⟩, ty, pos, af, g⟩ (.int .i64 (s.count c : Nat)) := by
  show (execOp (ev σ) _).run P w = _
  obtain ⟨fn, hf, hname, hb, hn, he⟩ := hib.ex
  have h1 := run_callFunc_extern hf hname hb hn he #[Sv s, .int .u8 c.toNat] w
  have h2 := Lib.run_countString (P := P) ⟨s.toArray⟩ (c.toNat : Int) w
  have h3 : ((c.toNat : Int)).toNat.toUInt8 = c := by simp
  rw [h3] at h2
  unfold Lib.countByte at h2
  have h4 : (callFunc f #[Sv s, .int .u8 c.toNat]).run P w = .ok (.value (.int .i64 (s.count c : Nat))) w := by rw [h1, h2]; rfl
  simp only [execOp, resolve, Sem.run_bind, Sem.run_pure, Result.andThen_ok]
  have hargs : (#[x, y] : Array Operand).map (ev σ) = #[Sv s, .int .u8 c.toNat] := by simp [hx, hy]
  rw [hargs]
  simp only [ev, Deferred.ofValue, Sem.run_pure, Result.andThen_ok, invoke]
  simpa using h4
end
section
variable {P : Program} {σ : Env} {w : World} {ty : TypeId} {pos : String} {af : Array Edge} {ops rest : List Oper} {K : Ops}
end
end Go.Proofs.YthcclgoidchkdaaDoorC

/- Levels of a text, topics, filters, and which matches which: plain lists. -/
set_option linter.unusedVariables false
set_option linter.unusedSimpArgs false
namespace Go.Proofs.YthcclgoidchkdaaDoorC
open Go.RowKit

/-- What stands between the bytes b. -/
def spl (b : UInt8) : Str → List Str
  | [] => [[]]
  | c :: s => if c = b then [] :: spl b s else match spl b s with
    | [] => [[c]]
    | l :: r => (c :: l) :: r
theorem spl_ne (b : UInt8) (s : Str) : spl b s ≠ [] := by
  cases s with
  | nil => simp [spl]
  | cons c s =>
    simp only [spl]; split
    · simp
    · split <;> simp
theorem spl_eq (b : UInt8) (s : Str) : spl b (b :: s) = [] :: spl b s := by simp [spl]
theorem spl_neq {b c : UInt8} {s : Str} (h : c ≠ b) {l : Str} {r : List Str} (hs : spl b s = l :: r) : spl b (c :: s) = (c :: l) :: r := by simp [spl, h, hs]
theorem spl_ex (b : UInt8) (s : Str) : ∃ l r, spl b s = l :: r := by
  cases h : spl b s with
  | nil => exact absurd h (spl_ne b s)
  | cons l r => exact ⟨l, r, rfl⟩
theorem spl_app (b : UInt8) : ∀ (p q : Str) {out : List Str} {t h : Str} {r : List Str}, spl b p = out ++ [t] → spl b q = h :: r → spl b (p ++ q) = out ++ (t ++ h) :: r
  | [], q, out, t, h, r, hp, hq => by
    cases out with
    | nil =>
      have : t = [] := by simpa [spl] using hp.symm
      subst this; simpa using hq
    | cons x xs => simp [spl] at hp
  | c :: p, q, out, t, h, r, hp, hq => by
    rw [List.cons_append]
    by_cases hc : c = b
    · subst hc
      rw [spl_eq] at hp ⊢
      cases out with
      | nil => simp at hp; exact absurd hp.2 (spl_ne c p)
      | cons x xs =>
        rw [List.cons_append, List.cons.injEq] at hp
        rw [spl_app c p q hp.2 hq, ← hp.1]; rfl
    · obtain ⟨l, rest, hs⟩ := spl_ex b p
      rw [spl_neq hc hs] at hp
      cases out with
      | nil =>
        rw [List.nil_append, List.cons.injEq] at hp
        obtain ⟨h1, h2⟩ := hp
        have := spl_app b p q (out := []) (t := l) (by rw [hs, h2]; rfl) hq
        rw [spl_neq hc (by rw [this]; rfl), ← h1]; rfl
      | cons x xs =>
        rw [List.cons_append, List.cons.injEq] at hp
        obtain ⟨h1, h2⟩ := hp
        have := spl_app b p q (out := l :: xs) (t := t) (by rw [hs, h2]; rfl) hq
        rw [spl_neq hc (by rw [this]; rfl), ← h1]; rfl
theorem spl_snoc_eq {b : UInt8} {p : Str} {out : List Str} {t : Str} (hp : spl b p = out ++ [t]) : spl b (p ++ [b]) = out ++ [t] ++ [[]] := by
  have := spl_app b p [b] hp (h := []) (r := [[]]) (by simp [spl])
  rw [this]; simp
theorem spl_snoc_ne {b c : UInt8} (hc : c ≠ b) {p : Str} {out : List Str} {t : Str} (hp : spl b p = out ++ [t]) : spl b (p ++ [c]) = out ++ [t ++ [c]] := by
  have := spl_app b p [c] hp (h := [c]) (r := []) (by simp [spl, hc])
  exact this
theorem spl_not {b : UInt8} : ∀ {s : Str}, ¬ b ∈ s → spl b s = [s]
  | [], _ => rfl
  | c :: s, h => by
    simp only [List.mem_cons, not_or] at h
    exact spl_neq (fun e => h.1 e.symm) (spl_not h.2)
theorem pre1_post {c : UInt8} {s : Str} (h : c ∈ s) : s = pre1 c s ++ c :: s.drop ((pre1 c s).length + 1) := by
  have h1 := pre1_mem h
  have h2 := pre1_take c s
  obtain ⟨hlt, hc⟩ := List.getElem?_eq_some_iff.1 h1
  have e : s = s.take (pre1 c s).length ++ s.drop (pre1 c s).length := (List.take_append_drop _ _).symm
  rw [h2, List.drop_eq_getElem_cons hlt, hc] at e
  exact e
theorem spl_cut {b : UInt8} {s : Str} (h : b ∈ s) : spl b s = pre1 b s :: spl b (s.drop ((pre1 b s).length + 1)) := by
  obtain ⟨l, r, hr⟩ := spl_ex b (s.drop ((pre1 b s).length + 1))
  have h1 : spl b (pre1 b s) = [] ++ [pre1 b s] := spl_not fun hm => pre1_ne hm rfl
  have := spl_app b (pre1 b s) (b :: s.drop ((pre1 b s).length + 1)) h1 (spl_eq b _)
  rw [← pre1_post h] at this
  rw [this]; simp
theorem spl_len (b : UInt8) : ∀ s : Str, (spl b s).length = s.count b + 1
  | [] => rfl
  | c :: s => by
    have ih := spl_len b s
    by_cases hc : c = b
    · subst hc; rw [spl_eq]; simp [ih]
    · obtain ⟨l', r, hs⟩ := spl_ex b s
      rw [spl_neq hc hs]; rw [hs] at ih
      rw [List.count_cons_of_ne hc, ← ih]; rfl
theorem spl_le {b : UInt8} : ∀ {s : Str} {l : Str}, l ∈ spl b s → l.length ≤ s.length
  | [], l, h => by simp [spl] at h; subst h; simp
  | c :: s, l, h => by
    by_cases hc : c = b
    · subst hc; rw [spl_eq] at h
      rcases List.mem_cons.1 h with rfl | h
      · simp
      · have := spl_le h; simp only [List.length_cons]; omega
    · obtain ⟨l', r, hs⟩ := spl_ex b s
      rw [spl_neq hc hs] at h
      rcases List.mem_cons.1 h with rfl | h
      · have := spl_le (s := s) (l := l') (by rw [hs]; exact List.mem_cons_self); simp only [List.length_cons]; omega
      · have := spl_le (s := s) (l := l) (by rw [hs]; exact List.mem_cons_of_mem _ h); simp only [List.length_cons]; omega
theorem spl_len_le (b : UInt8) (s : Str) : (spl b s).length ≤ s.length + 1 := by rw [spl_len]; have := List.count_le_length (a := b) (l := s); omega
/-- One step of the loop that cuts. -/
theorem spl_step {b c : UInt8} {s : Str} {i fr : Nat} {out : List Str} (hc : s[i]? = some c) (hf : fr ≤ i) (hp : spl b (s.take i) = out ++ [(s.take i).drop fr]) :
    (c = b → spl b (s.take (i + 1)) = out ++ [(s.drop fr).take (i - fr)] ++ [(s.take (i + 1)).drop (i + 1)]) ∧ (c ≠ b → spl b (s.take (i + 1)) = out ++ [(s.take (i + 1)).drop fr]) := by
  have hlt := (List.getElem?_eq_some_iff.1 hc).1
  have e : s.take (i + 1) = s.take i ++ [c] := by rw [List.take_add_one, hc]; rfl
  constructor
  · rintro rfl
    rw [e, spl_snoc_eq hp, List.drop_take]
    simp; omega
  · intro h
    rw [e, spl_snoc_ne h hp, List.drop_append_of_le_length (by rw [List.length_take]; omega)]
end Go.Proofs.YthcclgoidchkdaaDoorC

/- Searching a rising list; a map's functions. -/
set_option linter.unusedVariables false
set_option linter.unusedSimpArgs false
set_option maxRecDepth 100000
namespace Go.Proofs.YthcclgoidchkdaaDoorC
open Go.RowKit
def eI1 (x : Int) : List Value := [.int .i64 x]
def eS1 (x : Str) : List Value := [Sv x]
theorem eS_at {ks : List Str} {i : Nat} {x : Str} (h : ks[i]? = some x) : (ks.map eS1)[i]? = some [Sv x] := by simp [h, eS1]
end Go.Proofs.YthcclgoidchkdaaDoorC

/- The document's functions on texts, topics and filters. -/
set_option linter.unusedVariables false
set_option linter.unusedSimpArgs false
set_option maxRecDepth 100000
namespace Go.Proofs.YthcclgoidchkdaaDoorC
open Go.RowKit
theorem u8_eq {c d : UInt8} (h : (c.toNat : Int) = (d.toNat : Int)) : c = d := UInt8.toNat_inj.1 (by omega)
end Go.Proofs.YthcclgoidchkdaaDoorC

/- Iterators that range over other iterators: how it stands, by the set of the blocks that are its own; each rule holds of whatever program. -/
set_option linter.unusedVariables false
set_option linter.unusedSimpArgs false
namespace Go.Proofs.YthcclgoidchkdaaDoorC
open Go.RowKit
variable {P : Program}
/-- How it stands in an iterator's walk that began in W: what is said of the rounds so far holds; w0 but M is as it was; the blocks S are its own. -/
structure Ts (M : Nat → Prop) (w0 W : World) (J : (Nat → Prop) → World → Prop) (S : Nat → Prop) (A : World) : Prop where
  stab : Stab W.heap.size J
  beg : Ext M w0 W
  ex : ∃ N, (∀ i, N i → W.heap.size ≤ i ∧ i < A.heap.size) ∧ W.heap.size ≤ A.heap.size ∧ J N A ∧ ∀ b, S b → N b
  w0 : Ext M w0 A
variable {M F : Nat → Prop} {w0 W A B : World} {J : (Nat → Prop) → World → Prop} {S S' : Nat → Prop} {bs : List Nat}
theorem Ts.less (h : Ts M w0 W J S A) (hb : ∀ b, S' b → S b) : Ts M w0 W J S' A :=
  ⟨h.stab, h.beg, by obtain ⟨N, h1, h2, h3, h4⟩ := h.ex; exact ⟨N, h1, h2, h3, fun b hb' => h4 b (hb b hb')⟩, h.w0⟩
theorem Tl.ts (h : Tl M w0 W J bs A) : Ts M w0 W J (fun i => i ∈ bs) A := ⟨h.stab, h.beg, h.ex, h.w0⟩
/-- Whatever was written lies among S; what was made is added. -/
theorem Ts.add (h : Ts M w0 W J S A) (hE : Ext F A B) (hF : ∀ i, F i → S i) : Ts M w0 W J (fun i => S i ∨ (A.heap.size ≤ i ∧ i < B.heap.size)) B := by
  obtain ⟨N, h1, h2, h3, h4⟩ := h.ex
  have hE' : Ext N A B := hE.mono fun i hi => h4 i (hF i hi)
  refine ⟨h.stab, h.beg, ⟨grow N A B, ?_, Nat.le_trans h2 hE.size, h.stab N A B (fun i hi => (h1 i hi).1) h2 h3 hE', ?_⟩, ?_⟩
  · rintro i (hi | ⟨ha, hb⟩)
    · exact ⟨(h1 i hi).1, Nat.lt_of_lt_of_le (h1 i hi).2 hE.size⟩
    · exact ⟨Nat.le_trans h2 ha, hb⟩
  · rintro b (hb | hb)
    · exact .inl (h4 b hb)
    · exact .inr hb
  · have hz := h.beg.size
    exact ⟨hE.os.trans h.w0.os, hE.tape.trans h.w0.tape, hE.output.trans h.w0.output, Nat.le_trans h.w0.size hE.size, fun i hi hm => (hE.block i (Nat.lt_of_lt_of_le hi h.w0.size) (fun hf => by have := (h1 i (h4 i (hF i hf))).1; omega)).trans (h.w0.block i hi hm)⟩
theorem Ts.ext (h : Ts M w0 W J S A) (hE : Ext F A B) (hF : ∀ i, F i → S i) : Ts M w0 W J S B := (h.add hE hF).less fun _ h => .inl h
theorem Ts.tr (h : Ts M w0 W J S A) (hE : Ext Non A B) : Ts M w0 W J S B := h.ext hE fun _ h => h.elim
/-- All that was made since the walk's begin is its own. -/
abbrev Al (W A : World) : Nat → Prop := fun i => W.heap.size ≤ i ∧ i < A.heap.size
theorem Ts.all0 (h : Ts M w0 W J Non W) : Ts M w0 W J (Al W W) W := h.less fun i hi => absurd hi.2 (by have := hi.1; omega)
theorem rn_bneq {P : Program} {σ : Env} {w : World} {dst : Option Nat} {ty : TypeId} {pos : String} {af : Array Edge} {g : Option (Nat × Bool)} {t u : TypeId} (hu : P.underlying t = some .bool) {x y : Operand} {a b : Bool} (hx : ev σ x = .bool a) (hy : ev σ y = .bool b) : Rn P σ w ⟨dst, .binOp .neq t x y u, ty, pos, af, g⟩ (.bool (decide (a ≠ b))) := by
  show (execOp (ev σ) _).run P w = _
  have h1 : (Op.equal t (.bool a) (.bool b)).run P w = .ok (decide (a = b)) w := eqs_bool hu 10000 w (by decide)
  have h2 : (binOp .neq t (.bool a) (.bool b)).run P w = .ok (.bool (!decide (a = b))) w := by
    show (do pure (Value.bool (!(← Op.equal t (.bool a) (.bool b))))).run P w = _
    rw [Sem.run_bind, h1]; rfl
  have h3 : (eqGuard .neq t x y (.bool a) (.bool b)).run P w = .ok () w := rfl
  have e : decide (a ≠ b) = !decide (a = b) := by cases a <;> cases b <;> rfl
  rw [e]
  simp only [execOp, hx, hy]
  rw [Sem.run_bind, Sem.run_bind, h3, Result.andThen_ok, h2]
  rfl
end Go.Proofs.YthcclgoidchkdaaDoorC

/- A range over a function that writes what it has captured: an iterator that may be gone through once; each rule holds of whatever program. -/
set_option linter.unusedVariables false
set_option linter.unusedSimpArgs false
namespace Go.Proofs.YthcclgoidchkdaaDoorC
open Go.RowKit
variable {ro : Option Nat} {P : Program} {n : Nat} {Q : Post} {σ : Env} {D : List Deferred} {w : World}
/-- As Stab, of an owner of E0 too. -/
def StabE (E0 : Nat → Prop) (n0 : Nat) (J : (Nat → Prop) → World → Prop) : Prop :=
  ∀ N A B, (∀ i, N i → E0 i ∨ n0 ≤ i) → n0 ≤ A.heap.size → J N A → Ext N A B → J (grow N A B) B
/-! ### the walk of such an iterator's own code -/
structure Te (M : Nat → Prop) (w0 W : World) (E0 : Nat → Prop) (J : (Nat → Prop) → World → Prop) (S : Nat → Prop) (A : World) : Prop where
  stab : StabE E0 W.heap.size J
  beg : Ext M w0 W
  ex : ∃ N, (∀ i, N i → (E0 i ∨ W.heap.size ≤ i) ∧ i < A.heap.size) ∧ (∀ i, E0 i → N i) ∧ W.heap.size ≤ A.heap.size ∧ J N A ∧ ∀ b, S b → N b
  w0 : Ext (fun i => M i ∨ E0 i) w0 A
variable {M F : Nat → Prop} {w0 W A B : World} {J : (Nat → Prop) → World → Prop} {S S' E0 : Nat → Prop}
theorem Te.ext (h : Te M w0 W E0 J S A) (hE : Ext F A B) (hF : ∀ i, F i → S i) : Te M w0 W E0 J S B := by
  obtain ⟨N, h1, h0, h2, h3, h4⟩ := h.ex
  have hE' : Ext N A B := hE.mono fun i hi => h4 i (hF i hi)
  refine ⟨h.stab, h.beg, ⟨grow N A B, ?_, fun i hi => .inl (h0 i hi), Nat.le_trans h2 hE.size, h.stab N A B (fun i hi => (h1 i hi).1) h2 h3 hE', fun b hb => .inl (h4 b hb)⟩, ?_⟩
  · rintro i (hi | ⟨ha, hb⟩)
    · exact ⟨(h1 i hi).1, Nat.lt_of_lt_of_le (h1 i hi).2 hE.size⟩
    · exact ⟨.inr (Nat.le_trans h2 ha), hb⟩
  · have hz := h.beg.size
    refine ⟨hE.os.trans h.w0.os, hE.tape.trans h.w0.tape, hE.output.trans h.w0.output, Nat.le_trans h.w0.size hE.size, fun i hi hm => (hE.block i (Nat.lt_of_lt_of_le hi h.w0.size) (fun hf => ?_)).trans (h.w0.block i hi hm)⟩
    rcases (h1 i (h4 i (hF i hf))).1 with h | h
    · exact hm (.inr h)
    · omega
theorem Te.tr (h : Te M w0 W E0 J S A) (hE : Ext Non A B) : Te M w0 W E0 J S B := h.ext hE fun _ h => h.elim
end Go.Proofs.YthcclgoidchkdaaDoorC

/- The library's functions on texts: a byte's place, cutting. -/
set_option linter.unusedVariables false
set_option linter.unusedSimpArgs false
set_option maxRecDepth 100000
namespace Go.Proofs.YthcclgoidchkdaaDoorC
open Go.RowKit
theorem ibs_name : (Tryd.f218.name == "runtime.NumGoroutine") = false := by kernel_rfl
theorem ibs_body : Tryd.f218.body.isNone = true := by kernel_rfl
theorem ibs_next : Extern.findNext Tryd.f218 = none := by kernel_rfl
theorem ibs_find : Extern.find Tryd.f218 = some Extern.BytealgIndexByte.indexByte := by kernel_rfl
theorem ibs : IB Tryd.prog 218 := ⟨_, Tryd.func218, ibs_name, ibs_body, ibs_next, ibs_find⟩
theorem fi_self (c : UInt8) : fi [c] c = 0 := by simp [fi, pre1]
theorem fi_ge (s : Str) (c : UInt8) : 0 ≤ fi s c ↔ c ∈ s := by
  unfold fi; split
  · rename_i h; exact ⟨fun _ => h, fun _ => by omega⟩
  · rename_i h; exact ⟨fun h' => absurd h' (by decide), fun h' => absurd h' h⟩
theorem fi_in {s : Str} {c : UInt8} (h : c ∈ s) : fi s c = ((pre1 c s).length : Nat) := by unfold fi; rw [if_pos h]
-- internal/stringslite.IndexByte
set_option maxHeartbeats 1600000 in
theorem indexByte_ok (w : World) (s : Str) (c : UInt8) : Fn Tryd.prog 189 #[Sv s, .int .u8 c.toNat] w fun u w' => u = .int .i64 (fi s c) := by
  have hX := Ext.refl Non w
  refine fn_of_W (args := [_, _]) Tryd.func189 rfl (by kernel_rfl) rfl ?_
  refine W_seq ?_
  refine W_region ?_
  refine wl_val (rn_assign (by conv => lhs; whnf)) ?_
  refine wl_nil ?_
  refine W_seq ?_
  refine W_region ?_
  refine wl_val (rn_move (by conv => lhs; whnf)) ?_
  refine wl_val (rn_move (by conv => lhs; whnf)) ?_
  refine wl_val (P := Tryd.prog) (op := .call ⟨.value (.func 218), #[.tmp 5, .tmp 6], #[9, 5]⟩) (rn_indexByte ibs rfl rfl) ?_
  refine wl_val (rn_assign (by conv => lhs; whnf)) ?_
  refine wl_nil ?_
  refine W_ret ?_
  exact ⟨_, resR1 (res1_tmp rfl), hX, rfl⟩
-- internal/stringslite.Index
set_option maxHeartbeats 800000 in
theorem index_ok (w : World) (s : Str) (c : UInt8) : Fn Tryd.prog 214 #[Sv s, Sv [c]] w fun u w' => u = .int .i64 (fi s c) := by
  have hX := Ext.refl Non w
  refine fn_of_W (args := [_, _]) Tryd.func214 rfl (by kernel_rfl) rfl ?_
  refine W_seq ?_
  refine W_region ?_
  refine wl_val (rn_assign (by conv => lhs; whnf)) ?_
  refine wl_nil ?_
  refine W_seq ?_
  refine W_region ?_
  refine wl_val (rn_move (by conv => lhs; whnf)) ?_
  refine wl_val (rn_slen us_9 rfl) ?_
  refine wl_val (rn_assign (by conv => lhs; whnf)) ?_
  refine wl_nil ?_
  refine W_seq ?_
  refine W_block ?_   -- block 0
  refine W_seq ?_
  refine W_region ?_
  refine wl_val (rn_move (by conv => lhs; whnf)) ?_
  refine wl_val (rn_eql rfl rfl) ?_
  refine wl_val (rn_move (by conv => lhs; whnf)) ?_
  refine wl_split (d := 19) rfl (fun hg19 => ?_) (fun hg19 => ?_)
  · exact absurd (of_decide_eq_true hg19) (by simp)
  · refine wl_yes rfl (congrArg Value.bool hg19) ?_
    refine wl_val (rn_move (by conv => lhs; whnf)) ?_
    refine wl_yes rfl (congrArg Value.bool hg19) ?_
    refine wl_val (rn_move (by conv => lhs; whnf)) ?_
    refine wl_yes rfl (congrArg Value.bool hg19) ?_
    refine wl_val (rn_seql rfl rfl) ?_
    refine wl_val (rn_pickF (congrArg Value.bool hg19) (by conv => lhs; whnf)) ?_
    refine wl_val (rn_assign (by conv => lhs; whnf)) ?_
    refine wl_nil ?_
    refine W_cond rfl (fun hc0 => ?_) (fun hc0 => ?_)
    · refine W_seq ?_
      refine W_region ?_
      refine wl_val (rn_assign (by conv => lhs; whnf)) ?_
      refine wl_nil ?_
      refine W_ret ?_
      exact ⟨_, resR1 (res1_tmp rfl), hX, by have e := of_decide_eq_true hc0; rw [← e, fi_self]; rfl⟩
    · refine W_seq ?_
      refine W_region ?_
      refine wl_val (rn_move (by conv => lhs; whnf)) ?_
      refine wl_val (rn_eql rfl rfl) ?_
      refine wl_val (rn_assign (by conv => lhs; whnf)) ?_
      refine wl_nil ?_
      refine W_cond rfl (fun hc1 => ?_) (fun hc1 => ?_)
      · refine W_seq ?_
        refine W_region ?_
        refine wl_val (rn_move (by conv => lhs; whnf)) ?_
        refine wl_val (rn_move (by conv => lhs; whnf)) ?_
        refine wl_val (rn_sindex us_9 rfl rfl (by omega) rfl) ?_
        refine wl_call e_189 rfl (indexByte_ok w s c) ?_; intro v30 w1 hE1 hR1
        replace hX := hX.tr hE1
        subst hR1
        refine wl_val (rn_assign (by conv => lhs; whnf)) ?_
        refine wl_nil ?_
        refine W_ret ?_
        exact ⟨_, resR1 (res1_tmp rfl), hX, rfl⟩
      · exact absurd (of_decide_eq_false hc1) (by simp)
-- bellman/bellmanref01.Long
theorem long_ok (w : World) (s : Str) : Fn Tryd.prog 32 #[Sv s] w fun u w' => u = .bool (decide ((s.length : Int) > 300)) := by
  have hX := Ext.refl Non w
  refine fn_of_W (args := [_]) Tryd.func32 rfl (by kernel_rfl) rfl ?_
  refine W_seq ?_
  refine W_region ?_
  refine wl_val (rn_assign (by conv => lhs; whnf)) ?_
  refine wl_nil ?_
  refine W_seq ?_
  refine W_region ?_
  refine wl_val (rn_move (by conv => lhs; whnf)) ?_
  refine wl_val (rn_slen us_9 rfl) ?_
  refine wl_val (rn_gtr rfl rfl) ?_
  refine wl_val (rn_assign (by conv => lhs; whnf)) ?_
  refine wl_nil ?_
  refine W_ret ?_
  exact ⟨_, resR1 (res1_tmp rfl), hX, rfl⟩
-- strings.Index
theorem sindex_ok (w : World) (s : Str) (c : UInt8) : Fn Tryd.prog 181 #[Sv s, Sv [c]] w fun u w' => u = .int .i64 (fi s c) := by
  have hX := Ext.refl Non w
  refine fn_of_W (args := [_, _]) Tryd.func181 rfl (by kernel_rfl) rfl ?_
  refine W_seq ?_
  refine W_region ?_
  refine wl_val (rn_assign (by conv => lhs; whnf)) ?_
  refine wl_nil ?_
  refine W_seq ?_
  refine W_region ?_
  refine wl_val (rn_move (by conv => lhs; whnf)) ?_
  refine wl_val (rn_move (by conv => lhs; whnf)) ?_
  refine wl_call e_214 rfl (index_ok w s c) ?_; intro v7 w1 hE1 hR1
  replace hX := hX.tr hE1
  subst hR1
  refine wl_val (rn_assign (by conv => lhs; whnf)) ?_
  refine wl_nil ?_
  refine W_ret ?_
  exact ⟨_, resR1 (res1_tmp rfl), hX, rfl⟩
end Go.Proofs.YthcclgoidchkdaaDoorC

/- Going through a text's levels. -/
set_option linter.unusedVariables false
set_option linter.unusedSimpArgs false
set_option maxRecDepth 100000
namespace Go.Proofs.YthcclgoidchkdaaDoorC
open Go.RowKit
/-- Texts with their places. -/
def numb (L : List Str) : List (Nat × Str) := L.zipIdx.map fun p => (p.2, p.1)
theorem numb_snoc (L : List Str) (x : Str) : numb (L ++ [x]) = numb L ++ [(L.length, x)] := by simp [numb, List.zipIdx_append]
theorem numb_len (L : List Str) : (numb L).length = L.length := by simp [numb]
theorem numb_pre {L : List Str} {pre post : List Str} {x : Str} (h : L = pre ++ x :: post) : ∃ q, numb L = numb pre ++ (pre.length, x) :: q := by
  subst h
  refine ⟨(post.zipIdx (pre.length + 1)).map fun p => (p.2, p.1), ?_⟩
  simp [numb, List.zipIdx_append, List.zipIdx_cons]
theorem numb_get (L : List Str) (j : Nat) : (numb L)[j]? = L[j]?.map fun x => (j, x) := by
  unfold numb; rw [List.getElem?_map, List.getElem?_zipIdx]; cases L[j]? <;> simp
theorem numb_take (L : List Str) (n : Nat) : (numb L).take n = numb (L.take n) := by
  apply List.ext_getElem?; intro j
  rw [List.getElem?_take, numb_get, numb_get, List.getElem?_take]; split <;> simp
theorem numb_at {L : List Str} {pre post : List (Nat × Str)} {i : Nat} {x : Str} (h : numb L = pre ++ (i, x) :: post) : i = pre.length ∧ L[i]? = some x ∧ pre = numb (L.take i) := by
  have h0 : (numb L)[pre.length]? = some (i, x) := by rw [h]; simp
  rw [numb_get] at h0
  cases hx : L[pre.length]? with
  | none => rw [hx] at h0; cases h0
  | some y =>
    rw [hx] at h0
    simp at h0
    obtain ⟨rfl, rfl⟩ := h0
    refine ⟨rfl, hx, ?_⟩
    have h1 : (numb L).take pre.length = pre := by rw [h]; simp
    rw [← numb_take]; exact h1.symm
end Go.Proofs.YthcclgoidchkdaaDoorC

/- Filters of the program; the law TopicEach. -/
set_option linter.unusedVariables false
set_option linter.unusedSimpArgs false
set_option maxRecDepth 100000
namespace Go.Proofs.YthcclgoidchkdaaDoorC
open Go.RowKit
theorem cs_name : (Tryd.f213.name == "runtime.NumGoroutine") = false := by kernel_rfl
theorem cs_body : Tryd.f213.body.isNone = true := by kernel_rfl
theorem cs_next : Extern.findNext Tryd.f213 = none := by kernel_rfl
theorem cs_find : Extern.find Tryd.f213 = some Extern.BytealgCount.count := by kernel_rfl
theorem cbs : CB Tryd.prog 213 := ⟨_, Tryd.func213, cs_name, cs_body, cs_next, cs_find⟩
-- strings.Count
set_option maxHeartbeats 1000000 in
theorem scount_ok (w : World) (s : Str) (c : UInt8) : Fn Tryd.prog 180 #[Sv s, Sv [c]] w fun u w' => u = .int .i64 (s.count c : Nat) := by
  have hX := Ext.refl Non w
  refine fn_of_W (args := [_, _]) Tryd.func180 rfl (by kernel_rfl) rfl ?_
  refine W_seq ?_
  refine W_region ?_
  refine wl_val (rn_assign (by conv => lhs; whnf)) ?_
  refine wl_nil ?_
  refine W_seq ?_
  refine W_seq ?_
  refine W_region ?_
  refine wl_val (rn_move (by conv => lhs; whnf)) ?_
  refine wl_val (rn_slen us_9 rfl) ?_
  refine wl_val (rn_eql rfl rfl) ?_
  refine wl_nil ?_
  refine W_cond rfl (fun hc0 => ?_) (fun hc0 => ?_)
  · exact absurd (of_decide_eq_true hc0) (by simp)
  · refine W_skip ?_
    refine W_seq ?_
    refine W_seq ?_
    refine W_region ?_
    refine wl_val (rn_move (by conv => lhs; whnf)) ?_
    refine wl_val (rn_slen us_9 rfl) ?_
    refine wl_val (rn_eql rfl rfl) ?_
    refine wl_nil ?_
    refine W_cond rfl (fun hc1 => ?_) (fun hc1 => ?_)
    · refine W_seq ?_
      refine W_region ?_
      refine wl_val (rn_move (by conv => lhs; whnf)) ?_
      refine wl_val (rn_move (by conv => lhs; whnf)) ?_
      refine wl_val (rn_sindex us_9 rfl rfl (by omega) rfl) ?_
      refine wl_val (P := Tryd.prog) (op := .call ⟨.value (.func 213), #[.tmp 16, .tmp 18], #[9, 5]⟩) (v := .int .i64 (s.count c : Nat)) (rn_countString (s := s) (c := c) cbs rfl rfl) ?_
      refine wl_val (rn_assign (by conv => lhs; whnf)) ?_
      refine wl_nil ?_
      refine W_ret ?_
      exact ⟨_, resR1 (res1_tmp rfl), hX, rfl⟩
    · exact absurd (of_decide_eq_false hc1) (by simp)
end Go.Proofs.YthcclgoidchkdaaDoorC

/- Texts joined into one: OpN OpR Op8 Op9 Op10 Op11 Op12 Op13 OpL Op14 Op15. -/
/- Numerals of at most four digits; plain. -/
set_option linter.unusedVariables false
set_option linter.unusedSimpArgs false
namespace Go.Proofs.YthcclgoidchkdaaDoorC
open Go.RowKit Go.Lib
theorem decFrom_app : ∀ (a b : Str) (acc : Nat), decFrom acc (a ++ b) = (decFrom acc a).bind fun n => decFrom n b
  | [], b, acc => rfl
  | x :: a, b, acc => by
    simp only [List.cons_append, decFrom]
    cases digitVal x with
    | none => rfl
    | some d => exact decFrom_app a b _
theorem digitVal_of {n : Nat} (h : n < 10) : digitVal (UInt8.ofNat (48 + n)) = some n := by
  have : ∀ k : Fin 10, digitVal (UInt8.ofNat (48 + k.val)) = some k.val := by decide
  exact this ⟨n, h⟩
theorem dec_num : ∀ n : Nat, decFrom 0 (decDigits n) = some n := by
  intro n
  induction n using Nat.strongRecOn with
  | ind n ih =>
    by_cases h : n < 10
    · rw [decDigits_one h]
      show (match digitVal (UInt8.ofNat (48 + n)) with | some d => some (0 * 10 + d) | none => none) = _
      rw [digitVal_of h]; simp
    · rw [dec_snoc h, decFrom_app, ih (n / 10) (by omega), decDigits_one (show n % 10 < 10 by omega)]
      show (match digitVal (UInt8.ofNat (48 + n % 10)) with | some d => some (n / 10 * 10 + d) | none => none) = _
      rw [digitVal_of (show n % 10 < 10 by omega)]
      exact congrArg some (by omega)
theorem dec_ne (n : Nat) : decDigits n ≠ [] := by
  intro h; have := decDigits_length n; rw [h, nDigits] at this; simp at this; split at this <;> omega
theorem dec_head : ∀ n : Nat, 1 ≤ n → (decDigits n)[0]? ≠ some 48 := by
  intro n
  induction n using Nat.strongRecOn with
  | ind n ih =>
    intro h1
    by_cases h : n < 10
    · rw [decDigits_one h]
      have : ∀ k : Fin 10, 1 ≤ k.val → ¬ UInt8.ofNat (48 + k.val) = 48 := by decide
      simpa using this ⟨n, h⟩ h1
    · rw [dec_snoc h, List.getElem?_append_left (by have := List.length_pos_iff.2 (dec_ne (n / 10)); exact this)]
      exact ih (n / 10) (by omega) (by omega)
theorem dec_of : ∀ (k : Nat) (s : Str) (n : Nat), s.length = k → decFrom 0 s = some n → s ≠ [] → (1 < s.length → s[0]? ≠ some 48) → decDigits n = s := by
  intro k
  induction k using Nat.strongRecOn with
  | ind k ih =>
    intro s n hk hd hne hh
    obtain ⟨t, c, rfl⟩ : ∃ t c, s = t ++ [c] := ⟨s.dropLast, s.getLast hne, (List.dropLast_concat_getLast hne).symm⟩
    rw [decFrom_app] at hd
    cases ht : decFrom 0 t with
    | none => rw [ht] at hd; cases hd
    | some m =>
      rw [ht] at hd
      simp only [Option.bind_some, decFrom] at hd
      cases hc : digitVal c with
      | none => rw [hc] at hd; cases hd
      | some d =>
        rw [hc] at hd
        simp only [Option.some.injEq] at hd
        have hcd : d < 10 ∧ c = UInt8.ofNat (48 + d) := by
          unfold digitVal at hc
          split at hc
          · rename_i h
            simp only [Option.some.injEq] at hc
            refine ⟨by omega, UInt8.toNat_inj.1 ?_⟩
            simp; omega
          · cases hc
        by_cases h0 : t = []
        · subst h0
          simp only [decFrom, Option.some.injEq] at ht
          subst ht
          rw [← hd, Nat.zero_mul, Nat.zero_add, decDigits_one hcd.1, hcd.2]; rfl
        · have hlt : 1 ≤ t.length := List.length_pos_iff.2 h0
          have hh2 : t[0]? ≠ some 48 := by
            have := hh (by simp; omega)
            rw [List.getElem?_append_left (by omega)] at this; exact this
          have h1 := ih t.length (by simp at hk; omega) t m rfl ht h0 (fun _ => hh2)
          have hm : 1 ≤ m := by
            apply Classical.byContradiction
            intro h2
            rw [show m = 0 by omega, decDigits_one (by decide)] at h1
            rw [← h1] at hh2; exact hh2 rfl
          rw [dec_snoc (show ¬ n < 10 by omega), show n / 10 = m by omega, show n % 10 = d by omega, h1, decDigits_one hcd.1, hcd.2]
theorem dec_noblank (n : Nat) : ∀ c ∈ decDigits n, c ≠ 32 := by
  intro c hc e
  obtain ⟨k, hk⟩ := List.getElem?_of_mem hc
  obtain ⟨d, hd⟩ := digit_of_decFrom _ 0 n (dec_num n) k c hk
  have h32 : digitVal 32 = none := by decide
  rw [e, h32] at hd; cases hd
end Go.Proofs.YthcclgoidchkdaaDoorC

/- A line's operation; plain. -/
set_option linter.unusedVariables false
set_option linter.unusedSimpArgs false
namespace Go.Proofs.YthcclgoidchkdaaDoorC
open Go.RowKit
end Go.Proofs.YthcclgoidchkdaaDoorC

/- Cutting a line at its blanks: the library's and the document's; a number's digits. -/
set_option linter.unusedVariables false
set_option linter.unusedSimpArgs false
set_option maxRecDepth 100000
namespace Go.Proofs.YthcclgoidchkdaaDoorC
open Go.RowKit
theorem set_fill (done : List Str) (k : Nat) (x : Str) : ((done ++ List.replicate (k + 1) []).map eS1).set done.length [Sv x] = ((done ++ [x]) ++ List.replicate k []).map eS1 := by
  rw [List.map_append, List.set_append_right _ _ (by simp), List.length_map, Nat.sub_self, List.replicate_succ, List.map_cons, List.set_cons_zero]
  simp [eS1]
theorem make_fill (m : Nat) : List.replicate m [Sv []] = (([] : List Str) ++ List.replicate m []).map eS1 := by simp [eS1]
-- bellman/bellmanref19.Split
set_option maxHeartbeats 800000 in
theorem rsplit_new (w : World) (s : Str) (hn : s.length ≤ 1000000) : Fn Tryd.prog 100 #[Sv s] w fun u w' => Sl (Old w) w' u 1 ((spl 32 s).map eS1) := by
  have hX := Ext.refl Non w
  refine fn_of_W (args := [_]) Tryd.func100 rfl (by kernel_rfl) rfl ?_
  refine W_seq ?_
  refine W_region ?_
  refine wl_val (rn_assign (by conv => lhs; whnf)) ?_
  refine wl_nil ?_
  refine W_seq ?_
  refine W_region ?_
  refine wl_val (rn_assign (by conv => lhs; whnf)) ?_
  refine wl_nil ?_
  refine W_seq ?_
  refine W_region ?_
  refine wl_val (rn_assign (by conv => lhs; whnf)) ?_
  refine wl_nil ?_
  refine W_seq ?_
  refine W_seq ?_
  refine W_region ?_
  refine wl_val (rn_assign (by conv => lhs; whnf)) ?_
  refine wl_nil ?_
  refine W_block ?_   -- block 0
  refine W_loopS (S := Nat × Nat × List Str × Value × Option Nat) [0, 3, 4, 5] (fun ⟨i, fr, out, v, oo⟩ => [Sv s, v, .int .i64 (fr : Nat), .int .i64 (i : Nat)]) (fun ⟨i, fr, out, v, oo⟩ A => (Ext Non w A) ∧ (i ≤ s.length ∧ fr ≤ i ∧ spl 32 (s.take i) = out ++ [(s.take i).drop fr] ∧ OwO A v oo 1 (out.map eS1) ∧ ∀ j, oo = some j → w.heap.size ≤ j)) (fun ⟨i, fr, out, v, oo⟩ => s.length - i) (0, 0, [], .slice none 0 0, none) ⟨rfl, rfl, rfl, rfl, trivial⟩ ⟨hX, ⟨Nat.zero_le _, Nat.le_refl _, rfl, OwO.nil, by simp⟩⟩ ?_
  rintro τ0 ⟨i, fr, out, v, oo⟩ A0 ⟨hX, hI0⟩
  obtain ⟨hil, hfi, hsp, hO, ho⟩ := hI0
  have hol : out.length ≤ i := by have := spl_len_le 32 (s.take i); rw [hsp] at this; simp only [List.length_append, List.length_cons, List.length_nil, List.length_take] at this; omega
  refine W_seq ?_
  refine W_seq ?_
  refine W_region ?_
  refine wl_val (rn_move (by conv => lhs; whnf)) ?_
  refine wl_val (rn_move (by conv => lhs; whnf)) ?_
  refine wl_val (rn_slen us_9 rfl) ?_
  refine wl_val (rn_lss rfl rfl) ?_
  refine wl_nil ?_
  refine W_cond rfl (fun hc0 => ?_) (fun hc0 => ?_)
  · have hlt := of_decide_eq_true hc0; simp only [Int.ofNat_lt] at hlt
    obtain ⟨c, hcc⟩ : ∃ c, (s)[i]? = some c := ⟨_, List.getElem?_eq_getElem hlt⟩
    have hst := spl_step hcc hfi hsp
    refine W_skip ?_
    refine W_seq ?_
    refine W_block ?_   -- block 1
    refine W_seq ?_
    refine W_region ?_
    refine wl_val (rn_move (by conv => lhs; whnf)) ?_
    refine wl_val (rn_move (by conv => lhs; whnf)) ?_
    refine wl_val (rn_sindex us_9 rfl rfl (by omega) hcc) ?_
    refine wl_val (rn_eql rfl rfl) ?_
    refine wl_nil ?_
    refine W_cond rfl (fun hc1 => ?_) (fun hc1 => ?_)
    · have hcb : c = 32 := u8_eq (d := 32) (of_decide_eq_true hc1)
      refine W_seq ?_
      refine W_region ?_
      refine wl_val (rn_move (by conv => lhs; whnf)) ?_
      refine wl_val (rn_move (by conv => lhs; whnf)) ?_
      refine wl_val (rn_move (by conv => lhs; whnf)) ?_
      refine wl_val (rn_move (by conv => lhs; whnf)) ?_
      refine wl_val (rn_sslice us_9 (l := fr) (h := i) rfl ⟨_, rfl⟩ ⟨_, rfl⟩ (by omega) (by first | omega | (simp only [List.length_cons, List.length_nil, List.length_append]; omega))) ?_
      refine wl_lit1 (r := eS1 ((s.drop fr).take (i - fr))) sl_68 rfl rfl rfl rfl (by decide) ?_; intro v21 w1 b21 hb21 hE1 hO21
      replace hX := hX.tr hE1
      replace hO := hO.ext hE1 (fun _ _ h => h)
      have hXo := hX
      refine wl_app sl_68 rfl rfl rfl hO (hO21.sl (M := Non) id) (fun r hr => by simp only [List.mem_singleton] at hr; subst hr; exact one1 rfl) (by simp only [List.length_map, List.length_range, List.length_cons, List.length_nil]; omega) (by simp only [List.length_map, List.length_range, List.length_cons, List.length_nil, big]; omega) ?_; intro v22 w2 o22 hE2 hO22 hf22
      replace hX := hX.mineO hE2 (fun i hi => .inr (ho i hi))
      have ho22 : ∀ i, o22 = some i → w.heap.size ≤ i := fun j hj => by rcases hf22 j hj with h | h; exact ho j h; exact Nat.le_trans hXo.size h
      refine wl_val (rn_assign (by conv => lhs; whnf)) ?_
      refine wl_nil ?_
      refine W_region ?_
      refine wl_val (rn_move (by conv => lhs; whnf)) ?_
      refine wl_val (rn_add rfl rfl (by omega)) ?_
      refine wl_val (rn_assign (by conv => lhs; whnf)) ?_
      refine wl_nil ?_
      refine W_region ?_
      refine wl_val (rn_move (by conv => lhs; whnf)) ?_
      refine wl_val (rn_add rfl rfl (by omega)) ?_
      refine wl_val (rn_assign (by conv => lhs; whnf)) ?_
      refine wl_nil ?_
      exact ⟨rfl, (i + 1, i + 1, out ++ [(s.drop fr).take (i - fr)], v22, o22), ⟨rfl, rfl, rfl, rfl, trivial⟩, ⟨hX, ⟨hlt, Nat.le_refl _, hst.1 hcb, by rw [List.map_append]; exact hO22, ho22⟩⟩, by show s.length - (i + 1) < s.length - i; omega⟩
    · have hcb : ¬ c = 32 := fun e => of_decide_eq_false hc1 (by rw [e]; rfl)
      refine W_skip ?_
      refine W_region ?_
      refine wl_val (rn_move (by conv => lhs; whnf)) ?_
      refine wl_val (rn_add rfl rfl (by omega)) ?_
      refine wl_val (rn_assign (by conv => lhs; whnf)) ?_
      refine wl_nil ?_
      exact ⟨rfl, (i + 1, fr, out, v, oo), ⟨rfl, rfl, rfl, rfl, trivial⟩, ⟨hX, ⟨hlt, by omega, hst.2 hcb, hO, ho⟩⟩, by show s.length - (i + 1) < s.length - i; omega⟩
  · have hge := of_decide_eq_false hc0; simp only [Int.ofNat_lt, Nat.not_lt] at hge
    rw [List.take_of_length_le hge] at hsp
    have hie : i = s.length := by omega
    refine W_exit ?_   -- exit 0
    refine W_seq ?_
    refine W_region ?_
    refine wl_val (rn_move (by conv => lhs; whnf)) ?_
    refine wl_val (rn_move (by conv => lhs; whnf)) ?_
    refine wl_val (rn_move (by conv => lhs; whnf)) ?_
    refine wl_val (rn_sslice us_9 (l := fr) (h := s.length) rfl ⟨_, rfl⟩ rfl (by omega) (by first | omega | (simp only [List.length_cons, List.length_nil, List.length_append]; omega))) ?_
    refine wl_lit1 (r := eS1 ((s.drop fr).take (s.length - fr))) sl_68 rfl rfl rfl rfl (by decide) ?_; intro v29 w3 b29 hb29 hE3 hO29
    replace hX := hX.tr hE3
    replace hO := hO.ext hE3 (fun _ _ h => h)
    have hXo := hX
    refine wl_app sl_68 rfl rfl rfl hO (hO29.sl (M := Non) id) (fun r hr => by simp only [List.mem_singleton] at hr; subst hr; exact one1 rfl) (by simp only [List.length_map, List.length_range, List.length_cons, List.length_nil]; omega) (by simp only [List.length_map, List.length_range, List.length_cons, List.length_nil, big]; omega) ?_; intro v30 w4 o30 hE4 hO30 hf30
    replace hX := hX.mineO hE4 (fun i hi => .inr (ho i hi))
    have ho30 : ∀ i, o30 = some i → w.heap.size ≤ i := fun j hj => by rcases hf30 j hj with h | h; exact ho j h; exact Nat.le_trans hXo.size h
    refine wl_val (rn_assign (by conv => lhs; whnf)) ?_
    refine wl_nil ?_
    refine W_ret ?_
    exact ⟨_, resR1 (res1_tmp rfl), hX, by rw [hsp, List.map_append]; have e : s.drop fr = (s.drop fr).take (s.length - fr) := (List.take_of_length_le (by rw [List.length_drop]; exact Nat.le_refl _)).symm; rw [e]; exact hO30.sl (fun i hi hlt => by have := ho30 i hi; unfold Old at hlt; omega)⟩
theorem rsplit_ok (w : World) (s : Str) (hn : s.length ≤ 1000000) : Fn Tryd.prog 100 #[Sv s] w fun u w' => Sl Non w' u 1 ((spl 32 s).map eS1) :=
  (rsplit_new w s hn).mono fun v w' _ h => h.sub fun _ h _ => h.elim

-- strings.genSplit
set_option maxHeartbeats 1600000 in
theorem genSplit_ok (w : World) (s : Str) (hn : s.length ≤ 1000000) : Fn Tryd.prog 145 #[Sv s, Sv [32], .int .i64 0, .int .i64 (-1)] w fun u w' => Sl Non w' u 1 ((spl 32 s).map eS1) := by
  have hcl := List.count_le_length (a := (32 : UInt8)) (l := s)
  have hX := Ext.refl Non w
  refine fn_of_W (args := [_, _, _, _]) Tryd.func145 rfl (by kernel_rfl) rfl ?_
  refine W_seq ?_
  refine W_region ?_
  refine wl_val (rn_assign (by conv => lhs; whnf)) ?_
  refine wl_nil ?_
  refine W_seq ?_
  refine W_seq ?_
  refine W_region ?_
  refine wl_val (rn_move (by conv => lhs; whnf)) ?_
  refine wl_val (rn_eql rfl rfl) ?_
  refine wl_nil ?_
  refine W_condF rfl ?_
  refine W_skip ?_
  refine W_seq ?_
  refine W_seq ?_
  refine W_region ?_
  refine wl_val (rn_move (by conv => lhs; whnf)) ?_
  refine wl_val (rn_seql rfl rfl) ?_
  refine wl_nil ?_
  refine W_cond rfl (fun hc1 => ?_) (fun hc1 => ?_)
  · exact absurd (of_decide_eq_true hc1) (by simp)
  · refine W_skip ?_
    refine W_seq ?_
    refine W_seq ?_
    refine W_region ?_
    refine wl_val (rn_move (by conv => lhs; whnf)) ?_
    refine wl_val (rn_lss rfl rfl) ?_
    refine wl_nil ?_
    refine W_condT rfl ?_
    refine W_region ?_
    refine wl_val (rn_move (by conv => lhs; whnf)) ?_
    refine wl_val (rn_move (by conv => lhs; whnf)) ?_
    refine wl_call e_180 rfl (scount_ok w s 32) ?_; intro v23 w1 hE1 hR1
    replace hX := hX.tr hE1
    subst hR1
    refine wl_val (Rn.cast (rn_add rfl rfl (by omega)) (v' := .int .i64 ((s.count 32 + 1 : Nat) : Int)) rfl) ?_
    refine wl_val (rn_assign (by conv => lhs; whnf)) ?_
    refine wl_nil ?_
    refine W_seq ?_
    refine W_region ?_
    refine wl_val (rn_move (by conv => lhs; whnf)) ?_
    refine wl_val (rn_move (by conv => lhs; whnf)) ?_
    refine wl_val (rn_slen us_9 rfl) ?_
    refine wl_val (rn_add rfl rfl (by omega)) ?_
    refine wl_val (Rn.cast (rn_min2 rfl rfl) (v' := .int .i64 ((s.count 32 + 1 : Nat) : Int)) (congrArg (Value.int .i64) (by split <;> omega))) ?_
    refine wl_val (rn_assign (by conv => lhs; whnf)) ?_
    refine wl_nil ?_
    refine W_seq ?_
    refine W_region ?_
    refine wl_val (rn_move (by conv => lhs; whnf)) ?_
    refine wl_make sl_68 rfl rfl rfl (by omega) (by simp only [big]; omega) ?_; intro w2 b31 hb31 hE2 hO31
    have hq31 : w.heap.size ≤ b31 := Nat.le_trans hX.size hb31
    rw [make_fill] at hO31
    replace hX := hX.tr hE2
    refine wl_val (rn_assign (by conv => lhs; whnf)) ?_
    refine wl_nil ?_
    refine W_seq ?_
    refine W_region ?_
    refine wl_val (rn_move (by conv => lhs; whnf)) ?_
    refine wl_val (Rn.cast (rn_sub rfl rfl (by omega)) (v' := .int .i64 (s.count 32 : Nat)) (congrArg (Value.int .i64) (by omega))) ?_
    refine wl_val (rn_assign (by conv => lhs; whnf)) ?_
    refine wl_nil ?_
    refine W_seq ?_
    refine W_region ?_
    refine wl_val (rn_assign (by conv => lhs; whnf)) ?_
    refine wl_nil ?_
    refine W_seq ?_
    refine W_block ?_   -- block 0
    refine W_loopS (S := Nat × List Str × Str) [0, 1, 2, 3, 9, 10] (fun ⟨i, done, r⟩ => [Sv r, Sv [32], .int .i64 0, .int .i64 (s.count 32 : Nat), .slice (some ⟨b31, 0, none⟩) (s.count 32 + 1) (s.count 32 + 1), .int .i64 (i : Nat)]) (fun ⟨i, done, r⟩ A => (Ext Non w A) ∧ (i ≤ s.count 32 ∧ i = done.length ∧ spl 32 s = done ++ spl 32 r ∧ r.length ≤ 1000000 ∧ Ow A (.slice (some ⟨b31, 0, none⟩) (s.count 32 + 1) (s.count 32 + 1)) b31 1 ((done ++ List.replicate (s.count 32 + 1 - i) []).map eS1) [])) (fun ⟨i, done, r⟩ => s.count 32 - i) (0, [], s) ⟨rfl, rfl, rfl, rfl, rfl, rfl, trivial⟩ ⟨hX, ⟨Nat.zero_le _, rfl, rfl, hn, hO31⟩⟩ ?_
    rintro τ0 ⟨i, done, r⟩ A0 ⟨hX, hI0⟩
    obtain ⟨hI, hdl, hsp, hrn, hO⟩ := hI0
    refine W_seq ?_
    refine W_seq ?_
    refine W_region ?_
    refine wl_val (rn_move (by conv => lhs; whnf)) ?_
    refine wl_val (rn_move (by conv => lhs; whnf)) ?_
    refine wl_val (rn_lss rfl rfl) ?_
    refine wl_nil ?_
    refine W_cond rfl (fun hc3 => ?_) (fun hc3 => ?_)
    · have hlt := of_decide_eq_true hc3; simp only [Int.ofNat_lt] at hlt
      have hmem : (32 : UInt8) ∈ r := by apply Classical.byContradiction; intro hno; have := spl_not hno; have h2 := congrArg List.length hsp; rw [spl_len, List.length_append, this] at h2; simp only [List.length_cons, List.length_nil] at h2; omega
      have hfi := fi_in hmem
      have hplt : (pre1 32 r).length < r.length := (List.getElem?_eq_some_iff.1 (pre1_mem hmem)).1
      refine W_skip ?_
      refine W_block ?_   -- block 1
      refine W_seq ?_
      refine W_region ?_
      refine wl_val (rn_move (by conv => lhs; whnf)) ?_
      refine wl_val (rn_move (by conv => lhs; whnf)) ?_
      refine wl_call e_181 rfl (sindex_ok A0 r 32) ?_; intro v39 w3 hE3 hR3
      replace hX := hX.tr hE3
      replace hO := hO.ext hE3 id
      subst hR3
      refine wl_val (rn_assign (by conv => lhs; whnf)) ?_
      refine wl_nil ?_
      refine W_seq ?_
      refine W_seq ?_
      refine W_region ?_
      refine wl_val (rn_move (by conv => lhs; whnf)) ?_
      refine wl_val (rn_lss rfl rfl) ?_
      refine wl_nil ?_
      refine W_cond rfl (fun hc4 => ?_) (fun hc4 => ?_)
      · exact absurd (of_decide_eq_true hc4) (by have := (fi_ge r 32).2 hmem; omega)
      · refine W_skip ?_
        refine W_seq ?_
        refine W_region ?_
        refine wl_val (rn_move (by conv => lhs; whnf)) ?_
        refine wl_val (rn_move (by conv => lhs; whnf)) ?_
        refine wl_val (rn_move (by conv => lhs; whnf)) ?_
        refine wl_val (rn_move (by conv => lhs; whnf)) ?_
        refine wl_val (rn_move (by conv => lhs; whnf)) ?_
        refine wl_val (Rn.cast (rn_add rfl rfl (by omega)) (v' := .int .i64 ((pre1 32 r).length : Nat)) (congrArg (Value.int .i64) (by rw [hfi]; omega))) ?_
        refine wl_val (Rn.cast (rn_sslice us_9 (l := 0) (h := (pre1 32 r).length) rfl rfl ⟨_, rfl⟩ (by omega) (by omega)) (v' := Sv (pre1 32 r)) (congrArg Sv (by rw [List.drop_zero, Nat.sub_zero, pre1_take]))) ?_
        refine wl_val (rn_indexAddr sl_68 rfl rfl (by omega)) ?_
        refine wl_storeE p_9 (i := i) (u := Sv (pre1 32 r)) rfl rfl rfl rfl hO (by simp only [List.length_map, List.length_append, List.length_replicate]; omega) ?_; intro w4 hE4 hO
        replace hX := hX.mine hE4 (.inr hq31)
        rw [show s.count 32 + 1 - i = (s.count 32 + 1 - (i + 1)) + 1 by omega, hdl, set_fill, ← hdl] at hO
        refine wl_nil ?_
        refine W_seq ?_
        refine W_region ?_
        refine wl_val (rn_move (by conv => lhs; whnf)) ?_
        refine wl_val (rn_move (by conv => lhs; whnf)) ?_
        refine wl_val (rn_move (by conv => lhs; whnf)) ?_
        refine wl_val (rn_slen us_9 rfl) ?_
        refine wl_val (Rn.cast (rn_add rfl rfl (by simp only [List.length_singleton]; omega)) (v' := .int .i64 (((pre1 32 r).length + 1 : Nat) : Int)) (congrArg (Value.int .i64) (by rw [hfi]; simp))) ?_
        refine wl_val (Rn.cast (rn_sslice us_9 (l := (pre1 32 r).length + 1) (h := r.length) rfl ⟨_, rfl⟩ rfl (by omega) (by omega)) (v' := Sv (r.drop ((pre1 32 r).length + 1))) (congrArg Sv (List.take_of_length_le (by rw [List.length_drop]; exact Nat.le_refl _)))) ?_
        refine wl_val (rn_assign (by conv => lhs; whnf)) ?_
        refine wl_nil ?_
        refine W_region ?_
        refine wl_val (rn_move (by conv => lhs; whnf)) ?_
        refine wl_val (rn_add rfl rfl (by omega)) ?_
        refine wl_val (rn_assign (by conv => lhs; whnf)) ?_
        refine wl_nil ?_
        exact ⟨rfl, (i + 1, done ++ [pre1 32 r], r.drop ((pre1 32 r).length + 1)), ⟨rfl, rfl, rfl, rfl, rfl, rfl, trivial⟩, ⟨hX, ⟨hlt, by simp [hdl], by rw [hsp, spl_cut hmem]; simp, by rw [List.length_drop]; omega, hO⟩⟩, by show s.count 32 - (i + 1) < s.count 32 - i; omega⟩
    · have hge := of_decide_eq_false hc3; simp only [Int.ofNat_lt, Nat.not_lt] at hge
      have hie : s.count 32 = i := by omega
      have hno : ¬ (32 : UInt8) ∈ r := by intro hm; have h2 := congrArg List.length hsp; rw [spl_len, List.length_append, spl_cut hm, List.length_cons] at h2; have := List.length_pos_iff.2 (spl_ne 32 (r.drop ((pre1 32 r).length + 1))); omega
      rw [spl_not hno] at hsp
      refine W_exit ?_   -- exit 0
      refine W_seq ?_
      refine W_region ?_
      refine wl_val (rn_move (by conv => lhs; whnf)) ?_
      refine wl_val (rn_move (by conv => lhs; whnf)) ?_
      refine wl_val (rn_move (by conv => lhs; whnf)) ?_
      refine wl_val (rn_indexAddr sl_68 rfl rfl (by omega)) ?_
      refine wl_storeE p_9 (i := i) (u := Sv r) rfl rfl rfl rfl hO (by simp only [List.length_map, List.length_append, List.length_replicate]; omega) ?_; intro w5 hE5 hO
      replace hX := hX.mine hE5 (.inr hq31)
      rw [show s.count 32 + 1 - i = 0 + 1 by omega, hdl, set_fill] at hO
      refine wl_nil ?_
      refine W_seq ?_
      refine W_region ?_
      refine wl_val (rn_move (by conv => lhs; whnf)) ?_
      refine wl_val (rn_move (by conv => lhs; whnf)) ?_
      refine wl_val (rn_add rfl rfl (by omega)) ?_
      refine wl_val (rn_slice0 sl_68 (h := i + 1) (m := s.count 32 + 1) rfl rfl ⟨_, rfl⟩ rfl (by simp) (by omega) (by omega)) ?_
      refine wl_val (rn_assign (by conv => lhs; whnf)) ?_
      refine wl_nil ?_
      refine W_ret ?_
      exact ⟨_, resR1 (res1_tmp rfl), hX, by have h := (hO.sl (M := Non) id); rw [hsp]; simp only [List.replicate_zero, List.append_nil] at h; rw [hie] at h; show Sl Non _ (.slice (some ⟨b31, 0, none⟩) (i + 1) (s.count 32 + 1)) 1 _; rw [hie]; exact h⟩
-- strings.Split
theorem split_ok (w : World) (s : Str) (hn : s.length ≤ 1000000) : Fn Tryd.prog 97 #[Sv s, Sv [32]] w fun u w' => Sl Non w' u 1 ((spl 32 s).map eS1) := by
  have hX := Ext.refl Non w
  refine fn_of_W (args := [_, _]) Tryd.func97 rfl (by kernel_rfl) rfl ?_
  refine W_seq ?_
  refine W_region ?_
  refine wl_val (rn_assign (by conv => lhs; whnf)) ?_
  refine wl_nil ?_
  refine W_seq ?_
  refine W_region ?_
  refine wl_val (rn_move (by conv => lhs; whnf)) ?_
  refine wl_val (rn_move (by conv => lhs; whnf)) ?_
  refine wl_call e_145 rfl (genSplit_ok w s hn) ?_; intro v7 w1 hE1 hR1
  replace hX := hX.tr hE1
  have hS7 := hR1
  refine wl_val (rn_assign (by conv => lhs; whnf)) ?_
  refine wl_nil ?_
  refine W_ret ?_
  exact ⟨_, resR1 (res1_tmp rfl), hX, hS7⟩
end Go.Proofs.YthcclgoidchkdaaDoorC

/- Numbers read: the library's and the document's; an operation's fields from words. -/
set_option linter.unusedVariables false
set_option linter.unusedSimpArgs false
set_option maxRecDepth 100000
namespace Go.Proofs.YthcclgoidchkdaaDoorC
open Go.RowKit Go.Shelf
def Tryd.laysC172_ren : Go.Shelf.Ren := ⟨fun | 172 => 147 | 244 => 182 | 245 => 142 | 247 => 215 | 279 => 173 | 280 => 174 | 281 => 175 | 282 => 176 | 287 => 141 | 316 => 205 | 171 => 93 | 205 => 206 | 321 => 171 | 322 => 172 | 243 => 143 | 246 => 177 | 283 => 207 | 284 => 208 | 285 => 209 | 286 => 210 | 129 => 228 | 317 => 227 | 318 => 229 | 319 => 230 | 320 => 231 | 337 => 235 | 338 => 236 | n => n, fun | 9 => 9 | 3 => 3 | 75 => 146 | 76 => 166 | 4 => 4 | 5 => 5 | 167 => 220 | 37 => 23 | 0 => 0 | 85 => 254 | 2 => 2 | 168 => 222 | 53 => 150 | 175 => 151 | 46 => 148 | 210 => 246 | 127 => 196 | 145 => 260 | 143 => 258 | 21 => 21 | 171 => 248 | 173 => 251 | 212 => 262 | 51 => 263 | 20 => 20 | 213 => 264 | 232 => 275 | 233 => 276 | 80 => 149 | n => n, fun | 15 => 0 | 16 => 1 | 17 => 2 | 18 => 6 | 19 => 7 | n => n⟩
theorem Tryd.laysC172 : Go.Proofs.LaysC.n172 Tryd.prog Tryd.laysC172_ren := {
  mixed := by kernel_rfl
  f129 := Tryd.func228.trans (congrArg some (by kernel_rfl))
  f171 := Tryd.func93.trans (congrArg some (by kernel_rfl))
  f172 := Tryd.func147.trans (congrArg some (by kernel_rfl))
  f205 := Tryd.func206.trans (congrArg some (by kernel_rfl))
  f243 := Tryd.func143.trans (congrArg some (by kernel_rfl))
  f244 := Tryd.func182.trans (congrArg some (by kernel_rfl))
  f245 := Tryd.func142.trans (congrArg some (by kernel_rfl))
  f246 := Tryd.func177.trans (congrArg some (by kernel_rfl))
  f247 := Tryd.func215.trans (congrArg some (by kernel_rfl))
  f279 := Tryd.func173.trans (congrArg some (by kernel_rfl))
  f280 := Tryd.func174.trans (congrArg some (by kernel_rfl))
  f281 := Tryd.func175.trans (congrArg some (by kernel_rfl))
  f282 := Tryd.func176.trans (congrArg some (by kernel_rfl))
  f283 := Tryd.func207.trans (congrArg some (by kernel_rfl))
  f284 := Tryd.func208.trans (congrArg some (by kernel_rfl))
  f285 := Tryd.func209.trans (congrArg some (by kernel_rfl))
  f286 := Tryd.func210.trans (congrArg some (by kernel_rfl))
  f287 := Tryd.func141.trans (congrArg some (by kernel_rfl))
  f316 := Tryd.func205.trans (congrArg some (by kernel_rfl))
  f317 := Tryd.func227.trans (congrArg some (by kernel_rfl))
  f318 := Tryd.func229.trans (congrArg some (by kernel_rfl))
  f319 := Tryd.func230.trans (congrArg some (by kernel_rfl))
  f320 := Tryd.func231.trans (congrArg some (by kernel_rfl))
  f321 := Tryd.func171.trans (congrArg some (by kernel_rfl))
  f322 := Tryd.func172.trans (congrArg some (by kernel_rfl))
  f337 := Tryd.func235.trans (congrArg some (by kernel_rfl))
  f338 := Tryd.func236.trans (congrArg some (by kernel_rfl))
  t0 := Tryd.underlying0
  a0 := Tryd.isAgg0
  z0 := Tryd.sizeOf0
  v0 := Tryd.zeroValue0
  t2 := Tryd.underlying2
  a2 := Tryd.isAgg2
  z2 := Tryd.sizeOf2
  v2 := Tryd.zeroValue2
  t3 := Tryd.underlying3
  a3 := Tryd.isAgg3
  z3 := Tryd.sizeOf3
  v3 := Tryd.zeroValue3
  t4 := Tryd.underlying4
  a4 := Tryd.isAgg4
  z4 := Tryd.sizeOf4
  v4 := Tryd.zeroValue4
  t5 := Tryd.underlying5
  a5 := Tryd.isAgg5
  z5 := Tryd.sizeOf5
  v5 := Tryd.zeroValue5
  t9 := Tryd.underlying9
  a9 := Tryd.isAgg9
  z9 := Tryd.sizeOf9
  v9 := Tryd.zeroValue9
  t20 := Tryd.underlying20
  a20 := Tryd.isAgg20
  z20 := Tryd.sizeOf20
  v20 := Tryd.zeroValue20
  t21 := Tryd.underlying21
  a21 := Tryd.isAgg21
  z21 := Tryd.sizeOf21
  v21 := Tryd.zeroValue21
  t37 := Tryd.underlying23
  a37 := Tryd.isAgg23
  z37 := Tryd.sizeOf23
  v37 := Tryd.zeroValue23
  t46 := Tryd.underlying148
  a46 := Tryd.isAgg148
  z46 := Tryd.sizeOf148
  v46 := Tryd.zeroValue148
  t51 := Tryd.underlying263
  a51 := Tryd.isAgg263
  z51 := Tryd.sizeOf263
  v51 := Tryd.zeroValue263
  t53 := Tryd.underlying150
  a53 := Tryd.isAgg150
  z53 := Tryd.sizeOf150
  v53 := Tryd.zeroValue150
  t75 := Tryd.underlying146
  a75 := Tryd.isAgg146
  z75 := Tryd.sizeOf146
  v75 := Tryd.zeroValue146
  t76 := Tryd.underlying166
  a76 := Tryd.isAgg166
  z76 := Tryd.sizeOf166
  v76 := Tryd.zeroValue166
  t85 := Tryd.underlying254
  a85 := Tryd.isAgg254
  z85 := Tryd.sizeOf254
  v85 := Tryd.zeroValue254
  t127 := Tryd.underlying196
  a127 := Tryd.isAgg196
  z127 := Tryd.sizeOf196
  v127 := Tryd.zeroValue196
  t143 := Tryd.underlying258
  a143 := Tryd.isAgg258
  z143 := Tryd.sizeOf258
  v143 := Tryd.zeroValue258
  t145 := Tryd.underlying260
  a145 := Tryd.isAgg260
  z145 := Tryd.sizeOf260
  v145 := Tryd.zeroValue260
  t167 := Tryd.underlying220
  a167 := Tryd.isAgg220
  z167 := Tryd.sizeOf220
  v167 := Tryd.zeroValue220
  t168 := Tryd.underlying222
  a168 := Tryd.isAgg222
  z168 := Tryd.sizeOf222
  v168 := Tryd.zeroValue222
  t171 := Tryd.underlying248
  a171 := Tryd.isAgg248
  z171 := Tryd.sizeOf248
  v171 := Tryd.zeroValue248
  t173 := Tryd.underlying251
  a173 := Tryd.isAgg251
  z173 := Tryd.sizeOf251
  v173 := Tryd.zeroValue251
  t175 := Tryd.underlying151
  a175 := Tryd.isAgg151
  z175 := Tryd.sizeOf151
  v175 := Tryd.zeroValue151
  t210 := Tryd.underlying246
  a210 := Tryd.isAgg246
  z210 := Tryd.sizeOf246
  v210 := Tryd.zeroValue246
  t212 := Tryd.underlying262
  a212 := Tryd.isAgg262
  z212 := Tryd.sizeOf262
  v212 := Tryd.zeroValue262
  t213 := Tryd.underlying264
  a213 := Tryd.isAgg264
  z213 := Tryd.sizeOf264
  t232 := Tryd.underlying275
  a232 := Tryd.isAgg275
  z232 := Tryd.sizeOf275
  v232 := Tryd.zeroValue275
  t233 := Tryd.underlying276
  a233 := Tryd.isAgg276
  z233 := Tryd.sizeOf276
  v233 := Tryd.zeroValue276
  g15 := by kernel_rfl
  g16 := by kernel_rfl
  g17 := by kernel_rfl
  g18 := by kernel_rfl
  g19 := by kernel_rfl
  t80 := Tryd.underlying149
  a80 := Tryd.isAgg149
  z80 := Tryd.sizeOf149
  v80 := Tryd.zeroValue149
  i0 := by kernel_rfl
  i2 := by kernel_rfl
  i3 := by kernel_rfl
  i4 := by kernel_rfl
  i5 := by kernel_rfl
  i9 := by kernel_rfl
  i20 := by kernel_rfl
  i21 := by kernel_rfl
  i37 := by kernel_rfl
  i46 := by kernel_rfl
  i51 := by kernel_rfl
  i53 := by kernel_rfl
  i75 := by kernel_rfl
  i76 := by kernel_rfl
  i80 := by kernel_rfl
  i85 := by kernel_rfl
  i127 := by kernel_rfl
  i143 := by kernel_rfl
  i145 := by kernel_rfl
  i167 := by kernel_rfl
  i168 := by kernel_rfl
  i171 := by kernel_rfl
  i173 := by kernel_rfl
  i175 := by kernel_rfl
  i210 := by kernel_rfl
  i212 := by kernel_rfl
  i232 := by kernel_rfl
  i233 := by kernel_rfl
  m15 := by kernel_rfl
  m16 := by kernel_rfl
  m17 := by kernel_rfl
  m18 := by kernel_rfl
  m19 := by kernel_rfl
  c0 := by kernel_rfl
  c2 := by kernel_rfl
  c3 := by kernel_rfl
  c4 := by kernel_rfl
  c5 := by kernel_rfl
  c9 := by kernel_rfl
  c20 := by kernel_rfl
  c21 := by kernel_rfl
  c37 := by kernel_rfl
  c46 := by kernel_rfl
  c51 := by kernel_rfl
  c53 := by kernel_rfl
  c75 := by kernel_rfl
  c76 := by kernel_rfl
  c80 := by kernel_rfl
  c85 := by kernel_rfl
  c127 := by kernel_rfl
  c143 := by kernel_rfl
  c145 := by kernel_rfl
  c167 := by kernel_rfl
  c168 := by kernel_rfl
  c171 := by kernel_rfl
  c173 := by kernel_rfl
  c175 := by kernel_rfl
  c210 := by kernel_rfl
  c212 := by kernel_rfl
  c213 := by kernel_rfl
  c232 := by kernel_rfl
  c233 := by kernel_rfl }

theorem digitVal_yes {c : UInt8} (h : 48 ≤ c.toNat ∧ c.toNat ≤ 57) : Lib.digitVal c = some (c.toNat - 48) := if_pos h
theorem digitVal_no {c : UInt8} (h : ¬ (48 ≤ c.toNat ∧ c.toNat ≤ 57)) : Lib.digitVal c = none := if_neg h
theorem decFrom_at {s : Str} {i n : Nat} {c : UInt8} (h : s[i]? = some c) : Lib.decFrom n (s.drop i) = match Lib.digitVal c with | some d => Lib.decFrom (n * 10 + d) (s.drop (i + 1)) | none => none := by rw [drop_at h]; rfl
/-- What the library's Atoi answers. -/
def AT (s : Str) (n : Int) (e : Value) : Prop := (e = .nilIface ∧ Lib.atoiAll s = .ok n) ∨ ((∃ t z, e = .iface t z) ∧ ∀ m, Lib.atoiAll s ≠ .ok m)
theorem AT.is {s : Str} {n : Int} {e : Value} (h : AT s n e) : IsE e := by rcases h with ⟨h, _⟩ | ⟨h, _⟩; exact .inl h; exact .inr h
theorem atoi_ok (w : World) (s : Str) (hn : s.length ≤ 1000000) (hS : ErrS w) : Fn Tryd.prog 147 #[Sv s] w fun u w' => ∃ n e, u = .tuple #[.int .i64 n, e] ∧ AT s n e := by
  have hl : (⟨s.toArray⟩ : ByteArray).data.toList = s := by simp
  have hz : (⟨s.toArray⟩ : ByteArray).size = s.length := by simp [ByteArray.size]
  obtain ⟨⟨t0, p0, h0⟩, t1, p1, h1⟩ := hS
  cases h : Lib.atoiAll s with
  | ok v =>
    refine Calls.mono (Any.strconv_Atoi_ok Tryd.laysC172 ⟨s.toArray⟩ (by rw [hz]; omega) v (by rw [hl]; exact h) w) fun e w' hx => ?_
    obtain ⟨e1, e2⟩ := hx
    refine ⟨_, e1, ?_, v, _, rfl, .inl ⟨rfl, h⟩⟩
    rcases e2 with rfl | ⟨t, rfl⟩
    · exact Ext.refl _ _
    · exact Ext.of_below (Lib.bytesWorld_below _ _ _)
  | _ =>
    first
    | refine Calls.mono (Any.strconv_Atoi_syntax Tryd.laysC172 ⟨s.toArray⟩ (by rw [hz]; omega) (by rw [hl]; exact h) _ w h0 (.inr ⟨_, _, rfl⟩)) fun e w' hx => ?_
      obtain ⟨N, e1, _, _, e2⟩ := hx
      exact ⟨_, e1, Ext.of_below e2, _, _, rfl, .inr ⟨⟨_, _, rfl⟩, fun m hm => by rw [h] at hm; cases hm⟩⟩
    | refine Calls.mono (Any.strconv_Atoi_range Tryd.laysC172 ⟨s.toArray⟩ (by rw [hz]; omega) (by rw [hl]; exact h) _ w h1 (.inr ⟨_, _, rfl⟩)) fun e w' hx => ?_
      obtain ⟨N, e1, _, _, e2⟩ := hx
      exact ⟨_, e1, Ext.of_below e2, _, _, rfl, .inr ⟨⟨_, _, rfl⟩, fun m hm => by rw [h] at hm; cases hm⟩⟩
end Go.Proofs.YthcclgoidchkdaaDoorC

/- An operation's fields from words. -/
set_option linter.unusedVariables false
set_option linter.unusedSimpArgs false
set_option maxRecDepth 100000
namespace Go.Proofs.YthcclgoidchkdaaDoorC
open Go.RowKit
theorem two_of {l : List Str} (h : l.length = 2) : ∃ a b, l = [a, b] := match l, h with | [a, b], _ => ⟨a, b, rfl⟩
theorem one_of {a : Str} {r : List Str} (h : (a :: r).length = 2) : ∃ b, r = [b] := match r, h with | [b], _ => ⟨b, rfl⟩
end Go.Proofs.YthcclgoidchkdaaDoorC

/- The operation of a line: the program's. -/
set_option linter.unusedVariables false
set_option linter.unusedSimpArgs false
set_option maxRecDepth 100000
namespace Go.Proofs.YthcclgoidchkdaaDoorC
open Go.RowKit
theorem sl_up {w : World} {v : Value} {k : Nat} {rows : List (List Value)} (h : Sl Non w v k rows) {n : Nat} (hn : n = w.heap.size) : Sl (fun i => n ≤ i) w v k rows := h.sub fun i h1 h2 => by omega
theorem word_ge (s : Str) : s.length ≤ (wordR s).length := by
  have h : ∀ t : Str, t.length ≤ (wordL t).length := fun t => by induction t with
    | nil => exact Nat.le_refl _
    | cons c t ih =>
      have : 1 ≤ (wordB c).length := by unfold wordB; split <;> simp
      simp only [wordL, List.length_append, List.length_cons]; omega
  unfold wordR
  split
  · rename_i e; rw [e]; simp
  · exact h s
theorem unR_len {w s : Str} (h : unR w = some s) : s.length ≤ w.length := by have := word_ge s; rw [word_unR h] at this; exact this
end Go.Proofs.YthcclgoidchkdaaDoorC

/- The operation of a line: what the document reads is what the program takes; plain. -/
set_option linter.unusedVariables false
set_option linter.unusedSimpArgs false
set_option maxRecDepth 100000
namespace Go.Proofs.YthcclgoidchkdaaDoorC
open Go.RowKit
theorem join_cons2 (x y : Str) (r : List Str) : Lib.join (x :: y :: r) [32] = x ++ 32 :: Lib.join (y :: r) [32] := by
  rw [Lib.join_cons, Lib.join_cons]; simp [Lib.joinTail]
theorem line_spl : ∀ s : Str, Lib.join (spl 32 s) [32] = s
  | [] => rfl
  | c :: s => by
    have ih := line_spl s
    obtain ⟨l, r, h⟩ := spl_ex 32 s
    rw [h] at ih
    by_cases hc : c = 32
    · subst hc
      rw [spl_eq, h, join_cons2, ih]; rfl
    · rw [spl_neq hc h]
      cases r with
      | nil => rw [Lib.join_one] at ih ⊢; rw [ih]
      | cons y r => rw [join_cons2] at ih ⊢; rw [List.cons_append, ih]
end Go.Proofs.YthcclgoidchkdaaDoorC

/- The operation of a line: the document's. -/
set_option linter.unusedVariables false
set_option linter.unusedSimpArgs false
set_option maxRecDepth 100000
namespace Go.Proofs.YthcclgoidchkdaaDoorC
open Go.RowKit
theorem isSome_F {α : Type} {x : Option α} (h : x.isSome = false) : x = none := by cases x with | none => rfl | some _ => cases h
end Go.Proofs.YthcclgoidchkdaaDoorC

/- A plain operation is read from its line again; plain. -/
set_option linter.unusedVariables false
set_option linter.unusedSimpArgs false
namespace Go.Proofs.YthcclgoidchkdaaDoorC
open Go.RowKit
theorem spl_word {a s : Str} (h : ¬ (32 : UInt8) ∈ a) : spl 32 (a ++ 32 :: s) = a :: spl 32 s := by
  induction a with
  | nil => exact spl_eq 32 s
  | cons c a ih =>
    simp only [List.mem_cons, not_or] at h
    rw [List.cons_append, spl_neq (fun e => h.1 e.symm) (ih h.2)]
theorem spl_join : ∀ (l : List Str), l ≠ [] → (∀ a ∈ l, ¬ (32 : UInt8) ∈ a) → spl 32 (Lib.join l [32]) = l
  | [], h, _ => absurd rfl h
  | [a], _, h => by rw [Lib.join_one]; exact spl_not (h a (by simp))
  | a :: b :: l, _, h => by
    rw [join_cons2, spl_word (h a (by simp)), spl_join (b :: l) (by simp) (fun x hx => h x (List.mem_cons_of_mem _ hx))]
theorem hexd_nb {n : Nat} (h : n < 16) : hexd n ≠ 32 := by
  have : ∀ n : Fin 16, hexd n.val ≠ 32 := by decide +kernel
  exact this ⟨n, h⟩
theorem wordL_nb : ∀ s : Str, ¬ (32 : UInt8) ∈ wordL s
  | [] => by simp [wordL]
  | c :: s => by
    have ih := wordL_nb s
    unfold wordL wordB
    rw [List.mem_append]
    rintro (h | h)
    · split at h
      · rename_i hp
        simp only [List.mem_cons, List.not_mem_nil, or_false] at h
        subst h; revert hp; decide
      · simp only [List.mem_cons, List.not_mem_nil, or_false] at h
        rcases h with h | h | h
        · revert h; decide
        · exact hexd_nb (by have := c.toNat_lt; omega) h.symm
        · exact hexd_nb (Nat.mod_lt _ (by decide)) h.symm
    · exact ih h
theorem wordR_nb (s : Str) : ¬ (32 : UInt8) ∈ wordR s := by
  unfold wordR; split
  · decide
  · exact wordL_nb s
theorem dec_nb (n : Nat) : ¬ (32 : UInt8) ∈ Lib.decDigits n := fun h => dec_noblank n 32 h rfl
theorem lineR_len {x : OpD} (h : plainR x = true) : (lineR x).length ≤ 3 * x.text.length + 3 * x.payload.length + 20 := by
  have hp := (plain_iff x).1 h
  have h1 := wordR_len x.text; have h2 := wordR_len x.payload; have h3 := name_len x
  have hsub : 0 ≤ x.sub ∧ x.sub ≤ 9999 := by rcases hp with ⟨_, h⟩ | ⟨_, h, h2, _⟩ | ⟨_, h, h2, _⟩; omega; exact ⟨h, h2⟩; exact ⟨h, h2⟩
  have h4 : (Lib.itoa x.sub).length ≤ 4 := by rw [itoa_sub hsub.1]; exact dec_len (by omega)
  unfold lineR wordsR
  split
  · rw [join3]; simp only [List.length_append, List.length_cons]; omega
  · split
    · rw [join3]; simp only [List.length_append, List.length_cons]; omega
    · rw [join2]; simp only [List.length_append, List.length_cons]; omega
end Go.Proofs.YthcclgoidchkdaaDoorC

/- Layer 19: the laws. -/
set_option linter.unusedVariables false
set_option linter.unusedSimpArgs false
set_option maxRecDepth 100000
namespace Go.Proofs.YthcclgoidchkdaaDoorC
open Go.RowKit
end Go.Proofs.YthcclgoidchkdaaDoorC

/- Layer 19: OpLines. -/
set_option linter.unusedVariables false
set_option linter.unusedSimpArgs false
set_option maxRecDepth 100000
namespace Go.Proofs.YthcclgoidchkdaaDoorC
open Go.RowKit
end Go.Proofs.YthcclgoidchkdaaDoorC
