/- Texts: where a byte stands, what lies ahead of it; the library's search for a byte, in the calculus. -/
import Derived.Test.YthcclgoidchkdaaGreatDoorBunZ3
import Derived.Laws.Externs
import Derived.Lib.Bytealg
import Derived.Laws.IdiomStrings
import Derived.Test.YthcclgoidchkdaaGreatDoorBunZ2
set_option linter.unusedVariables false
set_option linter.unusedSimpArgs false
namespace Go.Proofs.YthcclgoidchkdaaGreatDoorC
open Go.RowKit
/-- What lies ahead of the first byte c. -/
def pre1 (c : UInt8) (s : Str) : Str := s.takeWhile (fun x => !(x == c))
/-- The place of the first byte c, or -1. -/
def fi (s : Str) (c : UInt8) : Int := if c ∈ s then ((pre1 c s).length : Int) else -1
theorem pre1_mem {c : UInt8} : ∀ {s : Str}, c ∈ s → s[(pre1 c s).length]? = some c
  | [], h => by cases h
  | y :: s, h => by
    unfold pre1
    rw [List.takeWhile_cons]
    by_cases e : y = c
    · subst e; simp
    · have h2 : c ∈ s := by rcases List.mem_cons.1 h with h | h; exact absurd h.symm e; exact h
      have := pre1_mem h2
      unfold pre1 at this
      simp [e, this]
theorem pre1_take (c : UInt8) : ∀ (s : Str), s.take (pre1 c s).length = pre1 c s
  | [] => rfl
  | y :: s => by
    have := pre1_take c s
    unfold pre1 at *
    rw [List.takeWhile_cons]
    split
    · simp [this]
    · simp
theorem pre1_ne {c : UInt8} : ∀ {s : Str} {x : UInt8}, x ∈ pre1 c s → x ≠ c
  | [], x, h => by simp [pre1] at h
  | y :: s, x, h => by
    unfold pre1 at h
    rw [List.takeWhile_cons] at h
    split at h
    · rename_i hy
      rcases List.mem_cons.1 h with e | h
      · subst e; simpa using hy
      · exact pre1_ne (s := s) h
    · cases h
theorem pre1_lt {c : UInt8} {s : Str} {i : Nat} {x : UInt8} (hi : i < (pre1 c s).length) (hx : s[i]? = some x) : x ≠ c := by
  have h1 : (pre1 c s)[i]? = some x := by rw [← pre1_take c s, List.getElem?_take_of_lt hi, hx]
  have h2 : x ∈ pre1 c s := List.mem_of_getElem? h1
  exact pre1_ne h2
theorem get_str! (s : Str) (i : Nat) (h : i < s.length) : (ByteArray.mk s.toArray)[i]! = s[i] := by
  have h1 : i < (ByteArray.mk s.toArray).size := by simpa [ByteArray.size] using h
  rw [getElem!_pos _ i h1]; rfl
theorem firstIdx_fi (s : Str) (c : UInt8) : firstIdx ⟨s.toArray⟩ c = fi s c := by
  unfold firstIdx fi
  have hsz : (ByteArray.mk s.toArray).size = s.length := by simp [ByteArray.size]
  rw [hsz]
  by_cases hc : c ∈ s
  · rw [if_pos hc]
    have h1 := pre1_mem hc
    have hlt : (pre1 c s).length < s.length := (List.getElem?_eq_some_iff.1 h1).1
    have : (List.range s.length).find? (fun i => (ByteArray.mk s.toArray)[i]! == c) = some (pre1 c s).length := by
      rw [List.find?_range_eq_some]
      refine ⟨?_, by simpa using hlt, fun j hj => ?_⟩
      · rw [get_str! s _ hlt]
        have := (List.getElem?_eq_some_iff.1 h1).2
        simp [this]
      · have hj' : j < s.length := by omega
        rw [get_str! s j hj']
        have := pre1_lt hj (List.getElem?_eq_getElem hj')
        simpa using this
    rw [this]
  · rw [if_neg hc]
    have : (List.range s.length).find? (fun i => (ByteArray.mk s.toArray)[i]! == c) = none := by
      rw [List.find?_eq_none]
      intro i hi
      have hi' : i < s.length := by simpa using hi
      rw [get_str! s i hi']
      intro e
      have : s[i] = c := by simpa using e
      exact hc (this ▸ List.getElem_mem hi')
    rw [this]
/-- Function f is the library's search for a byte. -/
structure IB (P : Program) (f : FuncId) : Prop where
  ex : ∃ fn, P.funcs[f]? = some fn ∧ (fn.name == "runtime.NumGoroutine") = false ∧ fn.body.isNone = true ∧ Extern.findNext fn = none ∧ Extern.find fn = some Extern.BytealgIndexByte.indexByte
section
variable {P : Program} {σ : Env} {w : World} {dst : Option Nat} {ty : TypeId} {pos : String} {af : Array Edge} {g : Option (Nat × Bool)}
theorem rn_indexByte {f : FuncId} {ts : Array TypeId} {x y : Operand} {s : Str} {c : UInt8} (hib : IB P f)
    (hx : ev σ x = Sv s) (hy : ev σ y = .int .u8 c.toNat) : Rn P σ w ⟨dst, .call ⟨.value (.func f), #[x, y], ts⟩, ty, pos, af, g⟩ (.int .i64 (fi s c)) := by
  show (execOp (ev σ) _).run P w = _
  obtain ⟨fn, hf, hname, hb, hn, he⟩ := hib.ex
  have h1 := run_callFunc_extern hf hname hb hn he #[Sv s, .int .u8 c.toNat] w
  have h2 := run_indexByte_string (P := P) ⟨s.toArray⟩ (c.toNat : Int) w
  have h3 : ((c.toNat : Int)).toNat.toUInt8 = c := by simp
  rw [h3, firstIdx_fi] at h2
  have h4 : (callFunc f #[Sv s, .int .u8 c.toNat]).run P w = .ok (.value (.int .i64 (fi s c))) w := by rw [h1, h2]; rfl
  simp only [execOp, resolve, Sem.run_bind, Sem.run_pure, Result.andThen_ok]
  have hargs : (#[x, y] : Array Operand).map (ev σ) = #[Sv s, .int .u8 c.toNat] := by simp [hx, hy]
  rw [hargs]
  simp only [ev, Deferred.ofValue, Sem.run_pure, Result.andThen_ok, invoke]
  simpa using h4
end
/-- Function f is the library's count of a byte. -/
structure CB (P : Program) (f : FuncId) : Prop where
  ex : ∃ fn, P.funcs[f]? = some fn ∧ (fn.name == "runtime.NumGoroutine") = false ∧ fn.body.isNone = true ∧ Extern.findNext fn = none ∧ Extern.find fn = some Extern.BytealgCount.count
section
variable {P : Program} {σ : Env} {w : World} {dst : Option Nat} {ty : TypeId} {pos : String} {af : Array Edge} {g : Option (Nat × Bool)}
theorem rn_countString {f : FuncId} {ts : Array TypeId} {x y : Operand} {s : Str} {c : UInt8} (hib : CB P f)
    (hx : ev σ x = Sv s) (hy : ev σ y = .int .u8 c.toNat) : Rn P σ w ⟨dst, .call ⟨.value (.func f), #[x, y], ts⟩, ty, pos, af, g⟩ (.int .i64 (s.count c : Nat)) := by
  show (execOp (ev σ) _).run P w = _
  obtain ⟨fn, hf, hname, hb, hn, he⟩ := hib.ex
  have h1 := run_callFunc_extern hf hname hb hn he #[Sv s, .int .u8 c.toNat] w
  have h2 := Lib.run_countString (P := P) ⟨s.toArray⟩ (c.toNat : Int) w
  have h3 : ((c.toNat : Int)).toNat.toUInt8 = c := by simp
  rw [h3] at h2
  unfold Lib.countByte at h2
  have h4 : (callFunc f #[Sv s, .int .u8 c.toNat]).run P w = .ok (.value (.int .i64 (s.count c : Nat))) w := by rw [h1, h2]; rfl
  simp only [execOp, resolve, Sem.run_bind, Sem.run_pure, Result.andThen_ok]
  have hargs : (#[x, y] : Array Operand).map (ev σ) = #[Sv s, .int .u8 c.toNat] := by simp [hx, hy]
  rw [hargs]
  simp only [ev, Deferred.ofValue, Sem.run_pure, Result.andThen_ok, invoke]
  simpa using h4
end
section
variable {P : Program} {σ : Env} {w : World} {ty : TypeId} {pos : String} {af : Array Edge} {ops rest : List Oper} {K : Ops}
end
end Go.Proofs.YthcclgoidchkdaaGreatDoorC

/- Levels of a text, topics, filters, and which matches which: plain lists. -/
set_option linter.unusedVariables false
set_option linter.unusedSimpArgs false
namespace Go.Proofs.YthcclgoidchkdaaGreatDoorC
open Go.RowKit

/-- What stands between the bytes b. -/
def spl (b : UInt8) : Str → List Str
  | [] => [[]]
  | c :: s => if c = b then [] :: spl b s else match spl b s with
    | [] => [[c]]
    | l :: r => (c :: l) :: r
theorem spl_ne (b : UInt8) (s : Str) : spl b s ≠ [] := by
  cases s with
  | nil => simp [spl]
  | cons c s =>
    simp only [spl]; split
    · simp
    · split <;> simp
theorem spl_eq (b : UInt8) (s : Str) : spl b (b :: s) = [] :: spl b s := by simp [spl]
theorem spl_neq {b c : UInt8} {s : Str} (h : c ≠ b) {l : Str} {r : List Str} (hs : spl b s = l :: r) : spl b (c :: s) = (c :: l) :: r := by simp [spl, h, hs]
theorem spl_ex (b : UInt8) (s : Str) : ∃ l r, spl b s = l :: r := by
  cases h : spl b s with
  | nil => exact absurd h (spl_ne b s)
  | cons l r => exact ⟨l, r, rfl⟩
theorem spl_app (b : UInt8) : ∀ (p q : Str) {out : List Str} {t h : Str} {r : List Str}, spl b p = out ++ [t] → spl b q = h :: r → spl b (p ++ q) = out ++ (t ++ h) :: r
  | [], q, out, t, h, r, hp, hq => by
    cases out with
    | nil =>
      have : t = [] := by simpa [spl] using hp.symm
      subst this; simpa using hq
    | cons x xs => simp [spl] at hp
  | c :: p, q, out, t, h, r, hp, hq => by
    rw [List.cons_append]
    by_cases hc : c = b
    · subst hc
      rw [spl_eq] at hp ⊢
      cases out with
      | nil => simp at hp; exact absurd hp.2 (spl_ne c p)
      | cons x xs =>
        rw [List.cons_append, List.cons.injEq] at hp
        rw [spl_app c p q hp.2 hq, ← hp.1]; rfl
    · obtain ⟨l, rest, hs⟩ := spl_ex b p
      rw [spl_neq hc hs] at hp
      cases out with
      | nil =>
        rw [List.nil_append, List.cons.injEq] at hp
        obtain ⟨h1, h2⟩ := hp
        have := spl_app b p q (out := []) (t := l) (by rw [hs, h2]; rfl) hq
        rw [spl_neq hc (by rw [this]; rfl), ← h1]; rfl
      | cons x xs =>
        rw [List.cons_append, List.cons.injEq] at hp
        obtain ⟨h1, h2⟩ := hp
        have := spl_app b p q (out := l :: xs) (t := t) (by rw [hs, h2]; rfl) hq
        rw [spl_neq hc (by rw [this]; rfl), ← h1]; rfl
theorem spl_not {b : UInt8} : ∀ {s : Str}, ¬ b ∈ s → spl b s = [s]
  | [], _ => rfl
  | c :: s, h => by
    simp only [List.mem_cons, not_or] at h
    exact spl_neq (fun e => h.1 e.symm) (spl_not h.2)
theorem pre1_post {c : UInt8} {s : Str} (h : c ∈ s) : s = pre1 c s ++ c :: s.drop ((pre1 c s).length + 1) := by
  have h1 := pre1_mem h
  have h2 := pre1_take c s
  obtain ⟨hlt, hc⟩ := List.getElem?_eq_some_iff.1 h1
  have e : s = s.take (pre1 c s).length ++ s.drop (pre1 c s).length := (List.take_append_drop _ _).symm
  rw [h2, List.drop_eq_getElem_cons hlt, hc] at e
  exact e
theorem spl_cut {b : UInt8} {s : Str} (h : b ∈ s) : spl b s = pre1 b s :: spl b (s.drop ((pre1 b s).length + 1)) := by
  obtain ⟨l, r, hr⟩ := spl_ex b (s.drop ((pre1 b s).length + 1))
  have h1 : spl b (pre1 b s) = [] ++ [pre1 b s] := spl_not fun hm => pre1_ne hm rfl
  have := spl_app b (pre1 b s) (b :: s.drop ((pre1 b s).length + 1)) h1 (spl_eq b _)
  rw [← pre1_post h] at this
  rw [this]; simp
theorem spl_len (b : UInt8) : ∀ s : Str, (spl b s).length = s.count b + 1
  | [] => rfl
  | c :: s => by
    have ih := spl_len b s
    by_cases hc : c = b
    · subst hc; rw [spl_eq]; simp [ih]
    · obtain ⟨l', r, hs⟩ := spl_ex b s
      rw [spl_neq hc hs]; rw [hs] at ih
      rw [List.count_cons_of_ne hc, ← ih]; rfl
theorem spl_le {b : UInt8} : ∀ {s : Str} {l : Str}, l ∈ spl b s → l.length ≤ s.length
  | [], l, h => by simp [spl] at h; subst h; simp
  | c :: s, l, h => by
    by_cases hc : c = b
    · subst hc; rw [spl_eq] at h
      rcases List.mem_cons.1 h with rfl | h
      · simp
      · have := spl_le h; simp only [List.length_cons]; omega
    · obtain ⟨l', r, hs⟩ := spl_ex b s
      rw [spl_neq hc hs] at h
      rcases List.mem_cons.1 h with rfl | h
      · have := spl_le (s := s) (l := l') (by rw [hs]; exact List.mem_cons_self); simp only [List.length_cons]; omega
      · have := spl_le (s := s) (l := l) (by rw [hs]; exact List.mem_cons_of_mem _ h); simp only [List.length_cons]; omega
end Go.Proofs.YthcclgoidchkdaaGreatDoorC

/- Searching a rising list; a map's functions. -/
set_option linter.unusedVariables false
set_option linter.unusedSimpArgs false
set_option maxRecDepth 100000
namespace Go.Proofs.YthcclgoidchkdaaGreatDoorC
open Go.RowKit
def eI1 (x : Int) : List Value := [.int .i64 x]
def eS1 (x : Str) : List Value := [Sv x]
theorem eS_at {ks : List Str} {i : Nat} {x : Str} (h : ks[i]? = some x) : (ks.map eS1)[i]? = some [Sv x] := by simp [h, eS1]
end Go.Proofs.YthcclgoidchkdaaGreatDoorC

/- Iterators that range over other iterators: how it stands, by the set of the blocks that are its own; each rule holds of whatever program. -/
set_option linter.unusedVariables false
set_option linter.unusedSimpArgs false
namespace Go.Proofs.YthcclgoidchkdaaGreatDoorC
open Go.RowKit
variable {P : Program}
/-- How it stands in an iterator's walk that began in W: what is said of the rounds so far holds; w0 but M is as it was; the blocks S are its own. -/
structure Ts (M : Nat → Prop) (w0 W : World) (J : (Nat → Prop) → World → Prop) (S : Nat → Prop) (A : World) : Prop where
  stab : Stab W.heap.size J
  beg : Ext M w0 W
  ex : ∃ N, (∀ i, N i → W.heap.size ≤ i ∧ i < A.heap.size) ∧ W.heap.size ≤ A.heap.size ∧ J N A ∧ ∀ b, S b → N b
  w0 : Ext M w0 A
variable {M F : Nat → Prop} {w0 W A B : World} {J : (Nat → Prop) → World → Prop} {S S' : Nat → Prop} {bs : List Nat}
theorem Ts.less (h : Ts M w0 W J S A) (hb : ∀ b, S' b → S b) : Ts M w0 W J S' A :=
  ⟨h.stab, h.beg, by obtain ⟨N, h1, h2, h3, h4⟩ := h.ex; exact ⟨N, h1, h2, h3, fun b hb' => h4 b (hb b hb')⟩, h.w0⟩
theorem Tl.ts (h : Tl M w0 W J bs A) : Ts M w0 W J (fun i => i ∈ bs) A := ⟨h.stab, h.beg, h.ex, h.w0⟩
/-- Whatever was written lies among S; what was made is added. -/
theorem Ts.add (h : Ts M w0 W J S A) (hE : Ext F A B) (hF : ∀ i, F i → S i) : Ts M w0 W J (fun i => S i ∨ (A.heap.size ≤ i ∧ i < B.heap.size)) B := by
  obtain ⟨N, h1, h2, h3, h4⟩ := h.ex
  have hE' : Ext N A B := hE.mono fun i hi => h4 i (hF i hi)
  refine ⟨h.stab, h.beg, ⟨grow N A B, ?_, Nat.le_trans h2 hE.size, h.stab N A B (fun i hi => (h1 i hi).1) h2 h3 hE', ?_⟩, ?_⟩
  · rintro i (hi | ⟨ha, hb⟩)
    · exact ⟨(h1 i hi).1, Nat.lt_of_lt_of_le (h1 i hi).2 hE.size⟩
    · exact ⟨Nat.le_trans h2 ha, hb⟩
  · rintro b (hb | hb)
    · exact .inl (h4 b hb)
    · exact .inr hb
  · have hz := h.beg.size
    exact ⟨hE.os.trans h.w0.os, hE.tape.trans h.w0.tape, hE.output.trans h.w0.output, Nat.le_trans h.w0.size hE.size, fun i hi hm => (hE.block i (Nat.lt_of_lt_of_le hi h.w0.size) (fun hf => by have := (h1 i (h4 i (hF i hf))).1; omega)).trans (h.w0.block i hi hm)⟩
theorem Ts.ext (h : Ts M w0 W J S A) (hE : Ext F A B) (hF : ∀ i, F i → S i) : Ts M w0 W J S B := (h.add hE hF).less fun _ h => .inl h
theorem Ts.tr (h : Ts M w0 W J S A) (hE : Ext Non A B) : Ts M w0 W J S B := h.ext hE fun _ h => h.elim
/-- All that was made since the walk's begin is its own. -/
abbrev Al (W A : World) : Nat → Prop := fun i => W.heap.size ≤ i ∧ i < A.heap.size
theorem Ts.all0 (h : Ts M w0 W J Non W) : Ts M w0 W J (Al W W) W := h.less fun i hi => absurd hi.2 (by have := hi.1; omega)
/-- What a yield that was asked for more may turn. -/
abbrev Ys (M : Nat → Prop) (w0 : World) (S : Nat → Prop) : Nat → Prop := fun i => ¬ S i ∧ (M i ∨ w0.heap.size ≤ i)
theorem rn_bneq {P : Program} {σ : Env} {w : World} {dst : Option Nat} {ty : TypeId} {pos : String} {af : Array Edge} {g : Option (Nat × Bool)} {t u : TypeId} (hu : P.underlying t = some .bool) {x y : Operand} {a b : Bool} (hx : ev σ x = .bool a) (hy : ev σ y = .bool b) : Rn P σ w ⟨dst, .binOp .neq t x y u, ty, pos, af, g⟩ (.bool (decide (a ≠ b))) := by
  show (execOp (ev σ) _).run P w = _
  have h1 : (Op.equal t (.bool a) (.bool b)).run P w = .ok (decide (a = b)) w := eqs_bool hu 10000 w (by decide)
  have h2 : (binOp .neq t (.bool a) (.bool b)).run P w = .ok (.bool (!decide (a = b))) w := by
    show (do pure (Value.bool (!(← Op.equal t (.bool a) (.bool b))))).run P w = _
    rw [Sem.run_bind, h1]; rfl
  have h3 : (eqGuard .neq t x y (.bool a) (.bool b)).run P w = .ok () w := rfl
  have e : decide (a ≠ b) = !decide (a = b) := by cases a <;> cases b <;> rfl
  rw [e]
  simp only [execOp, hx, hy]
  rw [Sem.run_bind, Sem.run_bind, h3, Result.andThen_ok, h2]
  rfl
end Go.Proofs.YthcclgoidchkdaaGreatDoorC

/- A range over a function that writes what it has captured: an iterator that may be gone through once; each rule holds of whatever program. -/
set_option linter.unusedVariables false
set_option linter.unusedSimpArgs false
namespace Go.Proofs.YthcclgoidchkdaaGreatDoorC
open Go.RowKit
variable {ro : Option Nat} {P : Program} {n : Nat} {Q : Post} {σ : Env} {D : List Deferred} {w : World}
/-- As Stab, of an owner of E0 too. -/
def StabE (E0 : Nat → Prop) (n0 : Nat) (J : (Nat → Prop) → World → Prop) : Prop :=
  ∀ N A B, (∀ i, N i → E0 i ∨ n0 ≤ i) → n0 ≤ A.heap.size → J N A → Ext N A B → J (grow N A B) B
/-- As Iter, of a function value that owns E0, blocks of w0. -/
def IterE {α : Type} (P : Program) (M : Nat → Prop) (w0 : World) (E0 : Nat → Prop) (fv : Value) (encs : α → Array Value) (xs : List α) : Prop :=
  ∃ f cap, fv = .func (.func f) #[] cap ∧ entersB P f = true ∧
  ∀ (l : Nat) (W : World) (J : List α → (Nat → Prop) → World → Prop) (Jx : (Nat → Prop) → World → Prop), Ext M w0 W → (∀ pre, StabE E0 W.heap.size (J pre)) → StabE E0 W.heap.size Jx →
    (∀ N pre x A, (∀ i, N i → (E0 i ∨ W.heap.size ≤ i) ∧ i < A.heap.size) → (∀ i, E0 i → N i) → W.heap.size ≤ A.heap.size → J pre N A → (∃ post, xs = pre ++ x :: post) →
      YieldOk P l (encs x) A fun b B => Ext (Yc M w0 N) A B ∧ (b = true → J (pre ++ [x]) N B) ∧ (b = false → Jx N B)) →
    J [] E0 W →
    Calls P f (#[.func (.yield l) #[] #[]] ++ cap) W fun e W' => ∃ v N, e = .returned v ∧ W.heap.size ≤ W'.heap.size ∧ (∀ i, N i → (E0 i ∨ W.heap.size ≤ i) ∧ i < W'.heap.size) ∧ (∀ i, E0 i → N i) ∧ (J xs N W' ∨ Jx N W')
/-- The heart of a range over a function: the rounds, from a record that is ready. -/
theorem rf_coreE {E0 : Nat → Prop} {α : Type} {l fn : Nat} {st : Loop} {assign body : Code} {M : Nat → Prop} {w0 : World} {I : List α → (Nat → Prop) → World → Prop} {X : Code → (Nat → Prop) → World → Prop} {n0 : Nat} {E : Nat → Prop} {W1 : World} {σ : Env} {fv : Value} {encs : α → List Value} {xs : List α} {ps : List Nat}
    (hit : IterE P M w0 E0 fv (fun x => (encs x).toArray) xs) (hEE : ∀ i, E0 i → E i) (hl0 : w0.heap.size ≤ l) (hE0w : ∀ i, E0 i → i < w0.heap.size) (hE0 : Ext M w0 W1) (hka : okc n assign = true) (hkb : okc n body = true) (hps : ∀ p ∈ ps, p < n) (hlen : ∀ x, (encs x).length = ps.length)
    (hl : W1.heap[l]? = some (.loop st)) (hst : st.state = .ready) (hpe : st.pending = none) (hpa : st.params = ps.toArray) (has : st.assign = assign) (hbo : st.body = body) (hs : Sim n { tmps := st.tmps, defers := [] } σ)
    (hEl : E l) (hE : ∀ i, E i → n0 ≤ i ∧ i < W1.heap.size) (sI : ∀ pre, Stab n0 (I pre)) (sX : ∀ c, Stab n0 (X c)) (h0 : I [] E W1)
    (hround : ∀ N pre x A, N l → (∀ i, N i → n0 ≤ i ∧ i < A.heap.size) → W1.heap.size ≤ A.heap.size → (∃ st, A.heap[l]? = some (.loop st)) → I pre N A → (∃ post, xs = pre ++ x :: post) →
      W (some l) P n assign (Then (fun σ1 D1 A1 => D1 = [] ∧ Ext (Yc M w0 N) A A1 ∧ ∀ A2, Ext (fun i => i = l) A1 A2 → A2.heap.size = A1.heap.size → (∃ st, A2.heap[l]? = some (.loop st)) → W (some l) P n body (RQ M w0 I X N (pre ++ [x]) A2) σ1 [] A2) NoQ) (updN σ ps (encs x)) [] A) :
    ∃ f cap, fv = .func (.func f) #[] cap ∧ entersB P f = true ∧
      Calls P f (#[.func (.yield l) #[] #[]] ++ cap) W1 fun e W' => ∃ v N st', e = .returned v ∧ W1.heap.size ≤ W'.heap.size ∧ (∀ i, N i → n0 ≤ i ∧ i < W'.heap.size) ∧ (∀ i, E i → N i) ∧ W'.heap[l]? = some (.loop st') ∧ st'.state ≠ .busy ∧
        (∀ d, E d → ¬ E0 d → d ≠ l → W'.heap[d]? = W1.heap[d]?) ∧ ((st'.pending = none ∧ I xs N W') ∨ ∃ c, st'.pending = some c ∧ X c N W') := by
  subst has
  subst hbo
  obtain ⟨f, cap, hfv, hf, hcall⟩ := hit
  refine ⟨f, cap, hfv, hf, ?_⟩
  have hlt1 := (Array.getElem?_eq_some_iff.1 hl).1
  -- N with the loop's own blocks
  have hplus : ∀ N : Nat → Prop, (∀ i, N i → E0 i ∨ W1.heap.size ≤ i) → ∀ i, (N i ∨ E i) → n0 ≤ i := fun N hN i h => by
    rcases h with h | h
    · rcases hN i h with h | h
      · exact (hE i (hEE i h)).1
      · have := (hE l hEl); omega
    · exact (hE i h).1
  have hE0l : ¬ E0 l := fun h => by have := hE0w l h; omega
  have stab : ∀ (J : (Nat → Prop) → World → Prop) (st' : Loop), Stab n0 J → StabE E0 W1.heap.size (fun N A => J (fun i => N i ∨ E i) A ∧ A.heap[l]? = some (.loop st') ∧ ∀ d, E d → ¬ E0 d → d ≠ l → A.heap[d]? = W1.heap[d]?) := by
    intro J st' hJ N A B hN hA ⟨h1, h2, h3⟩ hext
    have hnl : ∀ d, E d → ¬ E0 d → ¬ N d := fun d hd h0 h => by rcases hN d h with h | h; exact h0 h; have := (hE d hd).2; omega
    refine ⟨?_, hext.obj h2 (hnl l hEl hE0l), fun d hd hz hne => ?_⟩
    · have h4 := hJ (fun i => N i ∨ E i) A B (hplus N hN) (by have := (hE l hEl); omega) h1 (hext.mono fun i h => .inl h)
      have e : grow (fun i => N i ∨ E i) A B = fun i => grow N A B i ∨ E i := by
        funext i; apply propext; unfold grow
        exact or_right_comm
      rw [← e]; exact h4
    · have hlt : d < A.heap.size := by have := (hE d hd).2; omega
      rw [hext.block d hlt (hnl d hd hz)]; exact h3 d hd hz hne
  have stab2 : StabE E0 W1.heap.size (fun N A => ∃ c, X c (fun i => N i ∨ E i) A ∧ A.heap[l]? = some (.loop { st with state := .done, pending := some c }) ∧ ∀ d, E d → ¬ E0 d → d ≠ l → A.heap[d]? = W1.heap[d]?) := by
    intro N A B hN hA ⟨c, h⟩ hext
    exact ⟨c, stab (X c) _ (sX c) N A B hN hA h hext⟩
  refine Calls.mono (hcall l W1 (fun pre N A => I pre (fun i => N i ∨ E i) A ∧ A.heap[l]? = some (.loop st) ∧ ∀ d, E d → ¬ E0 d → d ≠ l → A.heap[d]? = W1.heap[d]?)
    (fun N A => ∃ c, X c (fun i => N i ∨ E i) A ∧ A.heap[l]? = some (.loop { st with state := .done, pending := some c }) ∧ ∀ d, E d → ¬ E0 d → d ≠ l → A.heap[d]? = W1.heap[d]?) hE0 (fun pre => stab _ st (sI pre)) stab2 ?_ ⟨?_, hl, fun _ _ _ _ => rfl⟩) ?_
  · -- one round
    rintro N pre x A hN hN0 hA ⟨hi, hlA, hdA⟩ hp
    have hy := run_yield (P := P) (args := (encs x).toArray) hlA (by rw [hpa]; simp [hlen])
    refine ⟨_, _, _, _, hy, ?_⟩
    have hN' : ∀ i, (N i ∨ E i) → n0 ≤ i ∧ i < A.heap.size := fun i h => ⟨hplus N (fun i h => (hN i h).1) i h, by rcases h with h | h; exact (hN i h).2; have := (hE i h).2; omega⟩
    have hr := hround (fun i => N i ∨ E i) pre x A (.inr hEl) hN' hA ⟨_, hlA⟩ hi hp
    have hsim : Sim n { tmps := ((st.params.zip (encs x).toArray).foldl (fun tmps (x : Nat × Value) => tmps.setIfInBounds x.1 x.2) st.tmps), defers := [] } (updN σ ps (encs x)) := by
      have := sim_params (n := n) ps (encs x) σ st.tmps hs hps
      rw [hpa]; simpa using this
    refine roundIn_of_wpIn trivial ?_
    refine wpIn_mono (hr hka _ hsim rfl) ?_
    rintro e a1 A1 ⟨σ1, hs1, hq⟩
    cases e with
    | normal =>
      obtain ⟨hD1, hE1, hbody⟩ := hq
      have hnl : ¬ Yc M w0 (fun i => N i ∨ E i) l := fun h => h.1 (.inr hEl)
      have hl1 : A1.heap[l]? = some (.loop st) := hE1.obj hlA hnl
      have hltA1 := (Array.getElem?_eq_some_iff.1 hl1).1
      refine ⟨_, run_beginRound hl1 hst, ?_⟩
      have hE2 : Ext (fun i => i = l) A1 (A1.putObj l (.loop { st with state := .busy })) := Ext.putObj _ _ _ _ rfl
      have hl2 : (A1.putObj l (.loop { st with state := .busy })).heap[l]? = some (.loop { st with state := .busy }) := World.putObj_heap_same hltA1
      have hsz : (A1.putObj l (.loop { st with state := .busy })).heap.size = A1.heap.size := by simp [World.putObj]
      refine wpIn_mono (hbody _ hE2 hsz ⟨_, hl2⟩ hkb a1 hs1 hD1) ?_
      -- what the end of a round leaves
      have mono1 : ∀ i, Yc M w0 (fun i => N i ∨ E i) i → Yc M w0 N i := fun i h => ⟨fun h' => h.1 (.inl h'), h.2⟩
      have hlY : Yc M w0 N l := ⟨fun h => by rcases (hN l h).1 with h | h; exact hE0l h; omega, .inr hl0⟩
      have fin : ∀ (jump : Option Code) (B0 : World), Ext (Yc M w0 (fun i => N i ∨ E i)) (A1.putObj l (.loop { st with state := .busy })) B0 →
          ∃ B, (Instr.endRound l jump).run P B0 = .ok (.bool jump.isNone) B ∧ Ext (Yc M w0 N) A B ∧ B.heap[l]? = some (.loop { st with state := if jump.isNone then .ready else .done, pending := jump }) ∧
            Ext (fun i => i = l) B0 B ∧ B.heap.size = B0.heap.size ∧ (∀ d, E d → ¬ E0 d → d ≠ l → B.heap[d]? = W1.heap[d]?) := by
        intro jump B0 hB0
        have hl3 : B0.heap[l]? = some (.loop { st with state := .busy }) := hB0.obj hl2 hnl
        have hltB := (Array.getElem?_eq_some_iff.1 hl3).1
        have hend := run_endRound (P := P) jump hl3
        refine ⟨_, hend, ?_, World.putObj_heap_same hltB, Ext.putObj _ _ _ _ rfl, by simp [World.putObj], ?_⟩
        · exact (((hE1.mono mono1).trans (ext_one hE2 hlY)).trans (hB0.mono mono1)).trans (ext_one (Ext.putObj _ _ _ _ rfl) hlY)
        · intro d hd hz hne
          have hd1 : ¬ Yc M w0 (fun i => N i ∨ E i) d := fun h => h.1 (.inr hd)
          have hdlt : d < A.heap.size := by have := (hE d hd).2; omega
          rw [World.putObj_heap_other hne, hB0.block d (by rw [hsz]; have := hE1.size; omega) hd1, World.putObj_heap_other hne, hE1.block d hdlt hd1]
          exact hdA d hd hz hne
      have hlN : (fun i => N i ∨ E i) l := .inr hEl
      rintro e2 a2 B0 ⟨σ2, hs2, hq2⟩
      cases e2 with
      | normal =>
        obtain ⟨hB0, hI⟩ := hq2
        obtain ⟨B, h1, h2, h3, h4, h5, h6⟩ := fin none B0 hB0
        have hst3 : ({ st with state := (if (none : Option Code).isNone then .ready else .done), pending := none } : Loop) = st := by
          cases st; simp only at hst hpe; subst hst; subst hpe; rfl
        rw [hst3] at h3
        exact ⟨_, B, h1, true, rfl, h2, fun _ => ⟨(sI _).same (hplus N fun i h => (hN i h).1) (by have := hE l hEl; have := hB0.size; rw [hsz] at this; have := hE1.size; omega) hI (ext_one h4 hlN) h5, h3, h6⟩, fun h => (by cases h)⟩
      | ret =>
        obtain ⟨hB0, hI⟩ := hq2
        obtain ⟨B, h1, h2, h3, h4, h5, h6⟩ := fin (some .ret) B0 hB0
        exact ⟨_, B, h1, false, rfl, h2, fun h => (by cases h), fun _ => ⟨_, (sX _).same (hplus N fun i h => (hN i h).1) (by have := hE l hEl; have := hB0.size; rw [hsz] at this; have := hE1.size; omega) hI (ext_one h4 hlN) h5, h3, h6⟩⟩
      | exit id =>
        obtain ⟨hB0, hI⟩ := hq2
        obtain ⟨B, h1, h2, h3, h4, h5, h6⟩ := fin (some (.exit id)) B0 hB0
        exact ⟨_, B, h1, false, rfl, h2, fun h => (by cases h), fun _ => ⟨_, (sX _).same (hplus N fun i h => (hN i h).1) (by have := hE l hEl; have := hB0.size; rw [hsz] at this; have := hE1.size; omega) hI (ext_one h4 hlN) h5, h3, h6⟩⟩
      | goto t =>
        obtain ⟨hB0, hI⟩ := hq2
        obtain ⟨B, h1, h2, h3, h4, h5, h6⟩ := fin (some (.goto t)) B0 hB0
        exact ⟨_, B, h1, false, rfl, h2, fun h => (by cases h), fun _ => ⟨_, (sX _).same (hplus N fun i h => (hN i h).1) (by have := hE l hEl; have := hB0.size; rw [hsz] at this; have := hE1.size; omega) hI (ext_one h4 hlN) h5, h3, h6⟩⟩
      | panic ch => exact hq2.elim
      | outgrown => exact hq2.elim
    | _ => exact hq.elim
  · have e : (fun i => E0 i ∨ E i) = E := by funext i; apply propext; exact ⟨fun h => h.elim (hEE i) id, .inr⟩
    show I [] (fun i => E0 i ∨ E i) W1
    rw [e]; exact h0
  · rintro e W' ⟨v, N, he, hsz, hN, hN0, h⟩
    have hN' : ∀ i, (N i ∨ E i) → n0 ≤ i ∧ i < W'.heap.size := fun i h => ⟨hplus N (fun i h => (hN i h).1) i h, by rcases h with h | h; exact (hN i h).2; have := (hE i h).2; omega⟩
    rcases h with ⟨hi, hl', hd'⟩ | ⟨c, hx, hl', hd'⟩
    · exact ⟨v, _, st, he, hsz, hN', fun i h => .inr h, hl', by rw [hst]; simp, hd', .inl ⟨hpe, hi⟩⟩
    · exact ⟨v, _, _, he, hsz, hN', fun i h => .inr h, hl', by simp, hd', .inr ⟨c, rfl, hx⟩⟩
/-- What a walk of a round owes: from the assignment of the loop's variables on. -/
def RoundE (n1 : Nat) {α : Type} (P : Program) (n : Nat) (M : Nat → Prop) (w0 w : World) (I : List α → (Nat → Prop) → World → Prop) (X : Code → (Nat → Prop) → World → Prop) (assign body : Code) (σ : Env) (ps : List Nat) (encs : α → List Value) (xs : List α) : Prop :=
  ∀ l N pre x A, N l → (∀ i, N i → n1 ≤ i ∧ i < A.heap.size) → w.heap.size ≤ A.heap.size → (∃ st, A.heap[l]? = some (.loop st)) → I pre N A → (∃ post, xs = pre ++ x :: post) →
    W (some l) P n assign (Then (fun σ1 D1 A1 => D1 = [] ∧ Ext (Yc M w0 N) A A1 ∧ ∀ A2, Ext (fun i => i = l) A1 A2 → A2.heap.size = A1.heap.size → (∃ st, A2.heap[l]? = some (.loop st)) → W (some l) P n body (RQ M w0 I X N (pre ++ [x]) A2) σ1 [] A2) NoQ) (updN σ ps (encs x)) [] A
theorem W_rangeFuncE (n1 : Nat) (E0 : Nat → Prop) {α : Type} {gg : Operand} {assign body : Code} {M : Nat → Prop} {w0 : World} {I : List α → (Nat → Prop) → World → Prop} {X : Code → (Nat → Prop) → World → Prop} {fv : Value} {encs : α → List Value} {xs : List α} {ps : List Nat}
    (hg : ev σ gg = fv) (hit : IterE P M w0 E0 fv (fun x => (encs x).toArray) xs) (hE0 : Ext M w0 w) (hn1 : n1 ≤ w.heap.size) (hEn : ∀ i, E0 i → n1 ≤ i ∧ i < w0.heap.size) (hlen : ∀ x, (encs x).length = ps.length)
    (sI : ∀ pre, Stab n1 (I pre)) (sX : ∀ c, Stab n1 (X c)) (h0 : I [] E0 w)
    (hround : RoundE n1 P n M w0 w I X assign body σ ps encs xs)
    (hdone : ∀ N r w', I xs N w' → (∀ i, N i → n1 ≤ i ∧ i < w'.heap.size) → w.heap.size ≤ w'.heap.size → N r → w'.heap[r]? = some (.deferred (some [])) → Q .normal σ (mark r :: D) w')
    (hstop : ∀ c N r w', X c N w' → (∀ i, N i → n1 ≤ i ∧ i < w'.heap.size) → w.heap.size ≤ w'.heap.size → N r → w'.heap[r]? = some (.deferred (some [])) → W none P n c Q σ (mark r :: D) w') :
    W none P n (.rangeFunc gg ps.toArray assign body) Q σ D w := by
  intro hk a hs hd
  simp only [okc, Bool.and_eq_true] at hk
  obtain ⟨⟨hka, hkb⟩, hkp⟩ := hk
  have hps : ∀ p ∈ ps, p < n := fun p hp => by simpa using (List.all_eq_true.1 hkp p (by simpa using hp))
  refine wpIn_rangeFunc ?_
  intro fn hfn
  show ∃ l mark w₁ d w₁' f args w₂, (Instr.enterLoop fn a.tmps ps.toArray assign body none).run P w = _ ∧ _
  obtain ⟨W1, hW1⟩ : ∃ W1, (w.alloc (.deferred (some []))).alloc (.loop { state := .ready, pending := none, fn, tmps := a.tmps, params := ps.toArray, assign, body, defers := w.heap.size }) = W1 := ⟨_, rfl⟩
  have hsz : W1.heap.size = w.heap.size + 2 := by rw [← hW1]; simp
  have hL1 : W1.heap[w.heap.size + 1]? = some (.loop { state := .ready, pending := none, fn, tmps := a.tmps, params := ps.toArray, assign, body, defers := w.heap.size }) := by
    rw [← hW1]; have := World.alloc_heap_new (w.alloc (.deferred (some []))) (.loop { state := .ready, pending := none, fn, tmps := a.tmps, params := ps.toArray, assign, body, defers := w.heap.size }); rwa [World.size_alloc] at this
  have hK1 : W1.heap[w.heap.size]? = some (.deferred (some [])) := by
    rw [← hW1]; exact (Below.heap_alloc _ _ _ (by simp)).trans (World.alloc_heap_new w _)
  have hE1 : Ext Non w W1 := by rw [← hW1]; exact (Ext.alloc _ _).trans (Ext.alloc _ _)
  have hgr : ∀ i, grow E0 w W1 i ↔ (E0 i ∨ (w.heap.size ≤ i ∧ i < W1.heap.size)) := fun i => Iff.rfl
  obtain ⟨f, cap, hfv, hf, hcall⟩ := rf_coreE (n := n) (l := w.heap.size + 1) (fn := fn) (W1 := W1) (n0 := n1) (E := grow E0 w W1) (X := XOk n X) (I := I) (σ := σ) hit (fun i h => .inl h) (by have := hE0.size; omega) (fun i h => (hEn i h).2) (hE0.trans hE1.of_non) hka hkb hps hlen hL1 rfl rfl rfl rfl rfl
    ⟨hs.size, hs.agree⟩ ((hgr _).2 (.inr (by omega))) (fun i h => by rcases h with h | h; exact ⟨(hEn i h).1, by have := (hEn i h).2; have := hE0.size; have := hE1.size; omega⟩; exact ⟨by omega, h.2⟩) sI (XOk.stab sX) (sI [] E0 w W1 (fun i h => (hEn i h).1) hn1 h0 hE1.of_non)
    (fun N pre x A hNl hN hA hst hi hp => (hround _ N pre x A hNl hN (by have := hE1.size; omega) hst hi hp).mono (by
      intro e σ1 D1 A1 hq
      cases e with
      | normal => exact ⟨hq.1, hq.2.1, fun A2 h1 h2 h3 => (hq.2.2 A2 h1 h2 h3).mono fun e σ D B h => RQ.ok e σ D B h⟩
      | _ => exact hq.elim))
  refine ⟨w.heap.size + 1, [mark w.heap.size], W1, { target := .fn (.func f) cap, args := #[.func (.yield (w.heap.size + 1)) #[] #[]] }, W1, f, #[.func (.yield (w.heap.size + 1)) #[] #[]] ++ cap, W1, ?_, ?_, fun _ _ => trivial, ?_, (fun h => by cases h), ?_⟩
  · rw [← hW1]; exact run_enterLoop_outer _ _ _ _ _
  · have : a.eval gg = .func (.func f) #[] cap := by rw [hs.eval, hg, hfv]
    simp only [resolve, this]; simp [Deferred.ofValue, Act.eval]
  · simp [invoke, run_enters hf]
  · refine callsIn_wide.2 (Calls.mono hcall ?_)
    rintro e W' ⟨v, N, st', he, hsz', hN, hEN, hl', hnb, hkeep, hend⟩
    subst he
    have hr : W'.heap[w.heap.size]? = some (.deferred (some [])) := by rw [hkeep _ ((hgr _).2 (.inr (by omega))) (fun h => by have := (hEn _ h).2; have := hE0.size; omega) (by omega)]; exact hK1
    have hE2 : Ext (fun i => i = w.heap.size + 1) W' (W'.putObj (w.heap.size + 1) (.loop { st' with state := .exhausted })) := Ext.putObj _ _ _ _ rfl
    have hs2 : (W'.putObj (w.heap.size + 1) (.loop { st' with state := .exhausted })).heap.size = W'.heap.size := by simp [World.putObj]
    have hNl : N (w.heap.size + 1) := hEN _ ((hgr _).2 (.inr (by omega)))
    have hNr : N w.heap.size := hEN _ ((hgr _).2 (.inr (by omega)))
    have hr2 : (W'.putObj (w.heap.size + 1) (.loop { st' with state := .exhausted })).heap[w.heap.size]? = some (.deferred (some [])) := (World.putObj_heap_other (by omega)).trans hr
    have hend1 := run_endLoop (P := P) hl' (by exact hnb)
    have hle : w.heap.size ≤ W'.heap.size := by omega
    have hle1 : n1 ≤ W'.heap.size := by omega
    obtain ⟨W2, hW2⟩ : ∃ W2, W'.putObj (w.heap.size + 1) (.loop { st' with state := .exhausted }) = W2 := ⟨_, rfl⟩
    rw [hW2] at hE2 hs2 hr2 hend1
    refine ⟨st'.pending, W2, hend1, ?_⟩
    rcases hend with ⟨hp, hi⟩ | ⟨c, hp, hkc, hx⟩
    · rw [hp]
      exact ⟨σ, ⟨hs.size, hs.agree⟩, by rw [hd] ; exact hdone N _ _ ((sI xs).same (fun i h => (hN i h).1) hle1 hi (ext_one hE2 hNl) hs2) (fun i h => by rw [hs2]; exact hN i h) (by rw [hs2]; exact hle) hNr hr2⟩
    · rw [hp]
      exact hstop c N _ _ ((sX c).same (fun i h => (hN i h).1) hle1 hx (ext_one hE2 hNl) hs2) (fun i h => by rw [hs2]; exact hN i h) (by rw [hs2]; exact hle) hNr hr2 hkc { a with defers := mark w.heap.size :: a.defers } ⟨hs.size, hs.agree⟩ (by rw [hd])

/-! ### the walk of such an iterator's own code -/
structure Te (M : Nat → Prop) (w0 W : World) (E0 : Nat → Prop) (J : (Nat → Prop) → World → Prop) (S : Nat → Prop) (A : World) : Prop where
  stab : StabE E0 W.heap.size J
  beg : Ext M w0 W
  ex : ∃ N, (∀ i, N i → (E0 i ∨ W.heap.size ≤ i) ∧ i < A.heap.size) ∧ (∀ i, E0 i → N i) ∧ W.heap.size ≤ A.heap.size ∧ J N A ∧ ∀ b, S b → N b
  w0 : Ext (fun i => M i ∨ E0 i) w0 A
variable {M F : Nat → Prop} {w0 W A B : World} {J : (Nat → Prop) → World → Prop} {S S' E0 : Nat → Prop}
theorem Te.ext (h : Te M w0 W E0 J S A) (hE : Ext F A B) (hF : ∀ i, F i → S i) : Te M w0 W E0 J S B := by
  obtain ⟨N, h1, h0, h2, h3, h4⟩ := h.ex
  have hE' : Ext N A B := hE.mono fun i hi => h4 i (hF i hi)
  refine ⟨h.stab, h.beg, ⟨grow N A B, ?_, fun i hi => .inl (h0 i hi), Nat.le_trans h2 hE.size, h.stab N A B (fun i hi => (h1 i hi).1) h2 h3 hE', fun b hb => .inl (h4 b hb)⟩, ?_⟩
  · rintro i (hi | ⟨ha, hb⟩)
    · exact ⟨(h1 i hi).1, Nat.lt_of_lt_of_le (h1 i hi).2 hE.size⟩
    · exact ⟨.inr (Nat.le_trans h2 ha), hb⟩
  · have hz := h.beg.size
    refine ⟨hE.os.trans h.w0.os, hE.tape.trans h.w0.tape, hE.output.trans h.w0.output, Nat.le_trans h.w0.size hE.size, fun i hi hm => (hE.block i (Nat.lt_of_lt_of_le hi h.w0.size) (fun hf => ?_)).trans (h.w0.block i hi hm)⟩
    rcases (h1 i (h4 i (hF i hf))).1 with h | h
    · exact hm (.inr h)
    · omega
theorem Te.tr (h : Te M w0 W E0 J S A) (hE : Ext Non A B) : Te M w0 W E0 J S B := h.ext hE fun _ h => h.elim
def Ye {α : Type} (P : Program) (M : Nat → Prop) (w0 W : World) (E0 : Nat → Prop) (l : Nat) (encs : α → Array Value) (xs : List α) (J : List α → (Nat → Prop) → World → Prop) (Jx : (Nat → Prop) → World → Prop) : Prop :=
  ∀ pre x post S A, xs = pre ++ x :: post → Te M w0 W E0 (J pre) S A → YieldOk P l (encs x) A fun b B => Ext (Ys M w0 S) A B ∧ (b = true → Te M w0 W E0 (J (pre ++ [x])) S B) ∧ (b = false → Te M w0 W E0 Jx S B)
theorem iterE_of {α : Type} {encs : α → Array Value} {xs : List α} {f : FuncId} {cap : Array Value} (hf : entersB P f = true) (hE : ∀ i, E0 i → i < w0.heap.size ∧ ¬ M i)
    (h : ∀ (l : Nat) (W : World) (J : List α → (Nat → Prop) → World → Prop) (Jx : (Nat → Prop) → World → Prop), Ext M w0 W → Te M w0 W E0 (J []) E0 W → Ye P M w0 W E0 l encs xs J Jx →
      Calls P f (#[.func (.yield l) #[] #[]] ++ cap) W fun e W' => ∃ v, e = .returned v ∧ (Te M w0 W E0 (J xs) E0 W' ∨ Te M w0 W E0 Jx E0 W')) : IterE P M w0 E0 (.func (.func f) #[] cap) encs xs := by
  refine ⟨f, cap, rfl, hf, fun l W J Jx hW hJ hJx hY h0 => ?_⟩
  have hlt : ∀ i, E0 i → i < W.heap.size := fun i hi => Nat.lt_of_lt_of_le (hE i hi).1 hW.size
  refine Calls.mono (h l W J Jx hW ⟨hJ [], hW, ⟨E0, fun i hi => ⟨.inl hi, hlt i hi⟩, fun _ h => h, Nat.le_refl _, h0, fun _ h => h⟩, hW.mono fun _ h => .inl h⟩ ?_) ?_
  · intro pre x post S A hx hT
    obtain ⟨N, h1, h00, h2, h3, h4⟩ := hT.ex
    obtain ⟨fn, tmps, assign, body, hy, hr⟩ := hY N pre x A h1 h00 h2 h3 ⟨post, hx⟩
    refine ⟨fn, tmps, assign, body, hy, hr.mono ?_⟩
    rintro e B ⟨b, he, hE1, ht, hf⟩
    have hE' : Ext (Ys M w0 S) A B := hE1.mono fun i hi => ⟨fun hb => hi.1 (h4 i hb), hi.2⟩
    have hw : Ext (fun i => M i ∨ E0 i) w0 B := ⟨hE1.os.trans hT.w0.os, hE1.tape.trans hT.w0.tape, hE1.output.trans hT.w0.output, Nat.le_trans hT.w0.size hE1.size, fun i hi hm => (hE1.block i (Nat.lt_of_lt_of_le hi hT.w0.size) (fun h => by rcases h.2 with h | h; exact hm (.inl h); omega)).trans (hT.w0.block i hi hm)⟩
    have hN : ∀ i, N i → (E0 i ∨ W.heap.size ≤ i) ∧ i < B.heap.size := fun i hi => ⟨(h1 i hi).1, Nat.lt_of_lt_of_le (h1 i hi).2 hE1.size⟩
    exact ⟨b, he, hE', fun hb => ⟨hJ _, hW, ⟨N, hN, h00, Nat.le_trans h2 hE1.size, ht hb, h4⟩, hw⟩, fun hb => ⟨hJx, hW, ⟨N, hN, h00, Nat.le_trans h2 hE1.size, hf hb, h4⟩, hw⟩⟩
  · rintro e W' ⟨v, he, hT | hT⟩
    · obtain ⟨N, h1, h00, h2, h3, _⟩ := hT.ex; exact ⟨v, N, he, h2, h1, h00, .inl h3⟩
    · obtain ⟨N, h1, h00, h2, h3, _⟩ := hT.ex; exact ⟨v, N, he, h2, h1, h00, .inr h3⟩
end Go.Proofs.YthcclgoidchkdaaGreatDoorC

/- The library's functions on texts: a byte's place, cutting. -/
set_option linter.unusedVariables false
set_option linter.unusedSimpArgs false
set_option maxRecDepth 100000
namespace Go.Proofs.YthcclgoidchkdaaGreatDoorC
open Go.RowKit
theorem ibs_name : (Tryz.f261.name == "runtime.NumGoroutine") = false := by kernel_rfl
theorem ibs_body : Tryz.f261.body.isNone = true := by kernel_rfl
theorem ibs_next : Extern.findNext Tryz.f261 = none := by kernel_rfl
theorem ibs_find : Extern.find Tryz.f261 = some Extern.BytealgIndexByte.indexByte := by kernel_rfl
theorem ibs : IB Tryz.prog 261 := ⟨_, Tryz.func261, ibs_name, ibs_body, ibs_next, ibs_find⟩
theorem fi_self (c : UInt8) : fi [c] c = 0 := by simp [fi, pre1]
theorem fi_ge (s : Str) (c : UInt8) : 0 ≤ fi s c ↔ c ∈ s := by
  unfold fi; split
  · rename_i h; exact ⟨fun _ => h, fun _ => by omega⟩
  · rename_i h; exact ⟨fun h' => absurd h' (by decide), fun h' => absurd h' h⟩
theorem fi_in {s : Str} {c : UInt8} (h : c ∈ s) : fi s c = ((pre1 c s).length : Nat) := by unfold fi; rw [if_pos h]
-- internal/stringslite.IndexByte
set_option maxHeartbeats 1600000 in
theorem indexByte_ok (w : World) (s : Str) (c : UInt8) : Fn Tryz.prog 232 #[Sv s, .int .u8 c.toNat] w fun u w' => u = .int .i64 (fi s c) := by
  have hX := Ext.refl Non w
  refine fn_of_W (args := [_, _]) Tryz.func232 rfl (by kernel_rfl) rfl ?_
  refine W_seq ?_
  refine W_region ?_
  refine wl_val (rn_assign (by conv => lhs; whnf)) ?_
  refine wl_nil ?_
  refine W_seq ?_
  refine W_region ?_
  refine wl_val (rn_move (by conv => lhs; whnf)) ?_
  refine wl_val (rn_move (by conv => lhs; whnf)) ?_
  refine wl_val (P := Tryz.prog) (op := .call ⟨.value (.func 261), #[.tmp 5, .tmp 6], #[9, 5]⟩) (rn_indexByte ibs rfl rfl) ?_
  refine wl_val (rn_assign (by conv => lhs; whnf)) ?_
  refine wl_nil ?_
  refine W_ret ?_
  exact ⟨_, resR1 (res1_tmp rfl), hX, rfl⟩
-- internal/stringslite.Index
set_option maxHeartbeats 800000 in
theorem index_ok (w : World) (s : Str) (c : UInt8) : Fn Tryz.prog 201 #[Sv s, Sv [c]] w fun u w' => u = .int .i64 (fi s c) := by
  have hX := Ext.refl Non w
  refine fn_of_W (args := [_, _]) Tryz.func201 rfl (by kernel_rfl) rfl ?_
  refine W_seq ?_
  refine W_region ?_
  refine wl_val (rn_assign (by conv => lhs; whnf)) ?_
  refine wl_nil ?_
  refine W_seq ?_
  refine W_region ?_
  refine wl_val (rn_move (by conv => lhs; whnf)) ?_
  refine wl_val (rn_slen us_9 rfl) ?_
  refine wl_val (rn_assign (by conv => lhs; whnf)) ?_
  refine wl_nil ?_
  refine W_seq ?_
  refine W_block ?_   -- block 0
  refine W_seq ?_
  refine W_region ?_
  refine wl_val (rn_move (by conv => lhs; whnf)) ?_
  refine wl_val (rn_eql rfl rfl) ?_
  refine wl_val (rn_move (by conv => lhs; whnf)) ?_
  refine wl_split (d := 19) rfl (fun hg19 => ?_) (fun hg19 => ?_)
  · exact absurd (of_decide_eq_true hg19) (by simp)
  · refine wl_yes rfl (congrArg Value.bool hg19) ?_
    refine wl_val (rn_move (by conv => lhs; whnf)) ?_
    refine wl_yes rfl (congrArg Value.bool hg19) ?_
    refine wl_val (rn_move (by conv => lhs; whnf)) ?_
    refine wl_yes rfl (congrArg Value.bool hg19) ?_
    refine wl_val (rn_seql rfl rfl) ?_
    refine wl_val (rn_pickF (congrArg Value.bool hg19) (by conv => lhs; whnf)) ?_
    refine wl_val (rn_assign (by conv => lhs; whnf)) ?_
    refine wl_nil ?_
    refine W_cond rfl (fun hc0 => ?_) (fun hc0 => ?_)
    · refine W_seq ?_
      refine W_region ?_
      refine wl_val (rn_assign (by conv => lhs; whnf)) ?_
      refine wl_nil ?_
      refine W_ret ?_
      exact ⟨_, resR1 (res1_tmp rfl), hX, by have e := of_decide_eq_true hc0; rw [← e, fi_self]; rfl⟩
    · refine W_seq ?_
      refine W_region ?_
      refine wl_val (rn_move (by conv => lhs; whnf)) ?_
      refine wl_val (rn_eql rfl rfl) ?_
      refine wl_val (rn_assign (by conv => lhs; whnf)) ?_
      refine wl_nil ?_
      refine W_cond rfl (fun hc1 => ?_) (fun hc1 => ?_)
      · refine W_seq ?_
        refine W_region ?_
        refine wl_val (rn_move (by conv => lhs; whnf)) ?_
        refine wl_val (rn_move (by conv => lhs; whnf)) ?_
        refine wl_val (rn_sindex us_9 rfl rfl (by omega) rfl) ?_
        refine wl_call e_232 rfl (indexByte_ok w s c) ?_; intro v30 w1 hE1 hR1
        replace hX := hX.tr hE1
        subst hR1
        refine wl_val (rn_assign (by conv => lhs; whnf)) ?_
        refine wl_nil ?_
        refine W_ret ?_
        exact ⟨_, resR1 (res1_tmp rfl), hX, rfl⟩
      · exact absurd (of_decide_eq_false hc1) (by simp)
-- strings.Index
theorem sindex_ok (w : World) (s : Str) (c : UInt8) : Fn Tryz.prog 149 #[Sv s, Sv [c]] w fun u w' => u = .int .i64 (fi s c) := by
  have hX := Ext.refl Non w
  refine fn_of_W (args := [_, _]) Tryz.func149 rfl (by kernel_rfl) rfl ?_
  refine W_seq ?_
  refine W_region ?_
  refine wl_val (rn_assign (by conv => lhs; whnf)) ?_
  refine wl_nil ?_
  refine W_seq ?_
  refine W_region ?_
  refine wl_val (rn_move (by conv => lhs; whnf)) ?_
  refine wl_val (rn_move (by conv => lhs; whnf)) ?_
  refine wl_call e_201 rfl (index_ok w s c) ?_; intro v7 w1 hE1 hR1
  replace hX := hX.tr hE1
  subst hR1
  refine wl_val (rn_assign (by conv => lhs; whnf)) ?_
  refine wl_nil ?_
  refine W_ret ?_
  exact ⟨_, resR1 (res1_tmp rfl), hX, rfl⟩
end Go.Proofs.YthcclgoidchkdaaGreatDoorC

/- Going through a text's levels. -/
set_option linter.unusedVariables false
set_option linter.unusedSimpArgs false
set_option maxRecDepth 100000
namespace Go.Proofs.YthcclgoidchkdaaGreatDoorC
open Go.RowKit
abbrev Tru : Nat → Prop := fun _ => True
end Go.Proofs.YthcclgoidchkdaaGreatDoorC

/- Filters of the program; the law TopicEach. -/
set_option linter.unusedVariables false
set_option linter.unusedSimpArgs false
set_option maxRecDepth 100000
namespace Go.Proofs.YthcclgoidchkdaaGreatDoorC
open Go.RowKit
theorem cs_name : (Tryz.f237.name == "runtime.NumGoroutine") = false := by kernel_rfl
theorem cs_body : Tryz.f237.body.isNone = true := by kernel_rfl
theorem cs_next : Extern.findNext Tryz.f237 = none := by kernel_rfl
theorem cs_find : Extern.find Tryz.f237 = some Extern.BytealgCount.count := by kernel_rfl
theorem cbs : CB Tryz.prog 237 := ⟨_, Tryz.func237, cs_name, cs_body, cs_next, cs_find⟩
-- strings.Count
set_option maxHeartbeats 1000000 in
theorem scount_ok (w : World) (s : Str) (c : UInt8) : Fn Tryz.prog 203 #[Sv s, Sv [c]] w fun u w' => u = .int .i64 (s.count c : Nat) := by
  have hX := Ext.refl Non w
  refine fn_of_W (args := [_, _]) Tryz.func203 rfl (by kernel_rfl) rfl ?_
  refine W_seq ?_
  refine W_region ?_
  refine wl_val (rn_assign (by conv => lhs; whnf)) ?_
  refine wl_nil ?_
  refine W_seq ?_
  refine W_seq ?_
  refine W_region ?_
  refine wl_val (rn_move (by conv => lhs; whnf)) ?_
  refine wl_val (rn_slen us_9 rfl) ?_
  refine wl_val (rn_eql rfl rfl) ?_
  refine wl_nil ?_
  refine W_cond rfl (fun hc0 => ?_) (fun hc0 => ?_)
  · exact absurd (of_decide_eq_true hc0) (by simp)
  · refine W_skip ?_
    refine W_seq ?_
    refine W_seq ?_
    refine W_region ?_
    refine wl_val (rn_move (by conv => lhs; whnf)) ?_
    refine wl_val (rn_slen us_9 rfl) ?_
    refine wl_val (rn_eql rfl rfl) ?_
    refine wl_nil ?_
    refine W_cond rfl (fun hc1 => ?_) (fun hc1 => ?_)
    · refine W_seq ?_
      refine W_region ?_
      refine wl_val (rn_move (by conv => lhs; whnf)) ?_
      refine wl_val (rn_move (by conv => lhs; whnf)) ?_
      refine wl_val (rn_sindex us_9 rfl rfl (by omega) rfl) ?_
      refine wl_val (P := Tryz.prog) (op := .call ⟨.value (.func 237), #[.tmp 16, .tmp 18], #[9, 5]⟩) (v := .int .i64 (s.count c : Nat)) (rn_countString (s := s) (c := c) cbs rfl rfl) ?_
      refine wl_val (rn_assign (by conv => lhs; whnf)) ?_
      refine wl_nil ?_
      refine W_ret ?_
      exact ⟨_, resR1 (res1_tmp rfl), hX, rfl⟩
    · exact absurd (of_decide_eq_false hc1) (by simp)
end Go.Proofs.YthcclgoidchkdaaGreatDoorC
