/- Walks of loops over functions: marks, iterators' own walks, rounds; slices of one's own by their block; each rule holds of whatever program. -/
import Derived.Test.YthcclgoidchkdaaDoorBunV2
import Derived.Laws.Cover3
import Derived.Lib.Builder
import Derived.Lib.AppendIntMem
import Derived.Lib.ConvBytes
import Derived.Lib.AtoiErrMem
import Derived.Laws.AppendOwn
import Derived.Laws.BytesArg
import Derived.WideLaws
import Derived.Laws.Build
import Derived.Maps.RangeRun
import Derived.MapKept
set_option linter.unusedVariables false
set_option linter.unusedSimpArgs false
namespace Go.Proofs.YthcclgoidchkdaaDoorC
open Go.RowKit
variable {ro : Option Nat} {P : Program} {n : Nat} {Q : Post} {σ : Env} {D : List Deferred} {w : World} {dst : Option Nat} {ty : TypeId} {pos : String} {af : Array Edge} {g : Option (Nat × Bool)}
variable {ops rest : List Oper} {K : Ops}

/-! ### marks of loops over functions that are done -/
/-- These are marks of done loops, each a block of its own, made since w. -/
inductive Mk (w : World) : List Deferred → World → Prop
  | nil {A : World} : Mk w [] A
  | cons {r : Nat} {D : List Deferred} {A : World} : A.heap[r]? = some (.deferred (some [])) → w.heap.size ≤ r → (∀ s, mark s ∈ D → s ≠ r) → Mk w D A → Mk w (mark r :: D) A
theorem Mk.each {D : List Deferred} {A : World} (h : Mk w D A) : ∀ d ∈ D, ∃ r, d = mark r ∧ A.heap[r]? = some (.deferred (some [])) ∧ w.heap.size ≤ r := by
  induction h with
  | nil => intro d h; cases h
  | cons h1 h2 h3 h4 ih =>
    intro d hd
    rcases List.mem_cons.1 hd with rfl | hd
    · exact ⟨_, rfl, h1, h2⟩
    · exact ih d hd
theorem mark_inj {r s : Nat} (h : mark r = mark s) : r = s := by simpa [mark] using h
theorem Mk.ext {D : List Deferred} {A B : World} {M : Nat → Prop} (h : Mk w D A) (hE : Ext M A B) (hM : ∀ r, mark r ∈ D → ¬ M r) : Mk w D B := by
  induction h with
  | nil => exact .nil
  | cons h1 h2 h3 h4 ih => exact .cons (hE.obj h1 (hM _ (by simp))) h2 h3 (ih hE (fun r hr => hM r (by simp [hr])))
theorem Mk.non {D : List Deferred} {A B : World} (h : Mk w D A) (hE : Ext Non A B) : Mk w D B := h.ext hE fun _ _ => id
theorem Mk.box {D : List Deferred} {A B : World} {b : Nat} {cs : List Value} (h : Mk w D A) (hE : Ext (fun i => i = b) A B) (hb : IsBox A b cs) : Mk w D B := h.ext hE fun r hr e => by
  obtain ⟨s, h1, h2, _⟩ := h.each _ hr
  cases mark_inj h1; subst e
  obtain ⟨T, hb⟩ := hb
  rw [h2] at hb; cases hb
theorem Mk.ne {D : List Deferred} {A : World} {b : Nat} {cs : List Value} (h : Mk w D A) (hb : IsBox A b cs) : ¬ mark b ∈ D := fun hr => by
  obtain ⟨s, h1, h2, _⟩ := h.each _ hr
  cases mark_inj h1
  obtain ⟨T, hb⟩ := hb
  rw [h2] at hb; cases hb
theorem Mk.add {D : List Deferred} {A : World} {r : Nat} (h : Mk w D A) (h1 : A.heap[r]? = some (.deferred (some []))) (h2 : w.heap.size ≤ r) (h3 : ¬ mark r ∈ D) : Mk w (mark r :: D) A :=
  .cons h1 h2 (fun s hs e => h3 (e ▸ hs)) h
theorem Mk.leave {rs : List ResultVar} {R : Value → World → Prop} {D : List Deferred} {A : World} (h : Mk w D A) (hr : ∀ B, Ext (fun i => mark i ∈ D) A B → ∃ v, resR P σ B rs v ∧ R v B) : Leave P rs R σ D A := by
  induction h with
  | nil => exact hr _ (Ext.refl _ _)
  | @cons r D A h1 h2 h3 h4 ih =>
    refine ⟨r, rfl, h1, ?_⟩
    have hE : Ext (fun i => i = r) A (A.putObj r (.deferred none)) := Ext.putObj _ _ _ _ rfl
    have h5 : Mk w D (A.putObj r (.deferred none)) := h4.ext hE (fun s hs e => h3 s hs e)
    clear ih
    have key : ∀ (D : List Deferred) (A' : World), Mk w D A' → (∀ B, Ext (fun i => mark i ∈ D) A' B → ∃ v, resR P σ B rs v ∧ R v B) → Leave P rs R σ D A' := by
      intro D
      induction D with
      | nil => intro A' _ hr; exact hr _ (Ext.refl _ _)
      | cons d D ih =>
        intro A' hm hr
        cases hm with
        | @cons r D A h1 h2 h3 h4 =>
          refine ⟨r, rfl, h1, ?_⟩
          have hE : Ext (fun i => i = r) A' (A'.putObj r (.deferred none)) := Ext.putObj _ _ _ _ rfl
          exact ih _ (h4.ext hE (fun s hs e => h3 s hs e)) fun B hB => hr B ((hE.mono (fun i e => by rw [e]; simp)).trans (hB.mono (fun i e => by simp [e])))
    exact key D _ h5 fun B hB => hr B ((hE.mono (fun i e => by rw [e]; simp)).trans (hB.mono (fun i e => by simp [e])))
/-- A loop of which each round may leave marks. -/
theorem W_loopD {S : Type} {c : Code} (ls : List Nat) (f : S → List Value) (I : S → List Deferred → World → Prop) (μ : S → Nat) (s0 : S) (h0 : Holds ls (f s0) σ) (hi : I s0 D w)
    (hr : ∀ τ s D A, I s D A → W ro P n c (Then (fun σ' D' A' => ∃ s', Holds ls (f s') σ' ∧ I s' D' A' ∧ μ s' < μ s) Q) (updN τ ls (f s)) D A) : W ro P n (.loop c) Q σ D w := by
  let R : Env → List Deferred → World → Nat → Prop := fun σ D w k => ∃ s, Holds ls (f s) σ ∧ I s D w ∧ μ s = k
  intro hk a hs hd
  have hk' : okc n c = true := hk
  refine wpIn_loop (fun a w => ∃ σ, Sim n a σ ∧ ∃ k, R σ a.defers w k) (fun a w => least (R (fun i => a.tmps.getD i undef) a.defers w)) ⟨σ, hs, _, s0, h0, hd ▸ hi, rfl⟩ ?_
  rintro a w ⟨σ, hs, k, hk⟩
  have e1 : (fun i => a.tmps.getD i undef) = σ := funext hs.agree
  obtain ⟨⟨s, hs1, hs2, hs3⟩, _⟩ := least_spec hk
  have h4 := hr σ s a.defers w hs2
  rw [updN_self _ _ _ hs1] at h4
  refine wpIn_mono (h4 hk' a hs rfl) fun e a' w' ⟨σ', h5, h6⟩ => ?_
  have e2 : (fun i => a'.tmps.getD i undef) = σ' := funext h5.agree
  cases e with
  | normal =>
    obtain ⟨s', h7, h8, h9⟩ := h6
    have hk2 : R σ' a'.defers w' (μ s') := ⟨s', h7, h8, rfl⟩
    have := (least_spec hk2).2
    exact ⟨⟨σ', h5, _, hk2⟩, by simp only [e1, e2]; omega⟩
  | _ => exact ⟨σ', h5, h6⟩

/-! ### who may write what -/
/-- Block b is among F's, or newer than w. -/
abbrev Mine (F : Nat → Prop) (w : World) (b : Nat) : Prop := F b ∨ w.heap.size ≤ b
theorem Ext.mine {F : Nat → Prop} {A B : World} {b : Nat} (h : Ext F w A) (k : Ext (fun i => i = b) A B) (hb : Mine F w b) : Ext F w B :=
  ⟨k.os.trans h.os, k.tape.trans h.tape, k.output.trans h.output, Nat.le_trans h.size k.size, fun i hi hm => (k.block i (Nat.lt_of_lt_of_le hi h.size) (fun e => by subst e; rcases hb with hb | hb; exact hm hb; omega)).trans (h.block i hi hm)⟩
theorem Ext.mineO {F : Nat → Prop} {A B : World} {o : Option Nat} (h : Ext F w A) (k : Ext (fun i => o = some i) A B) (hb : ∀ i, o = some i → Mine F w i) : Ext F w B :=
  ⟨k.os.trans h.os, k.tape.trans h.tape, k.output.trans h.output, Nat.le_trans h.size k.size, fun i hi hm => (k.block i (Nat.lt_of_lt_of_le hi h.size) (fun e => by rcases hb i e with hb | hb; exact hm hb; omega)).trans (h.block i hi hm)⟩
theorem Ext.tr {F : Nat → Prop} {A B : World} (h : Ext F w A) (k : Ext Non A B) : Ext F w B := h.trans k.of_non

theorem Mk.out {D : List Deferred} {A B : World} (h : Mk w D A) (hX : Ext Non w A) (hB : Ext (fun i => mark i ∈ D) A B) : Ext Non w B :=
  ((hX.of_non (M := fun i => mark i ∈ D)).trans hB).fresh fun i hi => by
    obtain ⟨r, h1, _, h3⟩ := h.each _ hi
    cases mark_inj h1; exact h3
/-- Marks that are none of N's. -/
def MkN (w : World) (D : List Deferred) (N : Nat → Prop) (A : World) : Prop := Mk w D A ∧ ∀ r, mark r ∈ D → ¬ N r
theorem Stab.mk {n0 : Nat} (w : World) (D : List Deferred) : Stab n0 (fun N A => MkN w D N A) := fun N A B hN hA h hE =>
  ⟨h.1.ext hE h.2, fun r hr => not_grow (h.2 r hr) (by obtain ⟨s, h1, h2, _⟩ := h.1.each _ hr; cases mark_inj h1; exact (Array.getElem?_eq_some_iff.1 h2).1)⟩
theorem Mk.toN {D : List Deferred} {A : World} (h : Mk w D A) : MkN w D Non A := ⟨h, fun _ _ => id⟩
theorem MkN.add {D : List Deferred} {N : Nat → Prop} {A : World} {r : Nat} (h : MkN w D N A) (h1 : A.heap[r]? = some (.deferred (some []))) (h2 : w.heap.size ≤ r) (h3 : N r) : Mk w (mark r :: D) A := h.1.add h1 h2 fun hr => h.2 r hr h3
theorem MkN.non {D : List Deferred} {N : Nat → Prop} {A B : World} (h : MkN w D N A) (hE : Ext Non A B) : MkN w D N B := ⟨h.1.non hE, h.2⟩
theorem MkN.box {D : List Deferred} {N : Nat → Prop} {A B : World} {b : Nat} {cs : List Value} (h : MkN w D N A) (hE : Ext (fun i => i = b) A B) (hb : IsBox A b cs) : MkN w D N B := ⟨h.1.box hE hb, h.2⟩
theorem MkN.lp {D : List Deferred} {N : Nat → Prop} {A B : World} {l : Nat} (h : MkN w D N A) (hE : Ext (fun i => i = l) A B) (hl : N l) : MkN w D N B := ⟨h.1.ext hE (fun r hr e => h.2 r hr (e ▸ hl)), h.2⟩

theorem IsBox.cast {b : Nat} {cs cs' : List Value} (h : IsBox w b cs) (e : cs = cs') : IsBox w b cs' := e ▸ h
section parts
variable {M : Nat → Prop} {a : Addr} {m c k : Nat} {rows : List (List Value)} {i : Nat} {r vs : List Value} {d e s : Nat}
theorem IsBox.part {b o : Nat} {cs : List Value} (h : IsBox w b cs) (hs : (cs.drop o).take s = vs) (hk : o + s ≤ cs.length) (j : Nat) (hj : j < s) : w.cell? ((⟨b, o, none⟩ : Addr).add j) = vs[j]? := by
  rw [h.all s hk j hj, hs]
end parts

/-! ### an iterator's own walk -/
/-- How it stands in an iterator's walk that began in W: what is said of the rounds so far holds; w0 but M is as it was; these blocks are its own. -/
structure Tl (M : Nat → Prop) (w0 W : World) (J : (Nat → Prop) → World → Prop) (bs : List Nat) (A : World) : Prop where
  stab : Stab W.heap.size J
  beg : Ext M w0 W
  ex : ∃ N, (∀ i, N i → W.heap.size ≤ i ∧ i < A.heap.size) ∧ W.heap.size ≤ A.heap.size ∧ J N A ∧ ∀ b ∈ bs, N b
  w0 : Ext M w0 A
variable {M : Nat → Prop} {w0 W A B : World} {J : (Nat → Prop) → World → Prop} {bs : List Nat} {b : Nat}
theorem Tl.trans (h : Tl M w0 W J bs A) (hE : Ext Non A B) : Tl M w0 W J bs B := by
  obtain ⟨N, h1, h2, h3, h4⟩ := h.ex
  refine ⟨h.stab, h.beg, ⟨grow N A B, fun i hi => ?_, Nat.le_trans h2 hE.size, h.stab N A B (fun i hi => (h1 i hi).1) h2 h3 hE.of_non, fun b hb => .inl (h4 b hb)⟩, h.w0.tr hE⟩
  rcases hi with hi | hi
  · exact ⟨(h1 i hi).1, Nat.lt_of_lt_of_le (h1 i hi).2 hE.size⟩
  · exact ⟨by omega, hi.2⟩
theorem Tl.tr (h : Tl M w0 W J bs A) (hE : Ext Non A B) : Tl M w0 W J bs B := h.trans hE
theorem Tl.add (h : Tl M w0 W J bs A) (hE : Ext Non A B) (hb : A.heap.size ≤ b) (hb' : b < B.heap.size) : Tl M w0 W J (b :: bs) B := by
  obtain ⟨N, h1, h2, h3, h4⟩ := h.ex
  refine ⟨h.stab, h.beg, ⟨grow N A B, fun i hi => ?_, Nat.le_trans h2 hE.size, h.stab N A B (fun i hi => (h1 i hi).1) h2 h3 hE.of_non, fun c hc => ?_⟩, h.w0.tr hE⟩
  · rcases hi with hi | hi
    · exact ⟨(h1 i hi).1, Nat.lt_of_lt_of_le (h1 i hi).2 hE.size⟩
    · exact ⟨by omega, hi.2⟩
  · rcases List.mem_cons.1 hc with rfl | hc
    · exact .inr ⟨hb, hb'⟩
    · exact .inl (h4 c hc)
theorem Tl.mine (h : Tl M w0 W J bs A) (hE : Ext (fun i => i = b) A B) (hb : b ∈ bs) : Tl M w0 W J bs B := by
  obtain ⟨N, h1, h2, h3, h4⟩ := h.ex
  have hE' : Ext N A B := hE.mono fun i e => e ▸ h4 b hb
  refine ⟨h.stab, h.beg, ⟨grow N A B, fun i hi => ?_, Nat.le_trans h2 hE.size, h.stab N A B (fun i hi => (h1 i hi).1) h2 h3 hE', fun b hb => .inl (h4 b hb)⟩, ?_⟩
  · rcases hi with hi | hi
    · exact ⟨(h1 i hi).1, Nat.lt_of_lt_of_le (h1 i hi).2 hE.size⟩
    · exact ⟨by omega, hi.2⟩
  · exact h.w0.mine hE (.inr (Nat.le_trans h.beg.size (h1 b (h4 b hb)).1))
theorem Tl.less {bs' : List Nat} (h : Tl M w0 W J bs A) (hb : ∀ b ∈ bs', b ∈ bs) : Tl M w0 W J bs' A := by
  obtain ⟨N, h1, h2, h3, h4⟩ := h.ex
  exact ⟨h.stab, h.beg, ⟨N, h1, h2, h3, fun b hb' => h4 b (hb b hb')⟩, h.w0⟩
theorem Tl.size (h : Tl M w0 W J bs A) : W.heap.size ≤ A.heap.size := by obtain ⟨N, _, h2, _⟩ := h.ex; exact h2
/-- What a yield that was asked for more may turn. -/
abbrev Yw (M : Nat → Prop) (w0 : World) (bs : List Nat) : Nat → Prop := fun i => ¬ i ∈ bs ∧ (M i ∨ w0.heap.size ≤ i)
/-- **An iterator, by the walk of its code.** -/
theorem iter_of {α : Type} {encs : α → Array Value} {xs : List α} {f : FuncId} {cap : Array Value} (hf : entersB P f = true)
    (h : ∀ (l : Nat) (W : World) (J : List α → (Nat → Prop) → World → Prop) (Jx : (Nat → Prop) → World → Prop), Ext M w0 W → Tl M w0 W (J []) [] W → 
      (∀ pre x post bs A, xs = pre ++ x :: post → Tl M w0 W (J pre) bs A → YieldOk P l (encs x) A fun b B => Ext (Yw M w0 bs) A B ∧ (b = true → Tl M w0 W (J (pre ++ [x])) bs B) ∧ (b = false → Tl M w0 W Jx bs B)) →
      Calls P f (#[.func (.yield l) #[] #[]] ++ cap) W fun e W' => ∃ v, e = .returned v ∧ (Tl M w0 W (J xs) [] W' ∨ Tl M w0 W Jx [] W')) : Iter P M w0 (.func (.func f) #[] cap) encs xs := by
  refine ⟨f, cap, rfl, hf, fun l W J Jx hW hJ hJx hY h0 => ?_⟩
  refine Calls.mono (h l W J Jx hW ⟨hJ [], hW, ⟨Non, fun _ h => h.elim, Nat.le_refl _, h0, by simp⟩, hW⟩ ?_) ?_
  · intro pre x post bs A hx hT
    obtain ⟨N, h1, h2, h3, h4⟩ := hT.ex
    obtain ⟨fn, tmps, assign, body, hy, hr⟩ := hY N pre x A h1 h2 h3 ⟨post, hx⟩
    refine ⟨fn, tmps, assign, body, hy, hr.mono ?_⟩
    rintro e B ⟨b, he, hE, ht, hf⟩
    have hE' : Ext (Yw M w0 bs) A B := hE.mono fun i hi => ⟨fun hb => hi.1 (h4 i hb), hi.2⟩
    have hw : Ext M w0 B := ⟨hE.os.trans hT.w0.os, hE.tape.trans hT.w0.tape, hE.output.trans hT.w0.output, Nat.le_trans hT.w0.size hE.size, fun i hi hm => (hE.block i (Nat.lt_of_lt_of_le hi hT.w0.size) (fun h => by rcases h.2 with h | h; exact hm h; omega)).trans (hT.w0.block i hi hm)⟩
    have hN : ∀ i, N i → W.heap.size ≤ i ∧ i < B.heap.size := fun i hi => ⟨(h1 i hi).1, Nat.lt_of_lt_of_le (h1 i hi).2 hE.size⟩
    exact ⟨b, he, hE', fun hb => ⟨hJ _, hW, ⟨N, hN, Nat.le_trans h2 hE.size, ht hb, h4⟩, hw⟩, fun hb => ⟨hJx, hW, ⟨N, hN, Nat.le_trans h2 hE.size, hf hb, h4⟩, hw⟩⟩
  · rintro e W' ⟨v, he, hT | hT⟩
    · obtain ⟨N, h1, h2, h3, _⟩ := hT.ex; exact ⟨v, N, he, h2, h1, .inl h3⟩
    · obtain ⟨N, h1, h2, h3, _⟩ := hT.ex; exact ⟨v, N, he, h2, h1, .inr h3⟩

/-! ### literal slices of one element; slices of one's own, by their block -/
theorem wl_lit1 {t e : TypeId} {k bytes : Nat} {z : List Value} (hT : SliceT P t e k bytes z) (hz : z.length = k) {d : Nat} {x : Operand} {v : Value} {r : List Value} (hx : ev σ x = v) (hv : v.cells.toList = r) (hr : r.length = k) (hk : k ≤ 16777216)
    (kk : ∀ v w' b, w.heap.size ≤ b → Ext Non w w' → Ow w' v b k [r] [] → wl P ops rest K (upd σ d v) w') : wl P ops (⟨some d, .buildSlice t 1 #[(0, x)], ty, pos, af, none⟩ :: rest) K σ w := by
  subst hx
  have hsz : (ev σ x).cells.size = k := by rw [← hr, ← hv]; simp
  refine wl_lit (parts := [(0, x)]) (rows := [r]) hT hz (by omega) (by decide) rfl rfl (by simpa using hr) (by simpa using hsz) ?_ kk
  simp only [List.map_cons, List.map_nil, List.foldl_cons, List.foldl_nil, Nat.zero_mul, List.replicate_one, List.flatten_cons, List.flatten_nil, List.append_nil, hv]
  exact patch_all (by rw [hr, hz])
/-- The call's own slice, in block o, or nil. -/
def OwO (w : World) (v : Value) (o : Option Nat) (k : Nat) (rows : List (List Value)) : Prop :=
  (v = .slice none 0 0 ∧ rows = [] ∧ o = none) ∨ ∃ b spare, o = some b ∧ Ow w v b k rows spare
theorem OwO.nil {k : Nat} : OwO w (.slice none 0 0) none k [] := .inl ⟨rfl, rfl, rfl⟩
theorem OwO.sl {v : Value} {o : Option Nat} {k : Nat} {rows : List (List Value)} (h : OwO w v o k rows) {M : Nat → Prop} (hm : ∀ i, o = some i → ¬ M i) : Sl M w v k rows := by
  rcases h with ⟨rfl, rfl, _⟩ | ⟨b, spare, hB, h⟩
  · exact Sl.nil _ _ _
  · exact h.sl (hm b hB)
theorem OwO.ext {v : Value} {o : Option Nat} {k : Nat} {rows : List (List Value)} (h : OwO w v o k rows) {M : Nat → Prop} {w' : World} (hE : Ext M w w') (hm : ∀ i, o = some i → ¬ M i) : OwO w' v o k rows := by
  rcases h with ⟨rfl, rfl, h⟩ | ⟨b, spare, hB, h⟩
  · exact .inl ⟨rfl, rfl, h⟩
  · exact .inr ⟨b, spare, hB, h.ext hE (hm b hB)⟩
theorem OwO.lt {v : Value} {o : Option Nat} {k : Nat} {rows : List (List Value)} (h : OwO w v o k rows) {i : Nat} (hi : o = some i) : i < w.heap.size := by
  rcases h with ⟨_, _, h⟩ | ⟨b, spare, hB, h⟩
  · rw [hi] at h; cases h
  · rw [hi] at hB; cases hB; exact h.box.lt
theorem OwO.len {v : Value} {o : Option Nat} {k : Nat} {rows : List (List Value)} (h : OwO w v o k rows) : ∃ a c, v = .slice a rows.length c := by
  rcases h with ⟨rfl, rfl, _⟩ | ⟨b, spare, hB, h⟩
  · exact ⟨_, _, rfl⟩
  · obtain ⟨c, h, _⟩ := h.val; exact ⟨_, _, h⟩
/-- The walk's step for append(s, x...), s the call's own or nil, by its block. -/
theorem wl_app {t e : TypeId} {k bytes : Nat} {z : List Value} (hT : SliceT P t e k bytes z) (hz : z.length = k) {M' : Nat → Prop} {s x : Operand} {d : Nat} {v vx : Value} {o : Option Nat} {rows rows2 : List (List Value)}
    (hsv : ev σ s = v) (hxv : ev σ x = vx) (hs : OwO w v o k rows) (hx : Sl M' w vx k rows2) (h1 : ∀ r ∈ rows2, ∀ u ∈ r, u.oneCell' = true) (hb : (rows.length + rows2.length) * bytes ≤ 140737488355328) (h63 : rows.length + rows2.length ≤ big)
    (kk : ∀ v' w' o', Ext (fun i => o = some i) w w' → OwO w' v' o' k (rows ++ rows2) → (∀ i, o' = some i → o = some i ∨ w.heap.size ≤ i) → wl P ops rest K (upd σ d v') w') : wl P ops (⟨some d, .call ⟨.builtin .append, #[s, x], #[t, t]⟩, ty, pos, af, none⟩ :: rest) K σ w := by
  obtain ⟨a2, c2, rfl, _⟩ := hx.len
  have key : ∃ v' w' o', (Builtin.append_ #[t, t] ty #[v, .slice a2 rows2.length c2]).run P w = .ok v' w' ∧ Ext (fun i => o = some i) w w' ∧ OwO w' v' o' k (rows ++ rows2) ∧ (∀ i, o' = some i → o = some i ∨ w.heap.size ≤ i) := by
    rcases hs with ⟨rfl, rfl, rfl⟩ | ⟨b, spare, rfl, h⟩
    · obtain ⟨v', w', h2, h3, h4⟩ := run_append_own' hT hz (OwN.nil w w.heap.size k) hx h1 (Nat.le_refl _) hb h63 ty
      have h5 : Ext (fun i => (none : Option Nat) = some i) w w' := (h3.fresh fun i h => h).of_non
      rcases h4 with ⟨rfl, e⟩ | ⟨b, sp, hB, h4⟩
      · exact ⟨_, w', none, h2, h5, .inl ⟨rfl, e, rfl⟩, fun i h => by cases h⟩
      · exact ⟨v', w', some b, h2, h5, .inr ⟨b, sp, rfl, h4⟩, fun i h => by cases h; exact .inr hB⟩
    · obtain ⟨c, hv, hc1, hc2, hc3⟩ := h.val
      by_cases hroom : rows.length + rows2.length ≤ c
      · obtain ⟨v', w', sp, h2, h3, h4⟩ := run_append_room' hT h hx h1 ⟨_, c, hv, hroom⟩ ty
        exact ⟨v', w', some b, h2, h3.mono (fun i e => by rw [e]), .inr ⟨b, sp, rfl, h4⟩, fun i h => .inl h⟩
      · have hsl := h.sl (M := Non) id
        subst hv
        obtain ⟨v', w', sp, h2, h3, h4⟩ := run_append_grow' hT hz hsl hx (by omega) hb h63 ty
        exact ⟨v', w', some w.heap.size, h2, h3.of_non, .inr ⟨_, sp, rfl, h4⟩, fun i h => by cases h; exact .inr (Nat.le_refl _)⟩
  obtain ⟨v', w', o', h2, h3, h4, h5⟩ := key
  refine wl_new (w' := w') (v := v') ?_ (kk v' w' o' h3 h4 h5)
  show (execOp (ev σ) _).run P w = _
  simp [execOp, resolve, invoke, builtin, hsv, hxv, h2]
/-- A literal struct, by a test. -/
theorem rn_build' {t : TypeId} {pl : List (Nat × Nat)} {z : List Value} (hT : BuildT P t pl z) {parts : List (Nat × Operand)} {vals : List (Nat × Value)} {cs : List Value} (hv : parts.map (fun p => (p.1, ev σ p.2)) = vals)
    (hp : (vals.all fun p => match pl[p.1]? with | some (o, s) => p.2.cells.size == s && Nat.ble (o + s) z.length | none => false) = true) (hr : fillL pl z vals = cs) :
    Rn P σ w ⟨dst, .build t parts.toArray, ty, pos, af, g⟩ (.agg cs.toArray) := rn_build hT hv (fun p hp' => by
      have := List.all_eq_true.1 hp p hp'
      cases h : pl[p.1]? with
      | none => simp [h] at this
      | some x => obtain ⟨o, s⟩ := x; simp [h] at this; exact ⟨o, s, rfl, this⟩) hr
end Go.Proofs.YthcclgoidchkdaaDoorC

/- The program's records as lists of cells. -/
set_option linter.unusedVariables false
set_option linter.unusedSimpArgs false
namespace Go.Proofs.YthcclgoidchkdaaDoorC
open Go.RowKit
structure MsgD where
  topic : Str
  payload : Str
  kept : Bool
  deriving DecidableEq
def MsgD.enc (m : MsgD) : List Value := [Sv m.topic, Sv m.payload, .bool m.kept]
structure OpD where
  kind : Int
  sub : Int
  text : Str
  payload : Str
  keep : Bool
  deriving DecidableEq
def OpD.enc (o : OpD) : List Value := [.int .i64 o.kind, .int .i64 o.sub, Sv o.text, Sv o.payload, .bool o.keep]
structure AnsD where
  err : Int
  a : Int
  b : Int
  msg : MsgD
  deriving DecidableEq
def AnsD.enc (x : AnsD) : List Value := [.int .i64 x.err, .int .i64 x.a, .int .i64 x.b] ++ x.msg.enc
structure CallD where
  thread : Int
  place : Int
  op : OpD
  ans : AnsD
  from_ : Int
  to_ : Int
  deriving DecidableEq
def CallD.enc (c : CallD) : List Value := [.int .i64 c.thread, .int .i64 c.place] ++ c.op.enc ++ c.ans.enc ++ [.int .i64 c.from_, .int .i64 c.to_]
theorem MsgD.one (m : MsgD) : ∀ v ∈ m.enc, v.oneCell' = true := by intro v hv; simp only [MsgD.enc, List.mem_cons, List.not_mem_nil, or_false] at hv; rcases hv with rfl | rfl | rfl <;> rfl
theorem OpD.one (m : OpD) : ∀ v ∈ m.enc, v.oneCell' = true := by intro v hv; simp only [OpD.enc, List.mem_cons, List.not_mem_nil, or_false] at hv; rcases hv with rfl | rfl | rfl | rfl | rfl <;> rfl
theorem AnsD.one (m : AnsD) : ∀ v ∈ m.enc, v.oneCell' = true := by
  intro v hv; simp only [AnsD.enc, List.mem_append, List.mem_cons, List.not_mem_nil, or_false] at hv
  rcases hv with (rfl | rfl | rfl) | h
  all_goals first | rfl | exact MsgD.one _ _ h
theorem CallD.one (m : CallD) : ∀ v ∈ m.enc, v.oneCell' = true := by
  intro v hv; simp only [CallD.enc, List.mem_append, List.mem_cons, List.not_mem_nil, or_false] at hv
  rcases hv with (((rfl | rfl) | h) | h) | (rfl | rfl)
  all_goals first | rfl | exact OpD.one _ _ h | exact AnsD.one _ _ h
theorem msg_eqs (x y : MsgD) : EqS Tryd.prog 2 32 (.agg x.enc.toArray) (.agg y.enc.toArray) (decide (x = y)) := by
  have h := eqs_struct (P := Tryd.prog) (t := 32) (m := 1) (xs := x.enc.toArray) (ys := y.enc.toArray) (by kernel_rfl) sh_32 fs_32
    (EqF.cons rfl (part_1 p_9 rfl) (part_1 p_9 rfl) (eqs_str us_9) (EqF.cons rfl (part_1 p_9 rfl) (part_1 p_9 rfl) (eqs_str us_9) (EqF.cons rfl (part_1 p_4 rfl) (part_1 p_4 rfl) (eqs_bool ub_4) .nil)))
  rw [show decide (x = y) = (decide (x.topic = y.topic) && (decide (x.payload = y.payload) && (decide (x.kept = y.kept) && true))) from ?_]
  · exact h
  · obtain ⟨a, b, c⟩ := x; obtain ⟨a', b', c'⟩ := y
    by_cases h1 : a = a' <;> by_cases h2 : b = b' <;> by_cases h3 : c = c' <;> simp [h1, h2, h3]
theorem map_at {α : Type} {f : α → List Value} {l : List α} {i : Nat} {x : α} (h : l[i]? = some x) : (l.map f)[i]? = some (f x) := by simp [h]
end Go.Proofs.YthcclgoidchkdaaDoorC

/- Writing into slices of one's own, making and copying slices, contracts of functions that write, in the calculus; each rule holds of whatever program. -/
set_option linter.unusedVariables false
set_option linter.unusedSimpArgs false
namespace Go.Proofs.YthcclgoidchkdaaDoorC
open Go.RowKit
variable {ro : Option Nat} {P : Program} {n : Nat} {Q : Post} {σ : Env} {D : List Deferred} {w : World} {dst : Option Nat} {ty : TypeId} {pos : String} {af : Array Edge} {g : Option (Nat × Bool)}
variable {ops rest : List Oper} {K : Ops}

/-! ### contracts of functions that write -/
def FnM (P : Program) (M : Nat → Prop) (f : FuncId) (args : Array Value) (w : World) (R : Value → World → Prop) : Prop :=
  Calls P f args w fun e w' => ∃ v, e = .returned v ∧ Ext M w w' ∧ R v w'
theorem fnM_of_W {M : Nat → Prop} {f : FuncId} {fn : Func} {c : Code} {args : List Value} {R : Value → World → Prop} (hf : P.funcs[f]? = some fn) (hb : fn.body = some c) (hk : okc fn.ntmps c = true) (hl' : Nat.ble args.length fn.ntmps = true)
    (h : W none P fn.ntmps c (RetQ P fn.results.toList (fun v w' => Ext M w w' ∧ R v w')) (env0 args) [] w) : FnM P M f args.toArray w R :=
  calls_of_W hf hb hk hl' h
theorem wl_callM {M : Nat → Prop} {f : FuncId} {ags : List Operand} {ts : Array TypeId} {args : List Value} {R : Value → World → Prop} (hf : entersB P f = true) (ha : ags.map (ev σ) = args) (h : FnM P M f args.toArray w R)
    (k : ∀ v w', Ext M w w' → R v w' → wl P ops rest K (put σ dst v) w') : wl P ops (⟨dst, .call ⟨.value (.func f), ags.toArray, ts⟩, ty, pos, af, none⟩ :: rest) K σ w := by
  show step1 P ops _ σ w _
  rw [step1_none]; unfold op1
  have e : (execOp (ev σ) ⟨dst, .call ⟨.value (.func f), ags.toArray, ts⟩, ty, pos, af, none⟩).run P w = .ok (.enter f args.toArray) w := by
    simp [execOp, resolve, ev, ha, Deferred.ofValue, invoke, run_enters hf]
  rw [e]
  exact Calls.mono h fun e w' hx => by obtain ⟨v, h1, h2, h3⟩ := hx; exact ⟨v, h1, k v w' h2 h3⟩

/-! ### rows -/
def patchR (rows : List (List Value)) (l : Nat) (rs : List (List Value)) : List (List Value) := rows.take l ++ rs ++ rows.drop (l + rs.length)
theorem patchR_length {rows : List (List Value)} {l : Nat} {rs : List (List Value)} (h : l + rs.length ≤ rows.length) : (patchR rows l rs).length = rows.length := by simp [patchR]; omega
theorem flat_take {k : Nat} {rows : List (List Value)} (h : ∀ r ∈ rows, r.length = k) (l : Nat) (hl : l ≤ rows.length) : rows.flatten.take (l * k) = (rows.take l).flatten := by
  conv => lhs; rw [← List.take_append_drop l rows, List.flatten_append]
  have e : (rows.take l).flatten.length = l * k := by rw [flat_len (fun r hr => h r (List.mem_of_mem_take hr)), List.length_take, Nat.min_eq_left hl]
  rw [List.take_append_of_le_length (by omega), List.take_of_length_le (by omega)]
theorem flat_drop {k : Nat} {rows : List (List Value)} (h : ∀ r ∈ rows, r.length = k) (l : Nat) (hl : l ≤ rows.length) : rows.flatten.drop (l * k) = (rows.drop l).flatten := by
  conv => lhs; rw [← List.take_append_drop l rows, List.flatten_append]
  have e : (rows.take l).flatten.length = l * k := by rw [flat_len (fun r hr => h r (List.mem_of_mem_take hr)), List.length_take, Nat.min_eq_left hl]
  rw [List.drop_append_of_le_length (by omega), List.drop_of_length_le (by omega), List.nil_append]
theorem flat_patch {k : Nat} {rows rs : List (List Value)} (h : ∀ r ∈ rows, r.length = k) (h2 : ∀ r ∈ rs, r.length = k) (l : Nat) (hl : l + rs.length ≤ rows.length) (sp : List Value) : patch (rows.flatten ++ sp) (l * k) rs.flatten = (patchR rows l rs).flatten ++ sp := by
  have e1 : rows.flatten.length = rows.length * k := flat_len h
  have e2 : rs.flatten.length = rs.length * k := flat_len h2
  have e3 : l * k + rs.length * k ≤ rows.length * k := by rw [← Nat.add_mul]; exact Nat.mul_le_mul_right _ hl
  unfold patch patchR
  rw [List.take_append_of_le_length (by omega), flat_take h l (by omega), e2, ← Nat.add_mul, List.drop_append_of_le_length (by rw [e1]; exact Nat.mul_le_mul_right _ hl), flat_drop h _ hl]
  simp
/-- A call's own slice, its elements from number l on written over. -/
theorem Ow.write {v : Value} {b k : Nat} {rows : List (List Value)} {spare : List Value} (h : Ow w v b k rows spare) {rs : List (List Value)} (hr : ∀ r ∈ rs, r.length = k) (h1 : ∀ r ∈ rs, ∀ u ∈ r, u.oneCell' = true) (l : Nat) (hl : l + rs.length ≤ rows.length) :
    ∃ w', (storeCells ⟨b, l * k, none⟩ rs.flatten).run P w = .ok () w' ∧ Ext (fun i => i = b) w w' ∧ Ow w' v b k (patchR rows l rs) spare ∧ w'.heap.size = w.heap.size := by
  obtain ⟨⟨c, hv, hc1, hc2, hc3⟩, ⟨T, hbox⟩, heach⟩ := h
  have e1 := flat_len heach
  have e2 := flat_len hr
  obtain ⟨w', h2, h3, h4, h5⟩ := run_storeBox (P := P) b T rs.flatten (l * k) 0 (rows.flatten ++ spare) w hbox (fun u hu => by obtain ⟨r, hr', hu⟩ := List.mem_flatten.1 hu; exact h1 r hr' u hu)
    (by simp only [List.length_append]; rw [e1, e2, Nat.add_zero, ← Nat.add_mul]; exact Nat.le_trans (Nat.mul_le_mul_right _ hl) (Nat.le_add_right _ _))
  rw [Nat.add_zero, flat_patch heach hr l hl] at h4
  refine ⟨w', h2, h3, ⟨⟨c, by rw [patchR_length hl]; exact hv, by rw [patchR_length hl]; exact hc1, hc2, by rw [patchR_length hl]; exact hc3⟩, ⟨T, h4⟩, fun r hr' => ?_⟩, h5⟩
  simp only [patchR, List.append_assoc, List.mem_append] at hr'
  rcases hr' with hr' | hr' | hr'
  · exact heach r (List.mem_of_mem_take hr')
  · exact hr r hr'
  · exact heach r (List.mem_of_mem_drop hr')

/-! ### make, copy, append, clear -/
theorem zeros_flat {z : List Value} {k n : Nat} {zc : Array Value} (hz : z.length = k) (hzc : zc.toList = z) : (Builtin.zeroCells zc n).toList = (List.replicate n z).flatten := by
  have hs : zc.size = k := by rw [← hz, ← hzc]; simp
  apply List.ext_getElem
  · simp [Builtin.zeroCells, hz, hs]
  · intro i h1 h2
    simp only [List.length_flatten, List.map_replicate, hz, List.sum_replicate_nat] at h2
    have hk0 : 0 < k := Nat.pos_of_ne_zero (fun e => by simp [e] at h2)
    have hik : i / k < n := Nat.div_lt_of_lt_mul (by rw [Nat.mul_comm]; exact h2)
    have e1 : (List.replicate n z).flatten[i / k * k + i % k]? = ((List.replicate n z)[i / k]'(by simpa using hik))[i % k]? := flat_at (k := k) (fun r hr => by rw [List.eq_of_mem_replicate hr, hz]) (i / k) (i % k) (by simpa using hik) (Nat.mod_lt _ hk0)
    rw [Nat.div_add_mod' i k] at e1
    have e2 : (List.replicate n z).flatten[i]? = some (z[i % k]'(by rw [hz]; exact Nat.mod_lt _ hk0)) := by rw [e1]; simp
    obtain ⟨_, e3⟩ := List.getElem?_eq_some_iff.1 e2
    rw [e3]
    have hlt : i % zc.size < zc.size := Nat.mod_lt _ (by omega)
    simp only [Builtin.zeroCells, Array.getElem_toList, Array.getElem_map, Array.getElem_range]
    have e5 : zc[i % zc.size]! = zc[i % zc.size]'hlt := by simp [hlt]
    rw [e5]
    subst hzc
    simp [hs]
section
variable {t e : TypeId} {k bytes : Nat} {z : List Value}
/-- make([]T, m) -/
theorem wl_make (hT : SliceT P t e k bytes z) (hz : z.length = k) {l c : Operand} {m d : Nat} (hl : ev σ l = .int .i64 m) (hc : ev σ c = .int .i64 m) (hb : m * bytes ≤ 140737488355328) (hm : m ≤ big)
    (kk : ∀ w' b, w.heap.size ≤ b → Ext Non w w' → Ow w' (.slice (some ⟨b, 0, none⟩) m m) b k (List.replicate m z) [] → wl P ops rest K (upd σ d (.slice (some ⟨b, 0, none⟩) m m)) w') : wl P ops (⟨some d, .makeSlice t l c, ty, pos, af, none⟩ :: rest) K σ w := by
  obtain ⟨inf, v0, i1, i2, i3, i4, i5⟩ := hT.inf
  have hcells : ∀ zr : Array Value, (m * k = 0 → zr = #[]) → (¬ m * k = 0 → zr = v0.cells) → ((Array.range (m * k)).map (zr[· % zr.size]!)).toList = (List.replicate m z).flatten := by
    intro zr h0 h1
    by_cases hmk : m * k = 0
    · rw [h0 hmk, hmk]
      have : (List.replicate m z).flatten.length = 0 := by simp [hz, hmk]
      rw [List.length_eq_zero_iff.1 this]; simp
    · rw [h1 hmk]
      have := zeros_flat (n := m) hz i5
      have hs : v0.cells.size = k := by rw [← hz, ← i5]; simp
      rw [← this, Builtin.zeroCells, hs]
  refine wl_new (w' := w.alloc (.cells ((Array.range (m * k)).map ((if m * k = 0 then #[] else v0.cells)[· % (if m * k = 0 then #[] else v0.cells).size]!)) e)) (v := .slice (some ⟨w.heap.size, 0, none⟩) m m) ?_
    (kk _ _ (Nat.le_refl _) (Ext.alloc _ _) ⟨⟨m, by simp, by simp, hm, by simp⟩, ?_, fun r hr => by rw [List.eq_of_mem_replicate hr, hz]⟩)
  · show (execOp (ev σ) _).run P w = _
    have hw : IntKind.i64.wrap (m : Int) = m := wrap_id (by simp only [big] at hm; omega)
    have hmax : ¬ ((bytes : Int) * (m : Int) > 2 ^ 48) := by
      have : ((bytes * m : Nat) : Int) ≤ 140737488355328 := by rw [Nat.mul_comm]; omega
      rw [Int.natCast_mul] at this; omega
    have hneg : ¬ ((m : Int) < 0) := by omega
    have hai : ∀ w', (asInt (.int .i64 (m : Int))).run P w' = .ok (m : Int) w' := fun w' => by simp [asInt, asIntOf]
    have hmax' : ¬ ((281474976710656 : Int) < (bytes : Int) * (m : Int)) := by omega
    by_cases h0 : m * k = 0
    · simp [execOp, Instr.makeSlice, hl, hc, hai, run_underlying hT.under, typeInfo, i1, hw, i3, hmax', hneg, run_sizeOf' i1, i2, h0, newRow]
    · simp [execOp, Instr.makeSlice, hl, hc, hai, run_underlying hT.under, typeInfo, i1, hw, i3, hmax', hneg, run_sizeOf' i1, i2, h0, newRow, zeroValue, i4]
  · have := box_alloc w ((Array.range (m * k)).map ((if m * k = 0 then #[] else v0.cells)[· % (if m * k = 0 then #[] else v0.cells).size]!)) e
    rw [hcells _ (fun h => by rw [if_pos h]) (fun h => by rw [if_neg h])] at this
    rw [List.append_nil]; exact this
end
theorem wrap_u64 {a : Int} (h : 0 ≤ a ∧ a ≤ 18446744073709551615) : IntKind.u64.wrap a = a := by
  have h1 := h.1
  have h2 := h.2
  simp only [IntKind.wrap, IntKind.signed, IntKind.bits]
  simp
  omega
/-- An element of one's own slice written over: an element of one cell. -/
theorem wl_storeE {t : TypeId} (hT : plainT P t) {x y : Operand} {v u : Value} {b i : Nat} {rows : List (List Value)} {spare : List Value} (hx : ev σ x = .pointer (some ((⟨b, 0, none⟩ : Addr).add (i * 1)))) (hy : ev σ y = u) (h1 : u.oneCell' = true) (hc : u.cells = #[u]) (hs : Ow w v b 1 rows spare) (hi : i < rows.length)
    (kk : ∀ w', Ext (fun i => i = b) w w' → Ow w' v b 1 (rows.set i [u]) spare → wl P ops rest K σ w') : wl P ops (⟨none, .store t x y, ty, pos, af, none⟩ :: rest) K σ w := by
  obtain ⟨w', e1, e2, e3, e4⟩ := hs.write (P := P) (rs := [[u]]) (by simp) (by simpa using h1) i (by simp; omega)
  have hp : patchR rows i [[u]] = rows.set i [u] := by
    unfold patchR
    rw [List.set_eq_take_append_cons_drop, if_pos hi]; simp
  rw [hp] at e3
  refine wl_do (w' := w') ?_ (kk w' e2 e3)
  show (execOp (ev σ) _).run P w = _
  rw [add_at, Nat.zero_add] at hx
  have e1' : (storeCells ⟨b, i * 1, none⟩ [u]).run P w = .ok () w' := by simpa using e1
  have e7 : (storeCells ⟨b, i, none⟩ [u]).run P w = .ok () w' := by rw [Nat.mul_one] at e1'; exact e1'
  have e8 : ev σ x = .pointer (some ⟨b, i, none⟩) := by rw [hx, Nat.mul_one]
  simp [execOp, e8, hy, Instr.storeAt, Instr.sureAddr, storeVar, run_size hT.2, hc, e7]
theorem one1 {v : Value} (h : v.oneCell' = true) : ∀ u ∈ [v], u.oneCell' = true := by intro u hu; rw [List.mem_singleton] at hu; rw [hu]; exact h
/-- A region whose order is drawn, in which blocks of F's are written. -/
theorem W_drawF (F : Nat → Prop) {id : Nat} {l : List Oper} (hm : P.follows .mixedOrders = true)
    (h : ∀ w1, Ext Non w w1 → wd P l (fun A => Ext F w1 A) (fun σ' w' => Q .normal σ' D w') l.length (Array.replicate l.length false) σ w1) : W ro P n (.region id l.toArray true) Q σ D w :=
  W_draw _ hm (h _ (Ext.refl _ _).drew)
/-- The call's own slice, of a block that is none of N's and not older than lo. -/
def OwX (lo : Nat) (N : Nat → Prop) (A : World) (v : Value) (o : Option Nat) (k : Nat) (rows : List (List Value)) : Prop := OwO A v o k rows ∧ ∀ i, o = some i → ¬ N i ∧ lo ≤ i
theorem OwX.ext {lo : Nat} {N : Nat → Prop} {A B : World} {v : Value} {o : Option Nat} {k : Nat} {rows : List (List Value)} (h : OwX lo N A v o k rows) {M : Nat → Prop} (hE : Ext M A B) (hm : ∀ i, o = some i → ¬ M i) : OwX lo N B v o k rows := ⟨h.1.ext hE hm, h.2⟩
end Go.Proofs.YthcclgoidchkdaaDoorC

/- A region that draws its order and writes at its end: some operations may leave the class of worlds; the rules of CoreC, but for these; each rule holds of whatever program. -/
set_option linter.unusedVariables false
set_option linter.unusedSimpArgs false
namespace Go.Proofs.YthcclgoidchkdaaDoorC
open Go.RowKit
variable {ro : Option Nat} {P : Program} {n : Nat} {Q : Post} {σ : Env} {D : List Deferred} {w : World} {S : World → Prop} {K : Ops} {ex : Nat → Bool}
/-- Whatever order is picked from here on; S holds behind each operation. -/
def wx (P : Program) (ops : List Oper) (ex : Nat → Bool) (S : World → Prop) (K : Ops) : Nat → Array Bool → Env → World → Prop
  | 0, listed, σ, w => Region.ready .any ops.toArray listed = [] ∧ K σ w
  | f + 1, listed, σ, w => (Region.ready .any ops.toArray listed = [] → K σ w) ∧
    ∀ i ∈ Region.ready .any ops.toArray listed, ∀ o, ops[i]? = some o → step1 P ops o σ w (fun σ' w' => (ex i = false → S w') ∧ wx P ops ex S K f (listed.setIfInBounds i true) σ' w')
theorem wx_sound {ops : List Oper} (hops : okOps n ops = true) (hnd : noDefer ops = true) : ∀ (f : Nat) (listed : Array Bool) (σ : Env) (a : Act) (w : World), Sim n a σ → wx P ops ex S K f listed σ w →
    wpAnyIn (fz ro) 0 P .any ops.toArray (fun e a' w' => e = .normal ∧ ∃ σ', Sim n a' σ' ∧ a'.defers = a.defers ∧ K σ' w') f listed a w
  | 0, listed, σ, a, w, hs, h => ⟨h.1, rfl, σ, hs, rfl, h.2⟩
  | f + 1, listed, σ, a, w, hs, h => by
    refine ⟨fun h0 => ⟨rfl, σ, hs, rfl, h.1 h0⟩, fun i hi => ?_⟩
    unfold wpOpIn
    cases ho : ops.toArray[i]? with
    | none => obtain ⟨_, o, ho', _⟩ := mem_ready.1 hi; rw [ho] at ho'; cases ho'
    | some o =>
      have ho' : ops[i]? = some o := by simpa using ho
      have hmem := List.mem_of_getElem? ho'
      have hdst : ∀ d, o.dst = some d → d < n := fun d e => by
        have := List.all_eq_true.1 hops o hmem; rw [e] at this; simpa using this
      have hd : ∀ v, (a.put o.dst v).defers = a.defers := fun v => by cases o.dst <;> rfl
      have h1 := h.2 i hi o ho'
      simp only
      rw [wanted_sim hs hops]
      unfold step1 at h1
      by_cases hw : wantedBy ops σ o = true
      · rw [if_pos hw] at h1 ⊢
        refine op1_sound hs hdst (List.all_eq_true.1 hnd o hmem) (fun a' σ' w' hs' hd' hk => ?_) h1
        have := wx_sound hops hnd f _ σ' a' w' hs' hk.2
        rw [hd'] at this; exact this
      · rw [if_neg hw] at h1 ⊢
        refine ⟨fun f _ => fz_fn ro f, ?_⟩
        have := wx_sound hops hnd f _ _ _ w (hs.put o.dst undef hdst) h1.2
        rw [hd] at this; exact this
theorem W_drawX0 {id : Nat} {l : List Oper} (S : World → Prop) (hm : P.follows .mixedOrders = true)
    (h : wx P l ex S (fun σ' w' => Q .normal σ' D w') l.length (Array.replicate l.length false) σ { w with drawn := w.drawn + 1 }) : W ro P n (.region id l.toArray true) Q σ D w := by
  intro hk a hs hd
  simp only [okc, Bool.and_eq_true] at hk
  refine wpIn_mono (wpIn_region_any hm (by simpa using wx_sound (ro := ro) hk.1 hk.2 _ _ _ a _ hs h)) ?_
  rintro e a' w' ⟨rfl, σ', hs', hd', hk'⟩
  exact ⟨σ', hs', by rw [hd', hd]; exact hk'⟩

/-- D's operations come behind number i; so do all that may leave S. -/
structure Beh (ops : List Oper) (ex : Nat → Bool) (i : Nat) (D : List Nat) (listed : Array Bool) : Prop where
  inc : ∀ j oj, ops[j]? = some oj → ex j = true → j ∈ D
  cls : ∀ j oj, ops[j]? = some oj → j ∈ D → ∃ e ∈ oj.after, Region.binds .any e = true ∧ (e.on = i ∨ e.on ∈ D)
  non : ∀ j, j ∈ D → listed.getD j true = false
theorem wx_first {ops : List Oper} {i : Nat} {oi : Oper} {v : Value} {DL : List Nat} (hi : ops[i]? = some oi) (hsel : Region.noSelect ops.toArray = true) : ∀ (f : Nat) (listed : Array Bool) (σ : Env) (w : World),
    Beh ops ex i DL listed →
    (∀ j oj, ops.toArray[j]? = some oj → j ≠ i → listed.getD j true = false → (∀ e ∈ oj.after, Region.binds .any e = true → e.on ≠ i) → oi.apart ops.toArray oj = true) →
    i ∈ Region.ready .any ops.toArray listed → Yd P ops S oi v σ → S w →
    wx P ops ex S K f (listed.setIfInBounds i true) (put σ oi.dst v) w → wx P ops ex S K (f + 1) listed σ w
  | 0, listed, σ, w, _, _, hr, hy, hS, H => by
    refine ⟨fun h => (by rw [h] at hr; cases hr), fun j hj o ho => ?_⟩
    by_cases hji : j = i
    · subst hji; rw [hi] at ho; cases ho; exact hy.step hS ⟨fun _ => hS, H⟩
    · have := ready_mono hj hji
      rw [H.1] at this; cases this
  | f + 1, listed, σ, w, hB, hfree, hr, hy, hS, H => by
    refine ⟨fun h => (by rw [h] at hr; cases hr), fun j hj oj hoj => ?_⟩
    by_cases hji : j = i
    · subst hji; rw [hi] at hoj; cases hoj; exact hy.step hS ⟨fun _ => hS, H⟩
    · have hoj' : ops.toArray[j]? = some oj := by simpa using hoj
      have h1 := H.2 j (ready_mono hj hji) oj hoj
      obtain ⟨hjun, oj', hoj2, hall⟩ := mem_ready.1 hj
      rw [hoj'] at hoj2; cases hoj2
      have lst : ∀ k, listed.getD k true = false → ∀ e ∈ oj.after, Region.binds .any e = true → e.on ≠ k := fun k h0 e he hb heq => by
        have h1 := hall e he hb
        rw [heq] at h1
        rcases Nat.lt_or_ge k listed.size with h' | h'
        · simp [h'] at h0 h1; rw [h0] at h1; cases h1
        · simp [Array.getElem?_eq_none h'] at h1
      have hnot : ∀ e ∈ oj.after, Region.binds .any e = true → e.on ≠ i := lst i (mem_ready.1 hr).1
      have hjD : ¬ j ∈ DL := fun hm => by
        obtain ⟨e, he, hb, h⟩ := hB.cls j oj hoj hm
        rcases h with h | h
        · exact hnot e he hb h
        · exact lst e.on (hB.non _ h) e he hb rfl
      have hex : ex j = false := by
        cases hx : ex j with
        | false => rfl
        | true => exact absurd (hB.inc j oj hoj hx) hjD
      have h2 := step1_swap (hfree j oj hoj' hji hjun hnot) (fun cs b => Region.noSelect_spec hsel i oi cs b (by simpa using hi)) (fun cs b => Region.noSelect_spec hsel j oj cs b hoj') hy h1
      have hfree' : ∀ k ok, ops.toArray[k]? = some ok → k ≠ i → (listed.setIfInBounds j true).getD k true = false →
          (∀ e ∈ ok.after, Region.binds .any e = true → e.on ≠ i) → oi.apart ops.toArray ok = true := fun k ok hk hki hun hno => by
        refine hfree k ok hk hki ?_ hno
        by_cases hjk : j = k
        · subst hjk; exact hjun
        · rw [getD_set_ne true hjk] at hun; exact hun
      have hB' : Beh ops ex i DL (listed.setIfInBounds j true) := ⟨hB.inc, hB.cls, fun k hk => by rw [getD_set_ne true (show j ≠ k from fun e => hjD (by rw [e]; exact hk))]; exact hB.non k hk⟩
      refine step1_mono (fun σ' w' h3 => ⟨h3.2.1, wx_first hi hsel f (listed.setIfInBounds j true) σ' w' hB' hfree' (ready_mono hr (Ne.symm hji)) h3.1 (h3.2.1 hex) ?_⟩) h2
      rw [Array.setIfInBounds_comm _ _ hji]
      exact h3.2.2
def behB (ops : List Oper) (ex : Nat → Bool) (i : Nat) (D : List Nat) (listed : Array Bool) : Bool :=
  ((List.range ops.length).all fun j => (!ex j || D.contains j) && (!D.contains j || match ops[j]? with | some o => o.after.any (fun e => Region.binds .any e && (e.on == i || D.contains e.on)) | none => true)) && D.all fun j => listed.getD j true == false
theorem Beh.of {ops : List Oper} {i : Nat} {D : List Nat} {listed : Array Bool} (h : behB ops ex i D listed = true) : Beh ops ex i D listed := by
  unfold behB at h
  rw [Bool.and_eq_true, List.all_eq_true, List.all_eq_true] at h
  have key : ∀ j oj, ops[j]? = some oj → ((!ex j || D.contains j) && (!D.contains j || oj.after.any (fun e => Region.binds .any e && (e.on == i || D.contains e.on)))) = true := fun j oj hj => by
    have := h.1 j (List.mem_range.2 (List.getElem?_eq_some_iff.1 hj).1)
    rw [hj] at this; exact this
  refine ⟨fun j oj hj hx => ?_, fun j oj hj hm => ?_, fun j hj => by simpa using h.2 j hj⟩
  · have := key j oj hj
    rw [hx] at this; simp at this; exact this.1
  · have := key j oj hj
    have hc : D.contains j = true := by simpa using hm
    rw [hc] at this
    simp only [Bool.and_eq_true, Bool.not_true, Bool.false_or] at this
    obtain ⟨k, hk, h2⟩ := Array.any_eq_true.1 this.2
    rw [Bool.and_eq_true, Bool.or_eq_true] at h2
    exact ⟨_, Array.getElem_mem hk, h2.1, h2.2.imp (fun h => by simpa using h) (fun h => by simpa using h)⟩
/-- Take number i first. 'side' is for the kernel to reckon. -/
theorem wx_take {ops : List Oper} {f : Nat} {listed : Array Bool} (i : Nat) (DL : List Nat) (oi : Oper) (v : Value) (hi : ops[i]? = some oi)
    (side : (Region.noSelect ops.toArray && Region.free .any ops.toArray listed i && (Region.ready .any ops.toArray listed).contains i && behB ops ex i DL listed) = true)
    (hS : S w) (hy : Yd P ops S oi v σ) (h : wx P ops ex S K f (listed.setIfInBounds i true) (put σ oi.dst v) w) : wx P ops ex S K (f + 1) listed σ w := by
  simp only [Bool.and_eq_true] at side
  exact wx_first hi side.1.1.1 f listed σ w (Beh.of side.2) (Region.free_spec (by simpa using hi) side.1.1.2) (by simpa using side.1.2) hy hS h
/-- Number i is the only one that may come up. -/
theorem wx_only {ops : List Oper} {f : Nat} {listed : Array Bool} (i : Nat) (oi : Oper) (hi : ops[i]? = some oi) (side : (Region.ready .any ops.toArray listed == [i]) = true)
    (h : step1 P ops oi σ w (fun σ' w' => (ex i = false → S w') ∧ wx P ops ex S K f (listed.setIfInBounds i true) σ' w')) : wx P ops ex S K (f + 1) listed σ w := by
  have e : Region.ready .any ops.toArray listed = [i] := by simpa using side
  refine ⟨fun h0 => (by rw [e] at h0; cases h0), fun j hj o ho => ?_⟩
  rw [e] at hj
  obtain rfl : j = i := by simpa using hj
  rw [hi] at ho; cases ho
  exact h
theorem wx_done {ops : List Oper} {listed : Array Bool} (side : (Region.ready .any ops.toArray listed == []) = true) (h : K σ w) : ∀ f, wx P ops ex S K f listed σ w
  | 0 => ⟨by simpa using side, h⟩
  | _ + 1 => ⟨fun _ => h, by rw [show Region.ready .any ops.toArray listed = [] by simpa using side]; simp⟩

theorem W_drawX (ex : Nat → Bool) {id : Nat} {l : List Oper} (hm : P.follows .mixedOrders = true)
    (h : ∀ w1, Ext Non w w1 → wx P l ex (fun A => Ext Non w1 A) (fun σ' w' => Q .normal σ' D w') l.length (Array.replicate l.length false) σ w1) : W ro P n (.region id l.toArray true) Q σ D w :=
  W_drawX0 _ hm (h _ (Ext.refl _ _).drew)
end Go.Proofs.YthcclgoidchkdaaDoorC

/- Rising lists: where a key stands, what a key's coming and going makes of them; no program in sight. -/
set_option linter.unusedVariables false
set_option linter.unusedSimpArgs false
namespace Go.Proofs.YthcclgoidchkdaaDoorC
open Go.RowKit
structure Lo {κ : Type} (lt : κ → κ → Bool) : Prop where
  irr : ∀ a, lt a a = false
  tr : ∀ a b c, lt a b = true → lt b c = true → lt a c = true
  tri : ∀ a b, lt a b = false → lt b a = false → a = b
section
variable {κ : Type} {lt : κ → κ → Bool}
end
theorem Rn.cast {P : Program} {σ : Env} {w : World} {o : Oper} {v v' : Value} (h : Rn P σ w o v) (e : v = v') : Rn P σ w o v' := e ▸ h
/-- A map reads as keys and values. -/
structure MapR {κ : Type} (M : Nat → Prop) (w : World) (ek : κ → List Value) (k : Nat) (v1 v2 : Value) (ks : List κ) (vs : List (List Value)) : Prop where
  keys : Sl M w v1 1 (ks.map ek)
  vals : Sl M w v2 k vs
  len : vs.length = ks.length
theorem MapR.ext {κ : Type} {M M' : Nat → Prop} {w w' : World} {ek : κ → List Value} {k : Nat} {v1 v2 : Value} {ks : List κ} {vs : List (List Value)} (h : MapR M w ek k v1 v2 ks vs) (hE : Ext M' w w') (hm : ∀ i, M' i → M i) : MapR M w' ek k v1 v2 ks vs :=
  ⟨h.keys.ext hE hm, h.vals.ext hE hm, h.len⟩
theorem MapR.sub {κ : Type} {M M' : Nat → Prop} {w : World} {ek : κ → List Value} {k : Nat} {v1 v2 : Value} {ks : List κ} {vs : List (List Value)} (h : MapR M w ek k v1 v2 ks vs) (hm : ∀ i, M' i → i < w.heap.size → M i) : MapR M' w ek k v1 v2 ks vs :=
  ⟨h.keys.sub hm, h.vals.sub hm, h.len⟩
abbrev Old (w : World) : Nat → Prop := fun i => i < w.heap.size
end Go.Proofs.YthcclgoidchkdaaDoorC

/- More single operations in the calculus: equality of truth values, the greater of two; each rule holds of whatever program. -/
set_option linter.unusedVariables false
set_option linter.unusedSimpArgs false
namespace Go.Proofs.YthcclgoidchkdaaDoorC
open Go.RowKit
variable {P : Program} {σ : Env} {w : World} {dst : Option Nat} {ty : TypeId} {pos : String} {af : Array Edge} {g : Option (Nat × Bool)}
theorem rn_beql {t u : TypeId} (hu : P.underlying t = some .bool) {x y : Operand} {a b : Bool} (hx : ev σ x = .bool a) (hy : ev σ y = .bool b) : Rn P σ w ⟨dst, .binOp .eql t x y u, ty, pos, af, g⟩ (.bool (decide (a = b))) := by
  show (execOp (ev σ) _).run P w = _
  have h1 : (Op.equal t (.bool a) (.bool b)).run P w = .ok (decide (a = b)) w := eqs_bool hu 10000 w (by decide)
  have h2 : (binOp .eql t (.bool a) (.bool b)).run P w = .ok (.bool (decide (a = b))) w := by
    show (do pure (Value.bool (← Op.equal t (.bool a) (.bool b)))).run P w = _
    rw [Sem.run_bind, h1]; rfl
  have h3 : (eqGuard .eql t x y (.bool a) (.bool b)).run P w = .ok () w := rfl
  simp only [execOp, hx, hy]
  rw [Sem.run_bind, Sem.run_bind, h3, Result.andThen_ok, h2]
  rfl
end Go.Proofs.YthcclgoidchkdaaDoorC

/- Helps for walks: cuts behind a region, three that are ready at once, bound methods, bits; each rule holds of whatever program. -/
set_option linter.unusedVariables false
set_option linter.unusedSimpArgs false
namespace Go.Proofs.YthcclgoidchkdaaDoorC
open Go.RowKit
variable {ro : Option Nat} {P : Program} {n : Nat} {Q : Post} {σ : Env} {D : List Deferred} {w : World} {dst : Option Nat} {ty : TypeId} {pos : String} {af : Array Edge} {g : Option (Nat × Bool)}
variable {ops rest : List Oper} {K : Ops} {S : World → Prop} {ex : Nat → Bool}

/-- What follows is walked once, whatever way led there. -/
theorem W_cut {T : Type} {x y : Code} (ls : List Nat) (f : T → List Value) (I : T → World → Prop) (h1 : W ro P n x (Then (fun σ' D' w' => D' = D ∧ ∃ s, Holds ls (f s) σ' ∧ I s w') Q) σ D w)
    (h2 : ∀ τ s A, I s A → W ro P n y Q (updN τ ls (f s)) D A) : W ro P n (.seq x y) Q σ D w := by
  refine W_seq (h1.mono fun e σ' D' A h => ?_)
  cases e with
  | normal =>
    obtain ⟨rfl, s, h3, h4⟩ := h
    have := h2 σ' s A h4
    rw [updN_self ls (f s) σ' h3] at this
    exact this
  | _ => exact h
section
variable {x y : Operand} {t u : TypeId} {a b : Int}
theorem rn_neg (hx : ev σ x = .int .i64 a) (h : -9223372036854775808 ≤ -a ∧ -a ≤ 9223372036854775807) : Rn P σ w ⟨dst, .unOp .neg t x, ty, pos, af, g⟩ (.int .i64 (-a)) := by
  show (execOp (ev σ) _).run P w = _
  have e : IntKind.i64.wrap (0 - a) = -a := by rw [Int.zero_sub]; exact wrap_id h
  simp [execOp, hx, Op.unary, Op.intArith, Sem.run_bind, Result.andThen, Sem.run]
  rw [← Int.zero_sub, e, Int.zero_sub]
theorem rn_quo (hx : ev σ x = .int .i64 a) (hy : ev σ y = .int .i64 b) (hb : b ≠ 0) (h : -9223372036854775808 ≤ a.tdiv b ∧ a.tdiv b ≤ 9223372036854775807) : Rn P σ w ⟨dst, .binOp .quo t x y u, ty, pos, af, g⟩ (.int .i64 (a.tdiv b)) := by
  show (execOp (ev σ) _).run P w = _
  have h5 : Op.intDiv .quo .i64 a b = pure (.int .i64 (a.tdiv b)) := by unfold Op.intDiv; rw [if_neg hb]; simp only [wrap_id h]
  simp [execOp, hx, hy, eqGuard, binOp, h5, Sem.run_bind, Result.andThen, Sem.run]
theorem rn_tmod (hx : ev σ x = .int .i64 a) (hy : ev σ y = .int .i64 b) (hb : b ≠ 0) : Rn P σ w ⟨dst, .binOp .rem t x y u, ty, pos, af, g⟩ (.int .i64 (a.tmod b)) := by
  show (execOp (ev σ) _).run P w = _
  have h5 : Op.intDiv .rem .i64 a b = pure (.int .i64 (a.tmod b)) := by unfold Op.intDiv; rw [if_neg hb]
  simp [execOp, hx, hy, eqGuard, binOp, h5, Sem.run_bind, Result.andThen, Sem.run]
end
theorem FnM.mono {M : Nat → Prop} {f : FuncId} {args : Array Value} {R R' : Value → World → Prop} (h : FnM P M f args w R) (hr : ∀ v w', Ext M w w' → R v w' → R' v w') : FnM P M f args w R' :=
  Calls.mono h fun e w' hx => by obtain ⟨v, h1, h2, h3⟩ := hx; exact ⟨v, h1, h2, hr _ _ h2 h3⟩
theorem FnM.sub {M M' : Nat → Prop} {f : FuncId} {args : Array Value} {R : Value → World → Prop} (h : FnM P M f args w R) (hm : ∀ i, M i → M' i) : FnM P M' f args w R :=
  Calls.mono h fun e w' hx => by obtain ⟨v, h1, h2, h3⟩ := hx; exact ⟨v, h1, h2.mono hm, h3⟩
/-- One's own blocks, written. -/
theorem Ext.own2 {F F' : Nat → Prop} {A B : World} (h : Ext F w A) (k : Ext F' A B) (hF : ∀ i, F' i → Mine F w i) : Ext F w B :=
  ⟨k.os.trans h.os, k.tape.trans h.tape, k.output.trans h.output, Nat.le_trans h.size k.size, fun i hi hn => (k.block i (Nat.lt_of_lt_of_le hi h.size) fun h' => by rcases hF i h' with q | q; exact hn q; omega).trans (h.block i hi hn)⟩
end Go.Proofs.YthcclgoidchkdaaDoorC

/- Typed boxes, rows of bytes of a call's own with their type, texts as bytes and back, bits of bytes; each rule holds of whatever program. -/
set_option linter.unusedVariables false
set_option linter.unusedSimpArgs false
namespace Go.Proofs.YthcclgoidchkdaaDoorC
open Go.RowKit
variable {ro : Option Nat} {P : Program} {n : Nat} {Q : Post} {σ : Env} {D : List Deferred} {w : World} {dst : Option Nat} {ty : TypeId} {pos : String} {af : Array Edge} {g : Option (Nat × Bool)}
variable {ops rest : List Oper} {K : Ops} {S : World → Prop} {ex : Nat → Bool}
/-- A box whose type is known. -/
def IsBoxT (w : World) (b : Nat) (T : TypeId) (cs : List Value) : Prop := w.heap[b]? = some (.cells cs.toArray T (0, 0))
theorem IsBoxT.box {b : Nat} {T : TypeId} {cs : List Value} (h : IsBoxT w b T cs) : IsBox w b cs := ⟨T, h⟩
theorem IsBoxT.ext {M : Nat → Prop} {w' : World} {b : Nat} {T : TypeId} {cs : List Value} (h : IsBoxT w b T cs) (hE : Ext M w w') (hm : ¬ M b) : IsBoxT w' b T cs := hE.obj h hm
theorem wl_allocT {e : TypeId} {z : List Value} {d : Nat} (hz : zeroT P e z)
    (k : ∀ b w', w.heap.size ≤ b → Ext Non w w' → IsBoxT w' b e z → wl P ops rest K (upd σ d (.pointer (some ⟨b, 0, none⟩))) w') : wl P ops (⟨some d, .alloc e, ty, pos, af, none⟩ :: rest) K σ w := by
  obtain ⟨v, h1, h2⟩ := run_zero hz
  refine wl_new (w' := w.alloc (.cells v.cells e)) (v := .pointer (some ⟨w.heap.size, 0, none⟩)) ?_ (k _ _ (Nat.le_refl _) (Ext.alloc _ _) (by subst h2; have := World.alloc_heap_new w (.cells v.cells e); simpa [IsBoxT] using this))
  show (execOp (ev σ) _).run P w = _
  simp [execOp, Instr.alloc, h1, newVar, newRow]
theorem wl_store1T {t : TypeId} {x y : Operand} {b i : Nat} {T : TypeId} {cs : List Value} {v : Value} (hT : plainT P t) (hx : ev σ x = .pointer (some ⟨b, i, none⟩)) (hy : ev σ y = v) (hv : v.cells = #[v]) (h1 : v.oneCell' = true) (hb : IsBoxT w b T cs) (hl : i < cs.length)
    (k : ∀ w', Ext (fun j => j = b) w w' → IsBoxT w' b T (cs.set i v) → w'.heap.size = w.heap.size → wl P ops rest K σ w') : wl P ops (⟨none, .store t x y, ty, pos, af, none⟩ :: rest) K σ w := by
  obtain ⟨w', h2, h3, h4, h5⟩ := run_storeBox (P := P) b T [v] i 0 cs w hb (by simpa using h1) (by simp; omega)
  have e : patch cs i [v] = cs.set i v := by
    simp only [patch, List.length_cons, List.length_nil]
    rw [List.set_eq_take_append_cons_drop, if_pos hl]; simp
  refine wl_do ?_ (k w' h3 (by simpa [e, IsBoxT] using h4) h5)
  show (execOp (ev σ) _).run P w = _
  subst hy
  have h6 : (storeCells ⟨b, i, none⟩ [ev σ y]).run P w = .ok () w' := h2
  simp [execOp, hx, Instr.storeAt, Instr.sureAddr, storeVar, run_size (hv ▸ hT.2 : (P.info? t).map (·.size) = some (ev σ y).cells.size), hv, h6]
def eC (c : UInt8) : List Value := [.int .u8 c.toNat]
theorem eC_flat : ∀ l : Str, (l.map eC).flatten = Lib.byteCells l
  | [] => rfl
  | c :: l => by simp only [List.map_cons, List.flatten_cons, eC_flat l]; rfl
theorem eC_at {l : Str} {i : Nat} {c : UInt8} (h : l[i]? = some c) : (l.map eC)[i]? = some (eC c) := by simp [h]
/-- A text's bytes, a slice anew. -/
theorem wl_toBytes {t u e : TypeId} {x : Operand} {d : Nat} {l : Str} (ht : P.underlying t = some .string) (hu : P.underlying u = some (.slice e)) (he : P.underlying e = some (.int .u8)) (hx : ev σ x = Sv l) (hn : l.length ≤ 1000000)
    (k : ∀ w' b c, w.heap.size ≤ b → b < w'.heap.size → Ext Non w w' → Sl (fun i => i ≠ b) w' (.slice (some ⟨b, 0, none⟩) l.length c) 1 (l.map eC) → wl P ops rest K (upd σ d (.slice (some ⟨b, 0, none⟩) l.length c)) w') : wl P ops (⟨some d, .convert t u x, ty, pos, af, none⟩ :: rest) K σ w := by
  have h1 := Lib.run_convert_string_bytes (P := P) w t u e ⟨l.toArray⟩ ht hu he
  have hs : (ByteArray.mk l.toArray).size = l.length := by simp [ByteArray.size]
  rw [hs] at h1
  refine wl_new (w' := Lib.bytesWorld w e ⟨l.toArray⟩) (v := .slice (some ⟨w.heap.size, 0, none⟩) l.length (grownCap w l.length 0 e)) ?_ (k _ _ _ (Nat.le_refl _) (by rw [Lib.bytesWorld_size]; omega) ?_ ⟨⟨some ⟨w.heap.size, 0, none⟩, grownCap w l.length 0 e, by simp, ?_, ?_, .inr ⟨w.heap.size, 0, rfl, ?_, fun h => h rfl, fun j hj => ?_⟩⟩, ?_⟩)
  · show (execOp (ev σ) _).run P w = _
    simp [execOp, hx, h1]
  · exact Ext.of_below (Lib.bytesWorld_below w e _)
  · have := grownCap_ge w l.length 0 e; simpa using this
  · have := grownCap_le_maxLen w l.length 0 e (by simp [maxLen]; omega); simpa [maxLen, big] using this
  · rw [Lib.bytesWorld_size]; omega
  · rw [eC_flat] at hj ⊢
    have hl : j < l.length := by simpa [Lib.byteCells] using hj
    rw [Nat.zero_add, Lib.bytesWorld_cell w e ⟨l.toArray⟩ j (by rw [hs]; exact hl)]
    simp [Lib.byteCells, List.getD, hl]
  · intro r hr; obtain ⟨c, _, rfl⟩ := List.mem_map.1 hr; rfl
/-- A slice's bytes, as a text. -/
theorem rn_fromBytes {t u e : TypeId} {x : Operand} {l : Str} (ht : P.underlying t = some (.slice e)) (hu : P.underlying u = some .string) (he : P.underlying e = some (.int .u8)) {M : Nat → Prop} {v : Value} (hx : ev σ x = v) (hs : Sl M w v 1 (l.map eC)) : Rn P σ w ⟨dst, .convert t u x, ty, pos, af, g⟩ (Sv l) := by
  obtain ⟨⟨a, c, hv, hc1, hc2, hc3⟩, heach⟩ := hs
  show (execOp (ev σ) _).run P w = _
  subst hv
  simp only [List.length_map] at hx hc1
  have key : (convert t u (.slice a l.length c)).run P w = .ok (Sv l) w := by
    rcases hc3 with h0 | ⟨b, o, rfl, _, _, h2⟩
    · have hl : l = [] := by simpa using h0
      subst hl
      cases a with
      | none => rw [run_convert_bytes_nil w t e ht he _ _ _ hu]; rfl
      | some a =>
        have := run_bytesToString (P := P) w a 0 c [] (by simp [loadCells, loadCellsFrom])
        show (convert t u (.slice (some a) 0 c)).run P w = _
        rw [run_convert_bytes_string w t u e (some a) 0 c ht he hu, this]; rfl
    · have := run_convert_bytes_arg w t e ht he b o l.length c (l.map fun x : UInt8 => ((x.toNat : Nat) : Int)) (by simp) (fun i hi => by
        have h3 := h2 i (by rw [eC_flat]; simpa [Lib.byteCells] using hi)
        rw [h3, eC_flat]; simp [Lib.byteCells, hi, List.getD]) u hu
      rw [this]
      have : strOfNums (l.map fun x : UInt8 => ((x.toNat : Nat) : Int)) = ⟨l.toArray⟩ := by
        unfold strOfNums; simp [List.map_map, Function.comp_def]
      rw [this]
  simp [execOp, hx, key]
theorem rn_remN {k : IntKind} {t u : TypeId} {x y : Operand} {a b : Nat} (hx : ev σ x = .int k (a : Int)) (hy : ev σ y = .int k (b : Int)) (hb : 0 < b) : Rn P σ w ⟨dst, .binOp .rem t x y u, ty, pos, af, g⟩ (.int k ((a % b : Nat) : Int)) := by
  show (execOp (ev σ) _).run P w = _
  have h1 : ¬ ((b : Int) = 0) := by omega
  have h5 : Op.intDiv .rem k (a : Int) (b : Int) = pure (.int k ((a % b : Nat) : Int)) := by unfold Op.intDiv; rw [if_neg h1]; simp only [Int.ofNat_tmod]
  simp [execOp, hx, hy, eqGuard, binOp, h5, Sem.run_bind, Result.andThen, Sem.run]
theorem rn_quoN {k : IntKind} {t u : TypeId} {x y : Operand} {a b : Nat} (hx : ev σ x = .int k (a : Int)) (hy : ev σ y = .int k (b : Int)) (hb : 0 < b) (hw : k.wrap ((a / b : Nat) : Int) = ((a / b : Nat) : Int)) : Rn P σ w ⟨dst, .binOp .quo t x y u, ty, pos, af, g⟩ (.int k ((a / b : Nat) : Int)) := by
  show (execOp (ev σ) _).run P w = _
  have h1 : ¬ ((b : Int) = 0) := by omega
  have h5 : Op.intDiv .quo k (a : Int) (b : Int) = pure (.int k ((a / b : Nat) : Int)) := by unfold Op.intDiv; rw [if_neg h1]; simp only [← Int.ofNat_tdiv, hw]
  simp [execOp, hx, hy, eqGuard, binOp, h5, Sem.run_bind, Result.andThen, Sem.run]
theorem rn_addK {k : IntKind} {t u : TypeId} {x y : Operand} {a b : Int} (hx : ev σ x = .int k a) (hy : ev σ y = .int k b) (h : k.wrap (a + b) = a + b) : Rn P σ w ⟨dst, .binOp .add t x y u, ty, pos, af, g⟩ (.int k (a + b)) := by
  show (execOp (ev σ) _).run P w = _
  simp [execOp, hx, hy, eqGuard, binOp, Op.intArith, Sem.run_bind, Result.andThen, Sem.run, h]
theorem rn_subK {k : IntKind} {t u : TypeId} {x y : Operand} {a b : Int} (hx : ev σ x = .int k a) (hy : ev σ y = .int k b) (h : k.wrap (a - b) = a - b) : Rn P σ w ⟨dst, .binOp .sub t x y u, ty, pos, af, g⟩ (.int k (a - b)) := by
  show (execOp (ev σ) _).run P w = _
  simp [execOp, hx, hy, eqGuard, binOp, Op.intArith, Sem.run_bind, Result.andThen, Sem.run, h]
theorem rn_mulK {k : IntKind} {t u : TypeId} {x y : Operand} {a b : Int} (hx : ev σ x = .int k a) (hy : ev σ y = .int k b) (h : k.wrap (a * b) = a * b) : Rn P σ w ⟨dst, .binOp .mul t x y u, ty, pos, af, g⟩ (.int k (a * b)) := by
  show (execOp (ev σ) _).run P w = _
  simp [execOp, hx, hy, eqGuard, binOp, Op.intArith, Sem.run_bind, Result.andThen, Sem.run, h]
theorem wrapB {a : Int} (h : 0 ≤ a ∧ a ≤ 255) : IntKind.u8.wrap a = a := by
  have hm : a % 256 = a := by omega
  unfold IntKind.wrap; simp [IntKind.bits, IntKind.signed, hm]
theorem rn_shl8 {t u : TypeId} {k : IntKind} {x y : Operand} (hx : ev σ x = .int .u64 1) (hy : ev σ y = .int k 8) : Rn P σ w ⟨dst, .binOp .shl t x y u, ty, pos, af, g⟩ (.int .u64 256) := by
  show (execOp (ev σ) _).run P w = _
  have e : Op.shift .shl .u64 1 k 8 = pure (.int .u64 256) := by unfold Op.shift; rw [if_neg (by omega)]; rfl
  simp [execOp, hx, hy, eqGuard, binOp, e]
def lowN (c : UInt8) : Nat := (c ||| 32).toNat
theorem lowN_lt (c : UInt8) : lowN c < 256 := UInt8.toNat_lt _
theorem lowN_id {c : UInt8} (h : 97 ≤ c.toNat ∧ c.toNat ≤ 122) : lowN c = c.toNat := by
  have : ∀ n : Fin 256, 97 ≤ n.val ∧ n.val ≤ 122 → lowN (UInt8.ofNat n.val) = n.val := by decide +kernel
  have := this ⟨c.toNat, c.toNat_lt⟩ h
  simpa using this
theorem rn_or32 {t u : TypeId} {x y : Operand} {c : UInt8} (hx : ev σ x = .int .u8 c.toNat) (hy : ev σ y = .int .u8 32) : Rn P σ w ⟨dst, .binOp .or t x y u, ty, pos, af, g⟩ (.int .u8 (lowN c : Nat)) := by
  have hd : ∀ n : Fin 256, IntKind.u8.wrap ((BitVec.ofInt 8 ((n.val : Nat) : Int) ||| BitVec.ofInt 8 32).toNat : Int) = ((lowN (UInt8.ofNat n.val) : Nat) : Int) := by decide +kernel
  have e2 : Op.intBits .or .u8 (c.toNat : Int) 32 = pure (.int .u8 ((lowN c : Nat) : Int)) := by
    show (pure (Value.int .u8 (IntKind.u8.wrap ((BitVec.ofInt 8 (c.toNat : Int) ||| BitVec.ofInt 8 32).toNat : Int))) : Sem Value) = _
    have := hd ⟨c.toNat, c.toNat_lt⟩
    simp only [UInt8.ofNat_toNat] at this
    rw [this]
  show (execOp (ev σ) _).run P w = _
  simp only [execOp, hx, hy]
  have e3 : (eqGuard .or t x y (.int .u8 (c.toNat : Int)) (.int .u8 32)) = pure () := rfl
  have e4 : binOp .or t (.int .u8 (c.toNat : Int)) (.int .u8 32) = Op.intBits .or .u8 (c.toNat : Int) 32 := rfl
  rw [e3, e4, e2]; rfl
theorem rn_addN {k : IntKind} {t u : TypeId} {x y : Operand} {a b : Nat} (hx : ev σ x = .int k (a : Int)) (hy : ev σ y = .int k (b : Int)) (h : k.wrap ((a + b : Nat) : Int) = ((a + b : Nat) : Int)) : Rn P σ w ⟨dst, .binOp .add t x y u, ty, pos, af, g⟩ (.int k ((a + b : Nat) : Int)) :=
  rn_addK hx hy (by simpa using h)
theorem rn_mulN {k : IntKind} {t u : TypeId} {x y : Operand} {a b : Nat} (hx : ev σ x = .int k (a : Int)) (hy : ev σ y = .int k (b : Int)) (h : k.wrap ((a * b : Nat) : Int) = ((a * b : Nat) : Int)) : Rn P σ w ⟨dst, .binOp .mul t x y u, ty, pos, af, g⟩ (.int k ((a * b : Nat) : Int)) :=
  Rn.cast (rn_mulK hx hy (by simpa using h)) (congrArg (Value.int k) (Int.natCast_mul a b).symm)
theorem rn_mkIface {t : TypeId} {x : Operand} {v : Value} (h : P.concrete t = true) (hx : ev σ x = v) : Rn P σ w ⟨dst, .makeInterface t x, ty, pos, af, g⟩ (.iface t v) := by
  show (execOp (ev σ) _).run P w = _
  simp [execOp, hx, run_makeInterface _ t v h]
theorem rn_min2 {t u : TypeId} {x y : Operand} {k : IntKind} {a b : Int} (hx : ev σ x = .int k a) (hy : ev σ y = .int k b) : Rn P σ w ⟨dst, .call ⟨.builtin .min, #[x, y], #[t, u]⟩, ty, pos, af, g⟩ (.int k (if b < a then b else a)) := by
  show (execOp (ev σ) _).run P w = _
  by_cases h : b < a <;> simp [execOp, resolve, invoke, builtin, hx, hy, Builtin.min_, Builtin.min2, h]
theorem rn_shr4 {t u : TypeId} {x y : Operand} {a : Nat} (hx : ev σ x = .int .u8 (a : Int)) (hy : ev σ y = .int .u64 4) : Rn P σ w ⟨dst, .binOp .shr t x y u, ty, pos, af, g⟩ (.int .u8 ((a / 16 : Nat) : Int)) := by
  show (execOp (ev σ) _).run P w = _
  have e : Op.shift .shr .u8 (a : Int) .u64 4 = pure (.int .u8 ((a / 16 : Nat) : Int)) := by
    unfold Op.shift
    rw [if_neg (by omega)]
    simp [IntKind.bits, Int.fdiv_eq_ediv_of_nonneg]
  simp [execOp, hx, hy, eqGuard, binOp, e]
theorem rn_and15 {t u : TypeId} {x y : Operand} {a : Nat} (hx : ev σ x = .int .u8 (a : Int)) (hy : ev σ y = .int .u8 15) (ha : a < 256) : Rn P σ w ⟨dst, .binOp .and t x y u, ty, pos, af, g⟩ (.int .u8 ((a % 16 : Nat) : Int)) := by
  show (execOp (ev σ) _).run P w = _
  have hd : ∀ n : Fin 256, IntKind.u8.wrap ((BitVec.ofInt 8 ((n.val : Nat) : Int) &&& BitVec.ofInt 8 15).toNat : Int) = ((n.val % 16 : Nat) : Int) := by decide +kernel
  have e2 : Op.intBits .and .u8 (a : Int) 15 = pure (.int .u8 ((a % 16 : Nat) : Int)) := by
    show (pure (Value.int .u8 (IntKind.u8.wrap ((BitVec.ofInt 8 (a : Int) &&& BitVec.ofInt 8 15).toNat : Int))) : Sem Value) = _
    rw [hd ⟨a, ha⟩]
  simp only [execOp, hx, hy]
  have e3 : (eqGuard .and t x y (.int .u8 (a : Int)) (.int .u8 15)) = pure () := rfl
  have e4 : binOp .and t (.int .u8 (a : Int)) (.int .u8 15) = Op.intBits .and .u8 (a : Int) 15 := rfl
  rw [e3, e4, e2]; rfl
/-- An error that is none, one that is one. -/
theorem rn_noerr {t u : TypeId} {x : Operand} (ht : P.underlying t = some (.interface (P.methodsAt t))) (hx : ev σ x = .nilIface) : Rn P σ w ⟨dst, .binOp .neq t x (.const .nilIface) u, ty, pos, af, g⟩ (.bool false) := by
  have h := run_neq_nil_nil (P := P) w t ht
  show (execOp (ev σ) _).run P w = _
  have h3 : (eqGuard .neq t x (.const .nilIface) .nilIface .nilIface).run P w = .ok () w := by cases x <;> rfl
  simp only [execOp, hx]
  rw [show ev σ (.const .nilIface) = .nilIface from rfl]
  rw [Sem.run_bind, Sem.run_bind, h3, Result.andThen_ok, h]; rfl
theorem rn_err {t u s : TypeId} {z : Value} {x : Operand} (ht : P.underlying t = some (.interface (P.methodsAt t))) (hx : ev σ x = .iface s z) : Rn P σ w ⟨dst, .binOp .neq t x (.const .nilIface) u, ty, pos, af, g⟩ (.bool true) := by
  have h := run_neq_held_nil (P := P) w t s z ht
  show (execOp (ev σ) _).run P w = _
  have h3 : (eqGuard .neq t x (.const .nilIface) (.iface s z) .nilIface).run P w = .ok () w := by cases x <;> rfl
  simp only [execOp, hx]
  rw [show ev σ (.const .nilIface) = .nilIface from rfl]
  rw [Sem.run_bind, Sem.run_bind, h3, Result.andThen_ok, h]; rfl
/-- Is an error told? -/
def isErr : Value → Bool | .nilIface => false | _ => true
def IsE (e : Value) : Prop := e = .nilIface ∨ ∃ s z, e = .iface s z
theorem rn_errQ {t u : TypeId} {x : Operand} {e : Value} (ht : P.underlying t = some (.interface (P.methodsAt t))) (hx : ev σ x = e) (he : IsE e) : Rn P σ w ⟨dst, .binOp .neq t x (.const .nilIface) u, ty, pos, af, g⟩ (.bool (isErr e)) := by
  rcases he with rfl | ⟨s, z, rfl⟩
  · exact rn_noerr ht hx
  · exact rn_err ht hx
/-- What append(s, x...) does, s the call's own or nil, by its block. -/
theorem run_appO {t e : TypeId} {k bytes : Nat} {z : List Value} (hT : SliceT P t e k bytes z) (hz : z.length = k) {M' : Nat → Prop} {v : Value} {a2 : Option Addr} {c2 : Nat} {o : Option Nat} {rows rows2 : List (List Value)}
    (hs : OwO w v o k rows) (hx : Sl M' w (.slice a2 rows2.length c2) k rows2) (h1 : ∀ r ∈ rows2, ∀ u ∈ r, u.oneCell' = true) (hb : (rows.length + rows2.length) * bytes ≤ 140737488355328) (h63 : rows.length + rows2.length ≤ big) :
    ∃ v' w' o', (Builtin.append_ #[t, t] ty #[v, .slice a2 rows2.length c2]).run P w = .ok v' w' ∧ Ext (fun i => o = some i) w w' ∧ OwO w' v' o' k (rows ++ rows2) ∧ (∀ i, o' = some i → o = some i ∨ w.heap.size ≤ i) := by
  rcases hs with ⟨rfl, rfl, rfl⟩ | ⟨b, spare, rfl, h⟩
  · obtain ⟨v', w', h2, h3, h4⟩ := run_append_own' hT hz (OwN.nil w w.heap.size k) hx h1 (Nat.le_refl _) hb h63 ty
    have h5 : Ext (fun i => (none : Option Nat) = some i) w w' := (h3.fresh fun i h => h).of_non
    rcases h4 with ⟨rfl, e⟩ | ⟨b, sp, hB, h4⟩
    · exact ⟨_, w', none, h2, h5, .inl ⟨rfl, e, rfl⟩, fun i h => by cases h⟩
    · exact ⟨v', w', some b, h2, h5, .inr ⟨b, sp, rfl, h4⟩, fun i h => by cases h; exact .inr hB⟩
  · obtain ⟨c, hv, hc1, hc2, hc3⟩ := h.val
    by_cases hroom : rows.length + rows2.length ≤ c
    · obtain ⟨v', w', sp, h2, h3, h4⟩ := run_append_room' hT h hx h1 ⟨_, c, hv, hroom⟩ ty
      exact ⟨v', w', some b, h2, h3.mono (fun i e => by rw [e]), .inr ⟨b, sp, rfl, h4⟩, fun i h => .inl h⟩
    · have hsl := h.sl (M := Non) id
      subst hv
      obtain ⟨v', w', sp, h2, h3, h4⟩ := run_append_grow' hT hz hsl hx (by omega) hb h63 ty
      exact ⟨v', w', some w.heap.size, h2, h3.of_non, .inr ⟨_, sp, rfl, h4⟩, fun i h => by cases h; exact .inr (Nat.le_refl _)⟩
/-- append(s, x...) of bytes, s the call's own or nil; its row's type stays known. -/
theorem wl_appT {t e : TypeId} {M' : Nat → Prop} {s x : Operand} {d : Nat} {v vx : Value} {o : Option Nat} {l l2 : Str} (hT : SliceT P t e 1 1 [.int .u8 0]) (hsv : ev σ s = v) (hxv : ev σ x = vx) (hs : OwO w v o 1 (l.map eC)) (hr : w.ownsRow 0 e 1 v l.length (Lib.byteCells l))
    (hx : Sl M' w vx 1 (l2.map eC)) (h2 : l2 ≠ []) (hn : l.length + l2.length ≤ 100000000)
    (kk : ∀ v' w' o', Ext (fun i => o = some i) w w' → OwO w' v' o' 1 ((l ++ l2).map eC) → w'.ownsRow 0 e 1 v' (l ++ l2).length (Lib.byteCells (l ++ l2)) → (∀ i, o' = some i → o = some i ∨ w.heap.size ≤ i) → wl P ops rest K (upd σ d v') w') :
    wl P ops (⟨some d, .call ⟨.builtin .append, #[s, x], #[t, t]⟩, ty, pos, af, none⟩ :: rest) K σ w := by
  obtain ⟨a2, c2, rfl, _⟩ := hx.len
  have h1 : ∀ r ∈ l2.map eC, ∀ u ∈ r, u.oneCell' = true := fun r hr u hu => by obtain ⟨c, _, rfl⟩ := List.mem_map.1 hr; simp [eC] at hu; subst hu; rfl
  obtain ⟨v', w', o', e2, e3, e4, e5⟩ := run_appO (ty := ty) hT rfl hs hx h1 (by simp only [List.length_map]; omega) (by simp only [List.length_map, big]; omega)
  obtain ⟨inf, z0, i1, i2, i3, i4, i5⟩ := hT.inf
  obtain ⟨⟨a, c, hv, hc1, hc2, hc3⟩, heach⟩ := id hx
  simp only [Value.slice.injEq] at hv
  obtain ⟨rfl, _, rfl⟩ := hv
  rcases hc3 with h0 | ⟨b, q, rfl, _, _, hcell⟩
  · exact absurd (by simpa using h0) h2
  obtain ⟨v2, w2, f1, f2, _, _⟩ := run_append_own (P := P) w 0 t ty e inf z0 1 1 hT.under i1 i4 i2 i3 (by rw [← Array.length_toList, i5]; rfl) (by decide) v l.length (Lib.byteCells l) hr ⟨b, q, none⟩ (l2.map eC).length c2 (Lib.byteCells l2)
    (by simp [Lib.byteCells]) (fun j u hj => by
      have hjl : j < l2.length := by have := (List.getElem?_eq_some_iff.1 hj).1; simpa [Lib.byteCells] using this
      rw [add_at, hcell j (by rw [eC_flat]; simpa [Lib.byteCells] using hjl), eC_flat]; exact hj) (fun u hu => by simp [Lib.byteCells] at hu; obtain ⟨c, _, rfl⟩ := hu; rfl)
    (by simp only [List.length_map, maxLen]; omega) (by simp only [List.length_map]; omega) (Nat.zero_le _)
  have he := e2.symm.trans f1
  simp only [Result.ok.injEq] at he
  obtain ⟨rfl, rfl⟩ := he
  refine wl_new (w' := w') (v := v') ?_ (kk v' w' o' e3 (by rw [List.map_append]; exact e4) (by simpa [Lib.byteCells] using f2) e5)
  show (execOp (ev σ) _).run P w = _
  simp only [List.length_map] at e2 hxv
  simp [execOp, resolve, invoke, builtin, hsv, hxv, e2]
theorem ownsRow_ext {e : TypeId} {v : Value} {o : Option Nat} {n : Nat} {xs : List Value} {rows : List (List Value)} {k : Nat} (hr : w.ownsRow 0 e 1 v n xs) (ho : OwO w v o k rows) {M : Nat → Prop} {w' : World} (hE : Ext M w w') (hm : ∀ j, o = some j → ¬ M j) : w'.ownsRow 0 e 1 v n xs := by
  refine ⟨hr.1, ?_⟩
  rcases hr.2 with h | ⟨g, cap, cur, hv, hb, hg, rest⟩
  · exact .inl h
  · refine .inr ⟨g, cap, cur, hv, hb, hE.obj hg ?_, rest⟩
    rcases ho with ⟨h, _⟩ | ⟨b, spare, rfl, h⟩
    · rw [hv] at h; simp at h
    · obtain ⟨c, h, _⟩ := h.val
      rw [hv] at h; simp at h
      exact h.1 ▸ hm b rfl
theorem ownsRow_base {e : TypeId} {v : Value} {o : Option Nat} {n B : Nat} {xs : List Value} {rows : List (List Value)} {k : Nat} (hr : w.ownsRow 0 e 1 v n xs) (ho : OwO w v o k rows) (hm : ∀ j, o = some j → B ≤ j) : w.ownsRow B e 1 v n xs ∧ v.ownBlock = o := by
  rcases ho with ⟨h, _, h2⟩ | ⟨b, spare, rfl, h⟩
  · subst h; subst h2
    refine ⟨⟨hr.1, ?_⟩, rfl⟩
    rcases hr.2 with h | ⟨g, cap, cur, hv, _⟩
    · exact .inl h
    · simp at hv
  · obtain ⟨c, h, _⟩ := h.val
    subst h
    refine ⟨⟨hr.1, ?_⟩, rfl⟩
    rcases hr.2 with h | ⟨g, cap, cur, hv, hb, rest⟩
    · exact .inl h
    · simp only [Value.slice.injEq, Option.some.injEq, Addr.mk.injEq] at hv
      exact .inr ⟨g, cap, cur, by rw [hv.1.1, hv.2.1, hv.2.2], hv.1.1 ▸ hm b rfl, rest⟩
end Go.Proofs.YthcclgoidchkdaaDoorC

/- Maps whose keys are texts, in the calculus: made, looked up, laid into, gone through; each rule holds of whatever program. -/
set_option linter.unusedVariables false
set_option linter.unusedSimpArgs false
namespace Go.Proofs.YthcclgoidchkdaaDoorC
open Go.RowKit
variable {ro : Option Nat} {P : Program} {n : Nat} {Q : Post} {σ : Env} {D : List Deferred} {w : World} {dst : Option Nat} {ty : TypeId} {pos : String} {af : Array Edge} {g : Option (Nat × Bool)}
variable {ops rest : List Oper} {K : Ops}

/-- A map's type: its keys are texts; its values' zero. -/
structure MapT (P : Program) (t key elem : TypeId) (z : Value) : Prop where
  under : P.underlying t = some (.map key elem)
  key : P.underlying key = some .string
  zero : (P.info? elem).bind (·.zero) = some z
theorem MapT.run_zero {t key elem : TypeId} {z : Value} (h : MapT P t key elem z) (w : World) : (zeroValue elem).run P w = .ok z w := by
  have := h.zero
  cases hi : P.info? elem with
  | none => simp [hi] at this
  | some i => simp [hi] at this; simp [zeroValue, typeInfo, hi, this]

/-- Entries, in the order in which they were laid in. -/
structure Mp (es : List MapEntry) (clock : Nat) (kvs : List (Str × Value)) : Prop where
  kv : es.map (fun e => (e.key, e.val)) = kvs.map (fun p => (Sv p.1, p.2))
  nodup : (es.map (·.born)).Nodup
  old : ∀ e ∈ es, e.born < clock
/-- Block b is a map with these keys and values. -/
def IsMp (w : World) (b : Nat) (kvs : List (Str × Value)) : Prop := ∃ es clock, w.heap[b]? = some (.map es clock) ∧ Mp es.toList clock kvs
theorem IsMp.lt {b : Nat} {kvs : List (Str × Value)} (h : IsMp w b kvs) : b < w.heap.size := by obtain ⟨_, _, h, _⟩ := h; exact (Array.getElem?_eq_some_iff.1 h).1
theorem IsMp.ext {M : Nat → Prop} {w' : World} {b : Nat} {kvs : List (Str × Value)} (h : IsMp w b kvs) (hE : Ext M w w') (hm : ¬ M b) : IsMp w' b kvs := by
  obtain ⟨es, c, h1, h2⟩ := h; exact ⟨es, c, hE.obj h1 hm, h2⟩
theorem bytes_beq' (a b : Str) : ((⟨a.toArray⟩ : ByteArray) == ⟨b.toArray⟩) = decide (a = b) := by
  by_cases h : a = b
  · subst h; simp [MapKept.bytes_beq]
  · rw [decide_eq_false h]
    cases hb : ((⟨a.toArray⟩ : ByteArray) == ⟨b.toArray⟩) with
    | false => rfl
    | true =>
      have := (MapKept.bytes_beq _ _).1 hb
      simp at this; exact absurd this h
def mfind (k : Str) : List (Str × Value) → Nat → Option (Nat × Value)
  | [], _ => none
  | p :: l, i => if k = p.1 then some (i, p.2) else mfind k l (i + 1)
/-- A key's value laid in. -/
def mput (k : Str) (v : Value) : List (Str × Value) → List (Str × Value)
  | [] => [(k, v)]
  | p :: l => if k = p.1 then (k, v) :: l else p :: mput k v l
theorem findNow_str (k : Str) : ∀ (es : List MapEntry) (kvs : List (Str × Value)) (i : Nat), es.map (fun e => (e.key, e.val)) = kvs.map (fun p => (Sv p.1, p.2)) → Instr.findNow .string (Sv k) es i = some (mfind k kvs i)
  | [], [], _, _ => rfl
  | [], _ :: _, _, h => by simp at h
  | _ :: _, [], _, h => by simp at h
  | e :: es, p :: kvs, i, h => by
    simp only [List.map_cons, List.cons.injEq, Prod.mk.injEq] at h
    obtain ⟨⟨h1, h2⟩, h3⟩ := h
    have ih := findNow_str k es kvs (i + 1) h3
    simp only [Instr.findNow, h1, Instr.sameNow, bytes_beq', mfind, ih, h2]
    by_cases hk : k = p.1 <;> simp [hk]
theorem mfind_none {k : Str} {v : Value} : ∀ {kvs : List (Str × Value)} {i : Nat}, mfind k kvs i = none → mput k v kvs = kvs ++ [(k, v)]
  | [], _, _ => rfl
  | p :: l, i, h => by
    unfold mfind at h; unfold mput
    split at h
    · cases h
    · rename_i hk; rw [if_neg hk, mfind_none (kvs := l) h]; rfl
theorem mfind_some {k : Str} {v : Value} : ∀ {kvs : List (Str × Value)} {i j : Nat} {u : Value}, mfind k kvs i = some (j, u) → ∃ d, j = i + d ∧ d < kvs.length ∧ mput k v kvs = kvs.set d (k, v) ∧ kvs[d]?.map (·.1) = some k
  | [], _, _, _, h => by cases h
  | p :: l, i, j, u, h => by
    unfold mfind at h; unfold mput
    split at h
    · rename_i hk
      simp only [Option.some.injEq, Prod.mk.injEq] at h
      exact ⟨0, by omega, by simp, by rw [if_pos hk]; rfl, by simp [hk]⟩
    · rename_i hk
      obtain ⟨d, h1, h2, h3, h4⟩ := mfind_some (v := v) h
      exact ⟨d + 1, by omega, by simpa using h2, by rw [if_neg hk, h3]; rfl, by simpa using h4⟩
theorem isKeyS (k : Str) : MapKept.IsKey .string (Sv k) := trivial
section
variable {t key elem : TypeId} {z : Value} {x y m : Operand} {b : Nat} {kvs : List (Str × Value)} {k : Str}
/-- What laying in does. -/
theorem run_mapUpdate_mp (hT : MapT P t key elem z) (hb : IsMp w b kvs) (v : Value) :
    ∃ w', (Instr.mapUpdate t (.map (some b)) (Sv k) v).run P w = .ok () w' ∧ Ext (fun i => i = b) w w' ∧ IsMp w' b (mput k v kvs) ∧ w'.heap.size = w.heap.size := by
  obtain ⟨es, clock, h1, h2⟩ := hb
  have hf := findNow_str k es.toList kvs 0 h2.kv
  have hlt := (Array.getElem?_eq_some_iff.1 h1).1
  cases hm : mfind k kvs 0 with
  | none =>
    rw [hm] at hf
    refine ⟨w.putObj b (.map (es.push ⟨Sv k, v, clock⟩) (clock + 1)), ?_, Ext.putObj _ _ _ _ rfl, ⟨_, _, World.putObj_heap_same hlt, ?_, ?_, ?_⟩, by simp [World.putObj]⟩
    · simp [Instr.mapUpdate, run_underlying hT.under, MapKept.run_getObj_map h1, MapKept.run_checkKey hT.key (isKeyS k), MapKept.run_findKey hT.key hf, MapKept.run_setObj_map _ h1, Result.andThen, World.putObj]
    · rw [mfind_none hm]; simp [h2.kv]
    · rw [Array.toList_push, List.map_append, List.nodup_append]
      refine ⟨h2.nodup, by simp, ?_⟩
      intro a ha c hc
      simp only [List.map_cons, List.map_nil, List.mem_singleton] at hc
      obtain ⟨e, he, rfl⟩ := List.mem_map.1 ha
      have := h2.old e he; omega
    · intro e he
      rw [Array.toList_push] at he
      rcases List.mem_append.1 he with he | he
      · have := h2.old e he; omega
      · simp only [List.mem_singleton] at he; subst he; exact Nat.lt_succ_self _
  | some p =>
    obtain ⟨j, u⟩ := p
    rw [hm] at hf
    obtain ⟨d, hd1, hd2, hd3, hd4⟩ := mfind_some (v := v) hm
    obtain rfl : j = d := by omega
    have hlen : es.toList.length = kvs.length := by have := congrArg List.length h2.kv; simpa using this
    have hjl : j < es.size := by rw [← Array.length_toList]; omega
    have hkeyj : es[j].key = Sv k := by
      have e1 := congrArg (fun l => l[j]?) h2.kv
      simp only [List.getElem?_map] at e1
      rw [List.getElem?_eq_getElem (by omega : j < es.toList.length)] at e1
      cases hk2 : kvs[j]? with
      | none => rw [hk2] at hd4; cases hd4
      | some q => rw [hk2] at e1 hd4; simp at e1 hd4; rw [e1.1, hd4]
    have hgj : es[j]? = some es[j] := Array.getElem?_eq_getElem hjl
    have hset : (es.modify j fun e => { e with key := Sv k, val := v }).toList = es.toList.set j { es[j] with key := Sv k, val := v } := by
      rw [Array.toList_modify]
      exact ChangeMaps.modify_eq_set _ _ _ _ (by rw [Array.getElem?_toList]; exact hgj)
    refine ⟨w.putObj b (.map (es.modify j fun e => { e with key := Sv k, val := v }) clock), ?_, Ext.putObj _ _ _ _ rfl, ⟨_, _, World.putObj_heap_same hlt, ?_, ?_, ?_⟩, by simp [World.putObj]⟩
    · simp [Instr.mapUpdate, run_underlying hT.under, MapKept.run_getObj_map h1, MapKept.run_checkKey hT.key (isKeyS k), MapKept.run_findKey hT.key hf, hgj, hkeyj, MapKept.run_keyThatStays (isKeyS k), MapKept.run_setObj_map _ h1, Result.andThen, World.putObj]
    · rw [hset, hd3, List.map_set, List.map_set, h2.kv]
    · rw [hset, List.map_set]
      have : (es.toList.map (·.born)).set j es[j].born = es.toList.map (·.born) := by
        have e1 : es[j].born = (es.toList.map (·.born))[j]'(by simpa using hjl) := by simp
        rw [e1, List.set_getElem_self]
      rw [this]; exact h2.nodup
    · rw [hset]
      intro e he
      rcases List.mem_or_eq_of_mem_set he with he | rfl
      · exact h2.old e he
      · exact h2.old es[j] (by simp)
theorem wl_insert {v : Value} (hT : MapT P t key elem z) (hm : ev σ m = .map (some b)) (hx : ev σ x = Sv k) (hy : ev σ y = v) (hb : IsMp w b kvs)
    (kk : ∀ w', Ext (fun i => i = b) w w' → IsMp w' b (mput k v kvs) → w'.heap.size = w.heap.size → wl P ops rest K σ w') : wl P ops (⟨none, .insert t m x y, ty, pos, af, none⟩ :: rest) K σ w := by
  obtain ⟨w', h1, h2, h3, h4⟩ := run_mapUpdate_mp hT hb v
  refine wl_do (w' := w') ?_ (kk w' h2 h3 h4)
  show (execOp (ev σ) _).run P w = _
  simp [execOp, hm, hx, hy, h1]
end
theorem mp_nil : Mp [] 0 [] := ⟨rfl, by simp, by simp⟩
theorem ismp_alloc (w : World) : IsMp (w.alloc (.map #[] 0)) w.heap.size [] := ⟨#[], 0, by have := World.alloc_heap_new w (.map #[] 0); simpa using this, mp_nil⟩
theorem wl_makeMap {t : TypeId} {d : Nat} (k : ∀ b w', w.heap.size ≤ b → Ext Non w w' → IsMp w' b [] → wl P ops rest K (upd σ d (.map (some b))) w') : wl P ops (⟨some d, .makeMap t none, ty, pos, af, none⟩ :: rest) K σ w := by
  refine wl_new (w' := w.alloc (.map #[] 0)) (v := .map (some w.heap.size)) ?_ (k _ _ (Nat.le_refl _) (Ext.alloc _ _) (ismp_alloc w))
  show (execOp (ev σ) _).run P w = _
  simp [execOp, Instr.makeMap, newObj]; rfl
/-! ### a map that is gone through -/
/-- Block r goes through map b, which has kvs; these are yet to come (in whatever order). -/
def IsGo (w : World) (r b : Nat) (kvs left : List (Str × Value)) : Prop :=
  r ≠ b ∧ ∃ es clock seen, w.heap[b]? = some (.map es clock) ∧ Mp es.toList clock kvs ∧ w.heap[r]? = some (.mapIter (some b) clock seen clock) ∧
    (leftOf es seen).toList.map (fun e => (e.key, e.val)) = left.map (fun p => (Sv p.1, p.2))
theorem IsGo.ne {r b : Nat} {kvs left : List (Str × Value)} (h : IsGo w r b kvs left) : r ≠ b := h.1
theorem IsGo.mp {r b : Nat} {kvs left : List (Str × Value)} (h : IsGo w r b kvs left) : IsMp w b kvs := by
  obtain ⟨_, es, c, s, h1, h2, _⟩ := h; exact ⟨es, c, h1, h2⟩
theorem IsGo.lt {r b : Nat} {kvs left : List (Str × Value)} (h : IsGo w r b kvs left) : r < w.heap.size := by
  obtain ⟨_, es, c, s, _, _, h3, _⟩ := h; exact (Array.getElem?_eq_some_iff.1 h3).1
theorem IsGo.ext {M : Nat → Prop} {w' : World} {r b : Nat} {kvs left : List (Str × Value)} (h : IsGo w r b kvs left) (hE : Ext M w w') (hr : ¬ M r) (hb : ¬ M b) : IsGo w' r b kvs left := by
  obtain ⟨h0, es, c, s, h1, h2, h3, h4⟩ := h; exact ⟨h0, es, c, s, hE.obj h1 hb, h2, hE.obj h3 hr, h4⟩
theorem wl_range {t key elem : TypeId} {x : Operand} {d b : Nat} {kvs : List (Str × Value)} {z : Value} (hT : MapT P t key elem z) (hx : ev σ x = .map (some b)) (hb : IsMp w b kvs)
    (k : ∀ r w', w.heap.size ≤ r → Ext Non w w' → IsGo w' r b kvs kvs → wl P ops rest K (upd σ d (.pointer (some ⟨r, 0, none⟩))) w') : wl P ops (⟨some d, .range t x, ty, pos, af, none⟩ :: rest) K σ w := by
  have hlt := hb.lt
  obtain ⟨es, clock, h1, h2⟩ := hb
  refine wl_new (w' := w.alloc (.mapIter (some b) clock #[] clock)) (v := .pointer (some ⟨w.heap.size, 0, none⟩)) ?_ (k _ _ (Nat.le_refl _) (Ext.alloc _ _) ?_)
  · show (execOp (ev σ) _).run P w = _
    simp [execOp, hx, Instr.range, run_underlying hT.under, MapKept.run_getObj_map h1, newObj]; rfl
  · refine ⟨by omega, es, clock, #[], (Ext.alloc w _).obj h1 (fun h => h), h2, ?_, ?_⟩
    · have := World.alloc_heap_new w (.mapIter (some b) clock #[] clock); simpa using this
    · have : leftOf es #[] = es := by unfold leftOf; simp
      rw [this]; exact h2.kv
theorem left_push {es : List MapEntry} {seen : Array Nat} {e : MapEntry} (hn : (es.map (·.born)).Nodup) (he : e ∈ es.filter fun e => !seen.contains e.born) :
    ∃ l1 l2, (es.filter fun e => !seen.contains e.born) = l1 ++ e :: l2 ∧ (es.filter fun x => !(seen.push e.born).contains x.born) = l1 ++ l2 := by
  obtain ⟨l1, l2, h⟩ := List.append_of_mem he
  refine ⟨l1, l2, h, ?_⟩
  have h1 : (es.filter fun x => !(seen.push e.born).contains x.born) = (es.filter fun e => !seen.contains e.born).filter fun x => decide (x.born ≠ e.born) := by
    rw [List.filter_filter]
    congr 1; funext x
    simp [Array.contains_push, Bool.and_comm]
  rw [h1, h, List.filter_append, List.filter_cons]
  have hnd : ((es.filter fun e => !seen.contains e.born).map (·.born)).Nodup := List.Nodup.sublist (List.Sublist.map _ List.filter_sublist) hn
  rw [h, List.map_append, List.map_cons, List.nodup_append] at hnd
  obtain ⟨a1, a2, a3⟩ := hnd
  rw [List.nodup_cons] at a2
  have f1 : l1.filter (fun x => decide (x.born ≠ e.born)) = l1 := List.filter_eq_self.2 fun x hx => by
    have := a3 x.born (List.mem_map_of_mem hx) e.born (by simp)
    simpa using this
  have f2 : l2.filter (fun x => decide (x.born ≠ e.born)) = l2 := List.filter_eq_self.2 fun x hx => by
    have : x.born ≠ e.born := fun h => a2.1 (by rw [← h]; exact List.mem_map_of_mem hx)
    simpa using this
  rw [f1, f2]; simp
end Go.Proofs.YthcclgoidchkdaaDoorC
