/- Walks of loops over functions: marks, iterators' own walks, rounds; slices of one's own by their block; each rule holds of whatever program. -/
import Derived.Test.YthcclgoidchkdaaDoorCoreM
set_option linter.unusedVariables false
set_option linter.unusedSimpArgs false
namespace Go.Proofs.YthcclgoidchkdaaDoorC
open Go.RowKit
variable {ro : Option Nat} {P : Program} {n : Nat} {Q : Post} {σ : Env} {D : List Deferred} {w : World} {dst : Option Nat} {ty : TypeId} {pos : String} {af : Array Edge} {g : Option (Nat × Bool)}
variable {ops rest : List Oper} {K : Ops}

/-! ### marks of loops over functions that are done -/
/-- These are marks of done loops, each a block of its own, made since w. -/
inductive Mk (w : World) : List Deferred → World → Prop
  | nil {A : World} : Mk w [] A
  | cons {r : Nat} {D : List Deferred} {A : World} : A.heap[r]? = some (.deferred (some [])) → w.heap.size ≤ r → (∀ s, mark s ∈ D → s ≠ r) → Mk w D A → Mk w (mark r :: D) A
theorem Mk.each {D : List Deferred} {A : World} (h : Mk w D A) : ∀ d ∈ D, ∃ r, d = mark r ∧ A.heap[r]? = some (.deferred (some [])) ∧ w.heap.size ≤ r := by
  induction h with
  | nil => intro d h; cases h
  | cons h1 h2 h3 h4 ih =>
    intro d hd
    rcases List.mem_cons.1 hd with rfl | hd
    · exact ⟨_, rfl, h1, h2⟩
    · exact ih d hd
theorem mark_inj {r s : Nat} (h : mark r = mark s) : r = s := by simpa [mark] using h
theorem Mk.ext {D : List Deferred} {A B : World} {M : Nat → Prop} (h : Mk w D A) (hE : Ext M A B) (hM : ∀ r, mark r ∈ D → ¬ M r) : Mk w D B := by
  induction h with
  | nil => exact .nil
  | cons h1 h2 h3 h4 ih => exact .cons (hE.obj h1 (hM _ (by simp))) h2 h3 (ih hE (fun r hr => hM r (by simp [hr])))
theorem Mk.non {D : List Deferred} {A B : World} (h : Mk w D A) (hE : Ext Non A B) : Mk w D B := h.ext hE fun _ _ => id
theorem Mk.box {D : List Deferred} {A B : World} {b : Nat} {cs : List Value} (h : Mk w D A) (hE : Ext (fun i => i = b) A B) (hb : IsBox A b cs) : Mk w D B := h.ext hE fun r hr e => by
  obtain ⟨s, h1, h2, _⟩ := h.each _ hr
  cases mark_inj h1; subst e
  obtain ⟨T, hb⟩ := hb
  rw [h2] at hb; cases hb
theorem Mk.ne {D : List Deferred} {A : World} {b : Nat} {cs : List Value} (h : Mk w D A) (hb : IsBox A b cs) : ¬ mark b ∈ D := fun hr => by
  obtain ⟨s, h1, h2, _⟩ := h.each _ hr
  cases mark_inj h1
  obtain ⟨T, hb⟩ := hb
  rw [h2] at hb; cases hb
theorem Mk.add {D : List Deferred} {A : World} {r : Nat} (h : Mk w D A) (h1 : A.heap[r]? = some (.deferred (some []))) (h2 : w.heap.size ≤ r) (h3 : ¬ mark r ∈ D) : Mk w (mark r :: D) A :=
  .cons h1 h2 (fun s hs e => h3 (e ▸ hs)) h
theorem Mk.leave {rs : List ResultVar} {R : Value → World → Prop} {D : List Deferred} {A : World} (h : Mk w D A) (hr : ∀ B, Ext (fun i => mark i ∈ D) A B → ∃ v, resR P σ B rs v ∧ R v B) : Leave P rs R σ D A := by
  induction h with
  | nil => exact hr _ (Ext.refl _ _)
  | @cons r D A h1 h2 h3 h4 ih =>
    refine ⟨r, rfl, h1, ?_⟩
    have hE : Ext (fun i => i = r) A (A.putObj r (.deferred none)) := Ext.putObj _ _ _ _ rfl
    have h5 : Mk w D (A.putObj r (.deferred none)) := h4.ext hE (fun s hs e => h3 s hs e)
    clear ih
    have key : ∀ (D : List Deferred) (A' : World), Mk w D A' → (∀ B, Ext (fun i => mark i ∈ D) A' B → ∃ v, resR P σ B rs v ∧ R v B) → Leave P rs R σ D A' := by
      intro D
      induction D with
      | nil => intro A' _ hr; exact hr _ (Ext.refl _ _)
      | cons d D ih =>
        intro A' hm hr
        cases hm with
        | @cons r D A h1 h2 h3 h4 =>
          refine ⟨r, rfl, h1, ?_⟩
          have hE : Ext (fun i => i = r) A' (A'.putObj r (.deferred none)) := Ext.putObj _ _ _ _ rfl
          exact ih _ (h4.ext hE (fun s hs e => h3 s hs e)) fun B hB => hr B ((hE.mono (fun i e => by rw [e]; simp)).trans (hB.mono (fun i e => by simp [e])))
    exact key D _ h5 fun B hB => hr B ((hE.mono (fun i e => by rw [e]; simp)).trans (hB.mono (fun i e => by simp [e])))
/-- A loop of which each round may leave marks. -/
theorem W_loopD {S : Type} {c : Code} (ls : List Nat) (f : S → List Value) (I : S → List Deferred → World → Prop) (μ : S → Nat) (s0 : S) (h0 : Holds ls (f s0) σ) (hi : I s0 D w)
    (hr : ∀ τ s D A, I s D A → W ro P n c (Then (fun σ' D' A' => ∃ s', Holds ls (f s') σ' ∧ I s' D' A' ∧ μ s' < μ s) Q) (updN τ ls (f s)) D A) : W ro P n (.loop c) Q σ D w := by
  let R : Env → List Deferred → World → Nat → Prop := fun σ D w k => ∃ s, Holds ls (f s) σ ∧ I s D w ∧ μ s = k
  intro hk a hs hd
  have hk' : okc n c = true := hk
  refine wpIn_loop (fun a w => ∃ σ, Sim n a σ ∧ ∃ k, R σ a.defers w k) (fun a w => least (R (fun i => a.tmps.getD i undef) a.defers w)) ⟨σ, hs, _, s0, h0, hd ▸ hi, rfl⟩ ?_
  rintro a w ⟨σ, hs, k, hk⟩
  have e1 : (fun i => a.tmps.getD i undef) = σ := funext hs.agree
  obtain ⟨⟨s, hs1, hs2, hs3⟩, _⟩ := least_spec hk
  have h4 := hr σ s a.defers w hs2
  rw [updN_self _ _ _ hs1] at h4
  refine wpIn_mono (h4 hk' a hs rfl) fun e a' w' ⟨σ', h5, h6⟩ => ?_
  have e2 : (fun i => a'.tmps.getD i undef) = σ' := funext h5.agree
  cases e with
  | normal =>
    obtain ⟨s', h7, h8, h9⟩ := h6
    have hk2 : R σ' a'.defers w' (μ s') := ⟨s', h7, h8, rfl⟩
    have := (least_spec hk2).2
    exact ⟨⟨σ', h5, _, hk2⟩, by simp only [e1, e2]; omega⟩
  | _ => exact ⟨σ', h5, h6⟩

/-! ### who may write what -/
/-- Block b is among F's, or newer than w. -/
abbrev Mine (F : Nat → Prop) (w : World) (b : Nat) : Prop := F b ∨ w.heap.size ≤ b
theorem Ext.mine {F : Nat → Prop} {A B : World} {b : Nat} (h : Ext F w A) (k : Ext (fun i => i = b) A B) (hb : Mine F w b) : Ext F w B :=
  ⟨k.os.trans h.os, k.tape.trans h.tape, k.output.trans h.output, Nat.le_trans h.size k.size, fun i hi hm => (k.block i (Nat.lt_of_lt_of_le hi h.size) (fun e => by subst e; rcases hb with hb | hb; exact hm hb; omega)).trans (h.block i hi hm)⟩
theorem Ext.mineO {F : Nat → Prop} {A B : World} {o : Option Nat} (h : Ext F w A) (k : Ext (fun i => o = some i) A B) (hb : ∀ i, o = some i → Mine F w i) : Ext F w B :=
  ⟨k.os.trans h.os, k.tape.trans h.tape, k.output.trans h.output, Nat.le_trans h.size k.size, fun i hi hm => (k.block i (Nat.lt_of_lt_of_le hi h.size) (fun e => by rcases hb i e with hb | hb; exact hm hb; omega)).trans (h.block i hi hm)⟩
theorem Ext.tr {F : Nat → Prop} {A B : World} (h : Ext F w A) (k : Ext Non A B) : Ext F w B := h.trans k.of_non

theorem Mk.out {D : List Deferred} {A B : World} (h : Mk w D A) (hX : Ext Non w A) (hB : Ext (fun i => mark i ∈ D) A B) : Ext Non w B :=
  ((hX.of_non (M := fun i => mark i ∈ D)).trans hB).fresh fun i hi => by
    obtain ⟨r, h1, _, h3⟩ := h.each _ hi
    cases mark_inj h1; exact h3
/-- Marks that are none of N's. -/
def MkN (w : World) (D : List Deferred) (N : Nat → Prop) (A : World) : Prop := Mk w D A ∧ ∀ r, mark r ∈ D → ¬ N r
theorem Stab.mk {n0 : Nat} (w : World) (D : List Deferred) : Stab n0 (fun N A => MkN w D N A) := fun N A B hN hA h hE =>
  ⟨h.1.ext hE h.2, fun r hr => not_grow (h.2 r hr) (by obtain ⟨s, h1, h2, _⟩ := h.1.each _ hr; cases mark_inj h1; exact (Array.getElem?_eq_some_iff.1 h2).1)⟩
theorem Mk.toN {D : List Deferred} {A : World} (h : Mk w D A) : MkN w D Non A := ⟨h, fun _ _ => id⟩
theorem MkN.add {D : List Deferred} {N : Nat → Prop} {A : World} {r : Nat} (h : MkN w D N A) (h1 : A.heap[r]? = some (.deferred (some []))) (h2 : w.heap.size ≤ r) (h3 : N r) : Mk w (mark r :: D) A := h.1.add h1 h2 fun hr => h.2 r hr h3
theorem MkN.non {D : List Deferred} {N : Nat → Prop} {A B : World} (h : MkN w D N A) (hE : Ext Non A B) : MkN w D N B := ⟨h.1.non hE, h.2⟩
theorem MkN.box {D : List Deferred} {N : Nat → Prop} {A B : World} {b : Nat} {cs : List Value} (h : MkN w D N A) (hE : Ext (fun i => i = b) A B) (hb : IsBox A b cs) : MkN w D N B := ⟨h.1.box hE hb, h.2⟩
theorem MkN.lp {D : List Deferred} {N : Nat → Prop} {A B : World} {l : Nat} (h : MkN w D N A) (hE : Ext (fun i => i = l) A B) (hl : N l) : MkN w D N B := ⟨h.1.ext hE (fun r hr e => h.2 r hr (e ▸ hl)), h.2⟩

theorem IsBox.cast {b : Nat} {cs cs' : List Value} (h : IsBox w b cs) (e : cs = cs') : IsBox w b cs' := e ▸ h
section parts
variable {M : Nat → Prop} {a : Addr} {m c k : Nat} {rows : List (List Value)} {i : Nat} {r vs : List Value} {d e s : Nat}
theorem IsBox.part {b o : Nat} {cs : List Value} (h : IsBox w b cs) (hs : (cs.drop o).take s = vs) (hk : o + s ≤ cs.length) (j : Nat) (hj : j < s) : w.cell? ((⟨b, o, none⟩ : Addr).add j) = vs[j]? := by
  rw [h.all s hk j hj, hs]
end parts

/-! ### an iterator's own walk -/
/-- How it stands in an iterator's walk that began in W: what is said of the rounds so far holds; w0 but M is as it was; these blocks are its own. -/
structure Tl (M : Nat → Prop) (w0 W : World) (J : (Nat → Prop) → World → Prop) (bs : List Nat) (A : World) : Prop where
  stab : Stab W.heap.size J
  beg : Ext M w0 W
  ex : ∃ N, (∀ i, N i → W.heap.size ≤ i ∧ i < A.heap.size) ∧ W.heap.size ≤ A.heap.size ∧ J N A ∧ ∀ b ∈ bs, N b
  w0 : Ext M w0 A
variable {M : Nat → Prop} {w0 W A B : World} {J : (Nat → Prop) → World → Prop} {bs : List Nat} {b : Nat}
theorem Tl.trans (h : Tl M w0 W J bs A) (hE : Ext Non A B) : Tl M w0 W J bs B := by
  obtain ⟨N, h1, h2, h3, h4⟩ := h.ex
  refine ⟨h.stab, h.beg, ⟨grow N A B, fun i hi => ?_, Nat.le_trans h2 hE.size, h.stab N A B (fun i hi => (h1 i hi).1) h2 h3 hE.of_non, fun b hb => .inl (h4 b hb)⟩, h.w0.tr hE⟩
  rcases hi with hi | hi
  · exact ⟨(h1 i hi).1, Nat.lt_of_lt_of_le (h1 i hi).2 hE.size⟩
  · exact ⟨by omega, hi.2⟩
theorem Tl.tr (h : Tl M w0 W J bs A) (hE : Ext Non A B) : Tl M w0 W J bs B := h.trans hE
theorem Tl.add (h : Tl M w0 W J bs A) (hE : Ext Non A B) (hb : A.heap.size ≤ b) (hb' : b < B.heap.size) : Tl M w0 W J (b :: bs) B := by
  obtain ⟨N, h1, h2, h3, h4⟩ := h.ex
  refine ⟨h.stab, h.beg, ⟨grow N A B, fun i hi => ?_, Nat.le_trans h2 hE.size, h.stab N A B (fun i hi => (h1 i hi).1) h2 h3 hE.of_non, fun c hc => ?_⟩, h.w0.tr hE⟩
  · rcases hi with hi | hi
    · exact ⟨(h1 i hi).1, Nat.lt_of_lt_of_le (h1 i hi).2 hE.size⟩
    · exact ⟨by omega, hi.2⟩
  · rcases List.mem_cons.1 hc with rfl | hc
    · exact .inr ⟨hb, hb'⟩
    · exact .inl (h4 c hc)
theorem Tl.mine (h : Tl M w0 W J bs A) (hE : Ext (fun i => i = b) A B) (hb : b ∈ bs) : Tl M w0 W J bs B := by
  obtain ⟨N, h1, h2, h3, h4⟩ := h.ex
  have hE' : Ext N A B := hE.mono fun i e => e ▸ h4 b hb
  refine ⟨h.stab, h.beg, ⟨grow N A B, fun i hi => ?_, Nat.le_trans h2 hE.size, h.stab N A B (fun i hi => (h1 i hi).1) h2 h3 hE', fun b hb => .inl (h4 b hb)⟩, ?_⟩
  · rcases hi with hi | hi
    · exact ⟨(h1 i hi).1, Nat.lt_of_lt_of_le (h1 i hi).2 hE.size⟩
    · exact ⟨by omega, hi.2⟩
  · exact h.w0.mine hE (.inr (Nat.le_trans h.beg.size (h1 b (h4 b hb)).1))
theorem Tl.less {bs' : List Nat} (h : Tl M w0 W J bs A) (hb : ∀ b ∈ bs', b ∈ bs) : Tl M w0 W J bs' A := by
  obtain ⟨N, h1, h2, h3, h4⟩ := h.ex
  exact ⟨h.stab, h.beg, ⟨N, h1, h2, h3, fun b hb' => h4 b (hb b hb')⟩, h.w0⟩
theorem Tl.size (h : Tl M w0 W J bs A) : W.heap.size ≤ A.heap.size := by obtain ⟨N, _, h2, _⟩ := h.ex; exact h2
/-- What a yield that was asked for more may turn. -/
abbrev Yw (M : Nat → Prop) (w0 : World) (bs : List Nat) : Nat → Prop := fun i => ¬ i ∈ bs ∧ (M i ∨ w0.heap.size ≤ i)
/-- **An iterator, by the walk of its code.** -/
theorem iter_of {α : Type} {encs : α → Array Value} {xs : List α} {f : FuncId} {cap : Array Value} (hf : entersB P f = true)
    (h : ∀ (l : Nat) (W : World) (J : List α → (Nat → Prop) → World → Prop) (Jx : (Nat → Prop) → World → Prop), Ext M w0 W → Tl M w0 W (J []) [] W → 
      (∀ pre x post bs A, xs = pre ++ x :: post → Tl M w0 W (J pre) bs A → YieldOk P l (encs x) A fun b B => Ext (Yw M w0 bs) A B ∧ (b = true → Tl M w0 W (J (pre ++ [x])) bs B) ∧ (b = false → Tl M w0 W Jx bs B)) →
      Calls P f (#[.func (.yield l) #[] #[]] ++ cap) W fun e W' => ∃ v, e = .returned v ∧ (Tl M w0 W (J xs) [] W' ∨ Tl M w0 W Jx [] W')) : Iter P M w0 (.func (.func f) #[] cap) encs xs := by
  refine ⟨f, cap, rfl, hf, fun l W J Jx hW hJ hJx hY h0 => ?_⟩
  refine Calls.mono (h l W J Jx hW ⟨hJ [], hW, ⟨Non, fun _ h => h.elim, Nat.le_refl _, h0, by simp⟩, hW⟩ ?_) ?_
  · intro pre x post bs A hx hT
    obtain ⟨N, h1, h2, h3, h4⟩ := hT.ex
    obtain ⟨fn, tmps, assign, body, hy, hr⟩ := hY N pre x A h1 h2 h3 ⟨post, hx⟩
    refine ⟨fn, tmps, assign, body, hy, hr.mono ?_⟩
    rintro e B ⟨b, he, hE, ht, hf⟩
    have hE' : Ext (Yw M w0 bs) A B := hE.mono fun i hi => ⟨fun hb => hi.1 (h4 i hb), hi.2⟩
    have hw : Ext M w0 B := ⟨hE.os.trans hT.w0.os, hE.tape.trans hT.w0.tape, hE.output.trans hT.w0.output, Nat.le_trans hT.w0.size hE.size, fun i hi hm => (hE.block i (Nat.lt_of_lt_of_le hi hT.w0.size) (fun h => by rcases h.2 with h | h; exact hm h; omega)).trans (hT.w0.block i hi hm)⟩
    have hN : ∀ i, N i → W.heap.size ≤ i ∧ i < B.heap.size := fun i hi => ⟨(h1 i hi).1, Nat.lt_of_lt_of_le (h1 i hi).2 hE.size⟩
    exact ⟨b, he, hE', fun hb => ⟨hJ _, hW, ⟨N, hN, Nat.le_trans h2 hE.size, ht hb, h4⟩, hw⟩, fun hb => ⟨hJx, hW, ⟨N, hN, Nat.le_trans h2 hE.size, hf hb, h4⟩, hw⟩⟩
  · rintro e W' ⟨v, he, hT | hT⟩
    · obtain ⟨N, h1, h2, h3, _⟩ := hT.ex; exact ⟨v, N, he, h2, h1, .inl h3⟩
    · obtain ⟨N, h1, h2, h3, _⟩ := hT.ex; exact ⟨v, N, he, h2, h1, .inr h3⟩

/-! ### literal slices of one element; slices of one's own, by their block -/
theorem wl_lit1 {t e : TypeId} {k bytes : Nat} {z : List Value} (hT : SliceT P t e k bytes z) (hz : z.length = k) {d : Nat} {x : Operand} {v : Value} {r : List Value} (hx : ev σ x = v) (hv : v.cells.toList = r) (hr : r.length = k) (hk : k ≤ 16777216)
    (kk : ∀ v w' b, w.heap.size ≤ b → Ext Non w w' → Ow w' v b k [r] [] → wl P ops rest K (upd σ d v) w') : wl P ops (⟨some d, .buildSlice t 1 #[(0, x)], ty, pos, af, none⟩ :: rest) K σ w := by
  subst hx
  have hsz : (ev σ x).cells.size = k := by rw [← hr, ← hv]; simp
  refine wl_lit (parts := [(0, x)]) (rows := [r]) hT hz (by omega) (by decide) rfl rfl (by simpa using hr) (by simpa using hsz) ?_ kk
  simp only [List.map_cons, List.map_nil, List.foldl_cons, List.foldl_nil, Nat.zero_mul, List.replicate_one, List.flatten_cons, List.flatten_nil, List.append_nil, hv]
  exact patch_all (by rw [hr, hz])
/-- The call's own slice, in block o, or nil. -/
def OwO (w : World) (v : Value) (o : Option Nat) (k : Nat) (rows : List (List Value)) : Prop :=
  (v = .slice none 0 0 ∧ rows = [] ∧ o = none) ∨ ∃ b spare, o = some b ∧ Ow w v b k rows spare
theorem OwO.nil {k : Nat} : OwO w (.slice none 0 0) none k [] := .inl ⟨rfl, rfl, rfl⟩
theorem OwO.sl {v : Value} {o : Option Nat} {k : Nat} {rows : List (List Value)} (h : OwO w v o k rows) {M : Nat → Prop} (hm : ∀ i, o = some i → ¬ M i) : Sl M w v k rows := by
  rcases h with ⟨rfl, rfl, _⟩ | ⟨b, spare, hB, h⟩
  · exact Sl.nil _ _ _
  · exact h.sl (hm b hB)
theorem OwO.ext {v : Value} {o : Option Nat} {k : Nat} {rows : List (List Value)} (h : OwO w v o k rows) {M : Nat → Prop} {w' : World} (hE : Ext M w w') (hm : ∀ i, o = some i → ¬ M i) : OwO w' v o k rows := by
  rcases h with ⟨rfl, rfl, h⟩ | ⟨b, spare, hB, h⟩
  · exact .inl ⟨rfl, rfl, h⟩
  · exact .inr ⟨b, spare, hB, h.ext hE (hm b hB)⟩
theorem OwO.lt {v : Value} {o : Option Nat} {k : Nat} {rows : List (List Value)} (h : OwO w v o k rows) {i : Nat} (hi : o = some i) : i < w.heap.size := by
  rcases h with ⟨_, _, h⟩ | ⟨b, spare, hB, h⟩
  · rw [hi] at h; cases h
  · rw [hi] at hB; cases hB; exact h.box.lt
theorem OwO.len {v : Value} {o : Option Nat} {k : Nat} {rows : List (List Value)} (h : OwO w v o k rows) : ∃ a c, v = .slice a rows.length c := by
  rcases h with ⟨rfl, rfl, _⟩ | ⟨b, spare, hB, h⟩
  · exact ⟨_, _, rfl⟩
  · obtain ⟨c, h, _⟩ := h.val; exact ⟨_, _, h⟩
/-- The walk's step for append(s, x...), s the call's own or nil, by its block. -/
theorem wl_app {t e : TypeId} {k bytes : Nat} {z : List Value} (hT : SliceT P t e k bytes z) (hz : z.length = k) {M' : Nat → Prop} {s x : Operand} {d : Nat} {v vx : Value} {o : Option Nat} {rows rows2 : List (List Value)}
    (hsv : ev σ s = v) (hxv : ev σ x = vx) (hs : OwO w v o k rows) (hx : Sl M' w vx k rows2) (h1 : ∀ r ∈ rows2, ∀ u ∈ r, u.oneCell' = true) (hb : (rows.length + rows2.length) * bytes ≤ 140737488355328) (h63 : rows.length + rows2.length ≤ big)
    (kk : ∀ v' w' o', Ext (fun i => o = some i) w w' → OwO w' v' o' k (rows ++ rows2) → (∀ i, o' = some i → o = some i ∨ w.heap.size ≤ i) → wl P ops rest K (upd σ d v') w') : wl P ops (⟨some d, .call ⟨.builtin .append, #[s, x], #[t, t]⟩, ty, pos, af, none⟩ :: rest) K σ w := by
  obtain ⟨a2, c2, rfl, _⟩ := hx.len
  have key : ∃ v' w' o', (Builtin.append_ #[t, t] ty #[v, .slice a2 rows2.length c2]).run P w = .ok v' w' ∧ Ext (fun i => o = some i) w w' ∧ OwO w' v' o' k (rows ++ rows2) ∧ (∀ i, o' = some i → o = some i ∨ w.heap.size ≤ i) := by
    rcases hs with ⟨rfl, rfl, rfl⟩ | ⟨b, spare, rfl, h⟩
    · obtain ⟨v', w', h2, h3, h4⟩ := run_append_own' hT hz (OwN.nil w w.heap.size k) hx h1 (Nat.le_refl _) hb h63 ty
      have h5 : Ext (fun i => (none : Option Nat) = some i) w w' := (h3.fresh fun i h => h).of_non
      rcases h4 with ⟨rfl, e⟩ | ⟨b, sp, hB, h4⟩
      · exact ⟨_, w', none, h2, h5, .inl ⟨rfl, e, rfl⟩, fun i h => by cases h⟩
      · exact ⟨v', w', some b, h2, h5, .inr ⟨b, sp, rfl, h4⟩, fun i h => by cases h; exact .inr hB⟩
    · obtain ⟨c, hv, hc1, hc2, hc3⟩ := h.val
      by_cases hroom : rows.length + rows2.length ≤ c
      · obtain ⟨v', w', sp, h2, h3, h4⟩ := run_append_room' hT h hx h1 ⟨_, c, hv, hroom⟩ ty
        exact ⟨v', w', some b, h2, h3.mono (fun i e => by rw [e]), .inr ⟨b, sp, rfl, h4⟩, fun i h => .inl h⟩
      · have hsl := h.sl (M := Non) id
        subst hv
        obtain ⟨v', w', sp, h2, h3, h4⟩ := run_append_grow' hT hz hsl hx (by omega) hb h63 ty
        exact ⟨v', w', some w.heap.size, h2, h3.of_non, .inr ⟨_, sp, rfl, h4⟩, fun i h => by cases h; exact .inr (Nat.le_refl _)⟩
  obtain ⟨v', w', o', h2, h3, h4, h5⟩ := key
  refine wl_new (w' := w') (v := v') ?_ (kk v' w' o' h3 h4 h5)
  show (execOp (ev σ) _).run P w = _
  simp [execOp, resolve, invoke, builtin, hsv, hxv, h2]
/-- A literal struct, by a test. -/
theorem rn_build' {t : TypeId} {pl : List (Nat × Nat)} {z : List Value} (hT : BuildT P t pl z) {parts : List (Nat × Operand)} {vals : List (Nat × Value)} {cs : List Value} (hv : parts.map (fun p => (p.1, ev σ p.2)) = vals)
    (hp : (vals.all fun p => match pl[p.1]? with | some (o, s) => p.2.cells.size == s && Nat.ble (o + s) z.length | none => false) = true) (hr : fillL pl z vals = cs) :
    Rn P σ w ⟨dst, .build t parts.toArray, ty, pos, af, g⟩ (.agg cs.toArray) := rn_build hT hv (fun p hp' => by
      have := List.all_eq_true.1 hp p hp'
      cases h : pl[p.1]? with
      | none => simp [h] at this
      | some x => obtain ⟨o, s⟩ := x; simp [h] at this; exact ⟨o, s, rfl, this⟩) hr
end Go.Proofs.YthcclgoidchkdaaDoorC
