/- A region that draws its order and writes at its end: some operations may leave the class of worlds; the rules of CoreC, but for these; each rule holds of whatever program. -/
import Derived.Test.YthcclgoidchkdaaDoorCoreO
set_option linter.unusedVariables false
set_option linter.unusedSimpArgs false
namespace Go.Proofs.YthcclgoidchkdaaDoorC
open Go.RowKit
variable {ro : Option Nat} {P : Program} {n : Nat} {Q : Post} {σ : Env} {D : List Deferred} {w : World} {S : World → Prop} {K : Ops} {ex : Nat → Bool}
/-- Whatever order is picked from here on; S holds behind each operation. -/
def wx (P : Program) (ops : List Oper) (ex : Nat → Bool) (S : World → Prop) (K : Ops) : Nat → Array Bool → Env → World → Prop
  | 0, listed, σ, w => Region.ready .any ops.toArray listed = [] ∧ K σ w
  | f + 1, listed, σ, w => (Region.ready .any ops.toArray listed = [] → K σ w) ∧
    ∀ i ∈ Region.ready .any ops.toArray listed, ∀ o, ops[i]? = some o → step1 P ops o σ w (fun σ' w' => (ex i = false → S w') ∧ wx P ops ex S K f (listed.setIfInBounds i true) σ' w')
theorem wx_sound {ops : List Oper} (hops : okOps n ops = true) (hnd : noDefer ops = true) : ∀ (f : Nat) (listed : Array Bool) (σ : Env) (a : Act) (w : World), Sim n a σ → wx P ops ex S K f listed σ w →
    wpAnyIn (fz ro) 0 P .any ops.toArray (fun e a' w' => e = .normal ∧ ∃ σ', Sim n a' σ' ∧ a'.defers = a.defers ∧ K σ' w') f listed a w
  | 0, listed, σ, a, w, hs, h => ⟨h.1, rfl, σ, hs, rfl, h.2⟩
  | f + 1, listed, σ, a, w, hs, h => by
    refine ⟨fun h0 => ⟨rfl, σ, hs, rfl, h.1 h0⟩, fun i hi => ?_⟩
    unfold wpOpIn
    cases ho : ops.toArray[i]? with
    | none => obtain ⟨_, o, ho', _⟩ := mem_ready.1 hi; rw [ho] at ho'; cases ho'
    | some o =>
      have ho' : ops[i]? = some o := by simpa using ho
      have hmem := List.mem_of_getElem? ho'
      have hdst : ∀ d, o.dst = some d → d < n := fun d e => by
        have := List.all_eq_true.1 hops o hmem; rw [e] at this; simpa using this
      have hd : ∀ v, (a.put o.dst v).defers = a.defers := fun v => by cases o.dst <;> rfl
      have h1 := h.2 i hi o ho'
      simp only
      rw [wanted_sim hs hops]
      unfold step1 at h1
      by_cases hw : wantedBy ops σ o = true
      · rw [if_pos hw] at h1 ⊢
        refine op1_sound hs hdst (List.all_eq_true.1 hnd o hmem) (fun a' σ' w' hs' hd' hk => ?_) h1
        have := wx_sound hops hnd f _ σ' a' w' hs' hk.2
        rw [hd'] at this; exact this
      · rw [if_neg hw] at h1 ⊢
        refine ⟨fun f _ => fz_fn ro f, ?_⟩
        have := wx_sound hops hnd f _ _ _ w (hs.put o.dst undef hdst) h1.2
        rw [hd] at this; exact this
theorem W_drawX0 {id : Nat} {l : List Oper} (S : World → Prop) (hm : P.follows .mixedOrders = true)
    (h : wx P l ex S (fun σ' w' => Q .normal σ' D w') l.length (Array.replicate l.length false) σ { w with drawn := w.drawn + 1 }) : W ro P n (.region id l.toArray true) Q σ D w := by
  intro hk a hs hd
  simp only [okc, Bool.and_eq_true] at hk
  refine wpIn_mono (wpIn_region_any hm (by simpa using wx_sound (ro := ro) hk.1 hk.2 _ _ _ a _ hs h)) ?_
  rintro e a' w' ⟨rfl, σ', hs', hd', hk'⟩
  exact ⟨σ', hs', by rw [hd', hd]; exact hk'⟩

/-- D's operations come behind number i; so do all that may leave S. -/
structure Beh (ops : List Oper) (ex : Nat → Bool) (i : Nat) (D : List Nat) (listed : Array Bool) : Prop where
  inc : ∀ j oj, ops[j]? = some oj → ex j = true → j ∈ D
  cls : ∀ j oj, ops[j]? = some oj → j ∈ D → ∃ e ∈ oj.after, Region.binds .any e = true ∧ (e.on = i ∨ e.on ∈ D)
  non : ∀ j, j ∈ D → listed.getD j true = false
theorem wx_first {ops : List Oper} {i : Nat} {oi : Oper} {v : Value} {DL : List Nat} (hi : ops[i]? = some oi) (hsel : Region.noSelect ops.toArray = true) : ∀ (f : Nat) (listed : Array Bool) (σ : Env) (w : World),
    Beh ops ex i DL listed →
    (∀ j oj, ops.toArray[j]? = some oj → j ≠ i → listed.getD j true = false → (∀ e ∈ oj.after, Region.binds .any e = true → e.on ≠ i) → oi.apart ops.toArray oj = true) →
    i ∈ Region.ready .any ops.toArray listed → Yd P ops S oi v σ → S w →
    wx P ops ex S K f (listed.setIfInBounds i true) (put σ oi.dst v) w → wx P ops ex S K (f + 1) listed σ w
  | 0, listed, σ, w, _, _, hr, hy, hS, H => by
    refine ⟨fun h => (by rw [h] at hr; cases hr), fun j hj o ho => ?_⟩
    by_cases hji : j = i
    · subst hji; rw [hi] at ho; cases ho; exact hy.step hS ⟨fun _ => hS, H⟩
    · have := ready_mono hj hji
      rw [H.1] at this; cases this
  | f + 1, listed, σ, w, hB, hfree, hr, hy, hS, H => by
    refine ⟨fun h => (by rw [h] at hr; cases hr), fun j hj oj hoj => ?_⟩
    by_cases hji : j = i
    · subst hji; rw [hi] at hoj; cases hoj; exact hy.step hS ⟨fun _ => hS, H⟩
    · have hoj' : ops.toArray[j]? = some oj := by simpa using hoj
      have h1 := H.2 j (ready_mono hj hji) oj hoj
      obtain ⟨hjun, oj', hoj2, hall⟩ := mem_ready.1 hj
      rw [hoj'] at hoj2; cases hoj2
      have lst : ∀ k, listed.getD k true = false → ∀ e ∈ oj.after, Region.binds .any e = true → e.on ≠ k := fun k h0 e he hb heq => by
        have h1 := hall e he hb
        rw [heq] at h1
        rcases Nat.lt_or_ge k listed.size with h' | h'
        · simp [h'] at h0 h1; rw [h0] at h1; cases h1
        · simp [Array.getElem?_eq_none h'] at h1
      have hnot : ∀ e ∈ oj.after, Region.binds .any e = true → e.on ≠ i := lst i (mem_ready.1 hr).1
      have hjD : ¬ j ∈ DL := fun hm => by
        obtain ⟨e, he, hb, h⟩ := hB.cls j oj hoj hm
        rcases h with h | h
        · exact hnot e he hb h
        · exact lst e.on (hB.non _ h) e he hb rfl
      have hex : ex j = false := by
        cases hx : ex j with
        | false => rfl
        | true => exact absurd (hB.inc j oj hoj hx) hjD
      have h2 := step1_swap (hfree j oj hoj' hji hjun hnot) (fun cs b => Region.noSelect_spec hsel i oi cs b (by simpa using hi)) (fun cs b => Region.noSelect_spec hsel j oj cs b hoj') hy h1
      have hfree' : ∀ k ok, ops.toArray[k]? = some ok → k ≠ i → (listed.setIfInBounds j true).getD k true = false →
          (∀ e ∈ ok.after, Region.binds .any e = true → e.on ≠ i) → oi.apart ops.toArray ok = true := fun k ok hk hki hun hno => by
        refine hfree k ok hk hki ?_ hno
        by_cases hjk : j = k
        · subst hjk; exact hjun
        · rw [getD_set_ne true hjk] at hun; exact hun
      have hB' : Beh ops ex i DL (listed.setIfInBounds j true) := ⟨hB.inc, hB.cls, fun k hk => by rw [getD_set_ne true (show j ≠ k from fun e => hjD (by rw [e]; exact hk))]; exact hB.non k hk⟩
      refine step1_mono (fun σ' w' h3 => ⟨h3.2.1, wx_first hi hsel f (listed.setIfInBounds j true) σ' w' hB' hfree' (ready_mono hr (Ne.symm hji)) h3.1 (h3.2.1 hex) ?_⟩) h2
      rw [Array.setIfInBounds_comm _ _ hji]
      exact h3.2.2
def behB (ops : List Oper) (ex : Nat → Bool) (i : Nat) (D : List Nat) (listed : Array Bool) : Bool :=
  ((List.range ops.length).all fun j => (!ex j || D.contains j) && (!D.contains j || match ops[j]? with | some o => o.after.any (fun e => Region.binds .any e && (e.on == i || D.contains e.on)) | none => true)) && D.all fun j => listed.getD j true == false
theorem Beh.of {ops : List Oper} {i : Nat} {D : List Nat} {listed : Array Bool} (h : behB ops ex i D listed = true) : Beh ops ex i D listed := by
  unfold behB at h
  rw [Bool.and_eq_true, List.all_eq_true, List.all_eq_true] at h
  have key : ∀ j oj, ops[j]? = some oj → ((!ex j || D.contains j) && (!D.contains j || oj.after.any (fun e => Region.binds .any e && (e.on == i || D.contains e.on)))) = true := fun j oj hj => by
    have := h.1 j (List.mem_range.2 (List.getElem?_eq_some_iff.1 hj).1)
    rw [hj] at this; exact this
  refine ⟨fun j oj hj hx => ?_, fun j oj hj hm => ?_, fun j hj => by simpa using h.2 j hj⟩
  · have := key j oj hj
    rw [hx] at this; simp at this; exact this.1
  · have := key j oj hj
    have hc : D.contains j = true := by simpa using hm
    rw [hc] at this
    simp only [Bool.and_eq_true, Bool.not_true, Bool.false_or] at this
    obtain ⟨k, hk, h2⟩ := Array.any_eq_true.1 this.2
    rw [Bool.and_eq_true, Bool.or_eq_true] at h2
    exact ⟨_, Array.getElem_mem hk, h2.1, h2.2.imp (fun h => by simpa using h) (fun h => by simpa using h)⟩
/-- Take number i first. 'side' is for the kernel to reckon. -/
theorem wx_take {ops : List Oper} {f : Nat} {listed : Array Bool} (i : Nat) (DL : List Nat) (oi : Oper) (v : Value) (hi : ops[i]? = some oi)
    (side : (Region.noSelect ops.toArray && Region.free .any ops.toArray listed i && (Region.ready .any ops.toArray listed).contains i && behB ops ex i DL listed) = true)
    (hS : S w) (hy : Yd P ops S oi v σ) (h : wx P ops ex S K f (listed.setIfInBounds i true) (put σ oi.dst v) w) : wx P ops ex S K (f + 1) listed σ w := by
  simp only [Bool.and_eq_true] at side
  exact wx_first hi side.1.1.1 f listed σ w (Beh.of side.2) (Region.free_spec (by simpa using hi) side.1.1.2) (by simpa using side.1.2) hy hS h
/-- Number i is the only one that may come up. -/
theorem wx_only {ops : List Oper} {f : Nat} {listed : Array Bool} (i : Nat) (oi : Oper) (hi : ops[i]? = some oi) (side : (Region.ready .any ops.toArray listed == [i]) = true)
    (h : step1 P ops oi σ w (fun σ' w' => (ex i = false → S w') ∧ wx P ops ex S K f (listed.setIfInBounds i true) σ' w')) : wx P ops ex S K (f + 1) listed σ w := by
  have e : Region.ready .any ops.toArray listed = [i] := by simpa using side
  refine ⟨fun h0 => (by rw [e] at h0; cases h0), fun j hj o ho => ?_⟩
  rw [e] at hj
  obtain rfl : j = i := by simpa using hj
  rw [hi] at ho; cases ho
  exact h
theorem wx_done {ops : List Oper} {listed : Array Bool} (side : (Region.ready .any ops.toArray listed == []) = true) (h : K σ w) : ∀ f, wx P ops ex S K f listed σ w
  | 0 => ⟨by simpa using side, h⟩
  | _ + 1 => ⟨fun _ => h, by rw [show Region.ready .any ops.toArray listed = [] by simpa using side]; simp⟩

theorem W_drawX (ex : Nat → Bool) {id : Nat} {l : List Oper} (hm : P.follows .mixedOrders = true)
    (h : ∀ w1, Ext Non w w1 → wx P l ex (fun A => Ext Non w1 A) (fun σ' w' => Q .normal σ' D w') l.length (Array.replicate l.length false) σ w1) : W ro P n (.region id l.toArray true) Q σ D w :=
  W_drawX0 _ hm (h _ (Ext.refl _ _).drew)
end Go.Proofs.YthcclgoidchkdaaDoorC
