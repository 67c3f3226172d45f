/- A region that draws its order and writes at its end: some operations may leave the class of worlds; the rules of CoreC, but for these; each rule holds of whatever program. -/
import Derived.Test.YthcclgoidchkdaaGreatDoorBunZ2
import Derived.Lib.Builder
import Derived.Lib.AppendIntMem
import Derived.Lib.ConvBytes
import Derived.Lib.AtoiErrMem
import Derived.Laws.AppendOwn
import Derived.Laws.BytesArg
import Derived.WideLaws
import Derived.Laws.Build
import Derived.Maps.RangeRun
import Derived.MapKept
import Derived.Shelf.Strconv.Itoa3
import Derived.Lib.LaidTab
set_option linter.unusedVariables false
set_option linter.unusedSimpArgs false
namespace Go.Proofs.YthcclgoidchkdaaGreatDoorC
open Go.RowKit
variable {ro : Option Nat} {P : Program} {n : Nat} {Q : Post} {σ : Env} {D : List Deferred} {w : World} {S : World → Prop} {K : Ops} {ex : Nat → Bool}
/-- Whatever order is picked from here on; S holds behind each operation. -/
def wx (P : Program) (ops : List Oper) (ex : Nat → Bool) (S : World → Prop) (K : Ops) : Nat → Array Bool → Env → World → Prop
  | 0, listed, σ, w => Region.ready .any ops.toArray listed = [] ∧ K σ w
  | f + 1, listed, σ, w => (Region.ready .any ops.toArray listed = [] → K σ w) ∧
    ∀ i ∈ Region.ready .any ops.toArray listed, ∀ o, ops[i]? = some o → step1 P ops o σ w (fun σ' w' => (ex i = false → S w') ∧ wx P ops ex S K f (listed.setIfInBounds i true) σ' w')
theorem wx_sound {ops : List Oper} (hops : okOps n ops = true) (hnd : noDefer ops = true) : ∀ (f : Nat) (listed : Array Bool) (σ : Env) (a : Act) (w : World), Sim n a σ → wx P ops ex S K f listed σ w →
    wpAnyIn (fz ro) 0 P .any ops.toArray (fun e a' w' => e = .normal ∧ ∃ σ', Sim n a' σ' ∧ a'.defers = a.defers ∧ K σ' w') f listed a w
  | 0, listed, σ, a, w, hs, h => ⟨h.1, rfl, σ, hs, rfl, h.2⟩
  | f + 1, listed, σ, a, w, hs, h => by
    refine ⟨fun h0 => ⟨rfl, σ, hs, rfl, h.1 h0⟩, fun i hi => ?_⟩
    unfold wpOpIn
    cases ho : ops.toArray[i]? with
    | none => obtain ⟨_, o, ho', _⟩ := mem_ready.1 hi; rw [ho] at ho'; cases ho'
    | some o =>
      have ho' : ops[i]? = some o := by simpa using ho
      have hmem := List.mem_of_getElem? ho'
      have hdst : ∀ d, o.dst = some d → d < n := fun d e => by
        have := List.all_eq_true.1 hops o hmem; rw [e] at this; simpa using this
      have hd : ∀ v, (a.put o.dst v).defers = a.defers := fun v => by cases o.dst <;> rfl
      have h1 := h.2 i hi o ho'
      simp only
      rw [wanted_sim hs hops]
      unfold step1 at h1
      by_cases hw : wantedBy ops σ o = true
      · rw [if_pos hw] at h1 ⊢
        refine op1_sound hs hdst (List.all_eq_true.1 hnd o hmem) (fun a' σ' w' hs' hd' hk => ?_) h1
        have := wx_sound hops hnd f _ σ' a' w' hs' hk.2
        rw [hd'] at this; exact this
      · rw [if_neg hw] at h1 ⊢
        refine ⟨fun f _ => fz_fn ro f, ?_⟩
        have := wx_sound hops hnd f _ _ _ w (hs.put o.dst undef hdst) h1.2
        rw [hd] at this; exact this
theorem W_drawX0 {id : Nat} {l : List Oper} (S : World → Prop) (hm : P.follows .mixedOrders = true)
    (h : wx P l ex S (fun σ' w' => Q .normal σ' D w') l.length (Array.replicate l.length false) σ { w with drawn := w.drawn + 1 }) : W ro P n (.region id l.toArray true) Q σ D w := by
  intro hk a hs hd
  simp only [okc, Bool.and_eq_true] at hk
  refine wpIn_mono (wpIn_region_any hm (by simpa using wx_sound (ro := ro) hk.1 hk.2 _ _ _ a _ hs h)) ?_
  rintro e a' w' ⟨rfl, σ', hs', hd', hk'⟩
  exact ⟨σ', hs', by rw [hd', hd]; exact hk'⟩

/-- D's operations come behind number i; so do all that may leave S. -/
structure Beh (ops : List Oper) (ex : Nat → Bool) (i : Nat) (D : List Nat) (listed : Array Bool) : Prop where
  inc : ∀ j oj, ops[j]? = some oj → ex j = true → j ∈ D
  cls : ∀ j oj, ops[j]? = some oj → j ∈ D → ∃ e ∈ oj.after, Region.binds .any e = true ∧ (e.on = i ∨ e.on ∈ D)
  non : ∀ j, j ∈ D → listed.getD j true = false
theorem wx_first {ops : List Oper} {i : Nat} {oi : Oper} {v : Value} {DL : List Nat} (hi : ops[i]? = some oi) (hsel : Region.noSelect ops.toArray = true) : ∀ (f : Nat) (listed : Array Bool) (σ : Env) (w : World),
    Beh ops ex i DL listed →
    (∀ j oj, ops.toArray[j]? = some oj → j ≠ i → listed.getD j true = false → (∀ e ∈ oj.after, Region.binds .any e = true → e.on ≠ i) → oi.apart ops.toArray oj = true) →
    i ∈ Region.ready .any ops.toArray listed → Yd P ops S oi v σ → S w →
    wx P ops ex S K f (listed.setIfInBounds i true) (put σ oi.dst v) w → wx P ops ex S K (f + 1) listed σ w
  | 0, listed, σ, w, _, _, hr, hy, hS, H => by
    refine ⟨fun h => (by rw [h] at hr; cases hr), fun j hj o ho => ?_⟩
    by_cases hji : j = i
    · subst hji; rw [hi] at ho; cases ho; exact hy.step hS ⟨fun _ => hS, H⟩
    · have := ready_mono hj hji
      rw [H.1] at this; cases this
  | f + 1, listed, σ, w, hB, hfree, hr, hy, hS, H => by
    refine ⟨fun h => (by rw [h] at hr; cases hr), fun j hj oj hoj => ?_⟩
    by_cases hji : j = i
    · subst hji; rw [hi] at hoj; cases hoj; exact hy.step hS ⟨fun _ => hS, H⟩
    · have hoj' : ops.toArray[j]? = some oj := by simpa using hoj
      have h1 := H.2 j (ready_mono hj hji) oj hoj
      obtain ⟨hjun, oj', hoj2, hall⟩ := mem_ready.1 hj
      rw [hoj'] at hoj2; cases hoj2
      have lst : ∀ k, listed.getD k true = false → ∀ e ∈ oj.after, Region.binds .any e = true → e.on ≠ k := fun k h0 e he hb heq => by
        have h1 := hall e he hb
        rw [heq] at h1
        rcases Nat.lt_or_ge k listed.size with h' | h'
        · simp [h'] at h0 h1; rw [h0] at h1; cases h1
        · simp [Array.getElem?_eq_none h'] at h1
      have hnot : ∀ e ∈ oj.after, Region.binds .any e = true → e.on ≠ i := lst i (mem_ready.1 hr).1
      have hjD : ¬ j ∈ DL := fun hm => by
        obtain ⟨e, he, hb, h⟩ := hB.cls j oj hoj hm
        rcases h with h | h
        · exact hnot e he hb h
        · exact lst e.on (hB.non _ h) e he hb rfl
      have hex : ex j = false := by
        cases hx : ex j with
        | false => rfl
        | true => exact absurd (hB.inc j oj hoj hx) hjD
      have h2 := step1_swap (hfree j oj hoj' hji hjun hnot) (fun cs b => Region.noSelect_spec hsel i oi cs b (by simpa using hi)) (fun cs b => Region.noSelect_spec hsel j oj cs b hoj') hy h1
      have hfree' : ∀ k ok, ops.toArray[k]? = some ok → k ≠ i → (listed.setIfInBounds j true).getD k true = false →
          (∀ e ∈ ok.after, Region.binds .any e = true → e.on ≠ i) → oi.apart ops.toArray ok = true := fun k ok hk hki hun hno => by
        refine hfree k ok hk hki ?_ hno
        by_cases hjk : j = k
        · subst hjk; exact hjun
        · rw [getD_set_ne true hjk] at hun; exact hun
      have hB' : Beh ops ex i DL (listed.setIfInBounds j true) := ⟨hB.inc, hB.cls, fun k hk => by rw [getD_set_ne true (show j ≠ k from fun e => hjD (by rw [e]; exact hk))]; exact hB.non k hk⟩
      refine step1_mono (fun σ' w' h3 => ⟨h3.2.1, wx_first hi hsel f (listed.setIfInBounds j true) σ' w' hB' hfree' (ready_mono hr (Ne.symm hji)) h3.1 (h3.2.1 hex) ?_⟩) h2
      rw [Array.setIfInBounds_comm _ _ hji]
      exact h3.2.2
def behB (ops : List Oper) (ex : Nat → Bool) (i : Nat) (D : List Nat) (listed : Array Bool) : Bool :=
  ((List.range ops.length).all fun j => (!ex j || D.contains j) && (!D.contains j || match ops[j]? with | some o => o.after.any (fun e => Region.binds .any e && (e.on == i || D.contains e.on)) | none => true)) && D.all fun j => listed.getD j true == false
theorem Beh.of {ops : List Oper} {i : Nat} {D : List Nat} {listed : Array Bool} (h : behB ops ex i D listed = true) : Beh ops ex i D listed := by
  unfold behB at h
  rw [Bool.and_eq_true, List.all_eq_true, List.all_eq_true] at h
  have key : ∀ j oj, ops[j]? = some oj → ((!ex j || D.contains j) && (!D.contains j || oj.after.any (fun e => Region.binds .any e && (e.on == i || D.contains e.on)))) = true := fun j oj hj => by
    have := h.1 j (List.mem_range.2 (List.getElem?_eq_some_iff.1 hj).1)
    rw [hj] at this; exact this
  refine ⟨fun j oj hj hx => ?_, fun j oj hj hm => ?_, fun j hj => by simpa using h.2 j hj⟩
  · have := key j oj hj
    rw [hx] at this; simp at this; exact this.1
  · have := key j oj hj
    have hc : D.contains j = true := by simpa using hm
    rw [hc] at this
    simp only [Bool.and_eq_true, Bool.not_true, Bool.false_or] at this
    obtain ⟨k, hk, h2⟩ := Array.any_eq_true.1 this.2
    rw [Bool.and_eq_true, Bool.or_eq_true] at h2
    exact ⟨_, Array.getElem_mem hk, h2.1, h2.2.imp (fun h => by simpa using h) (fun h => by simpa using h)⟩
/-- Take number i first. 'side' is for the kernel to reckon. -/
theorem wx_take {ops : List Oper} {f : Nat} {listed : Array Bool} (i : Nat) (DL : List Nat) (oi : Oper) (v : Value) (hi : ops[i]? = some oi)
    (side : (Region.noSelect ops.toArray && Region.free .any ops.toArray listed i && (Region.ready .any ops.toArray listed).contains i && behB ops ex i DL listed) = true)
    (hS : S w) (hy : Yd P ops S oi v σ) (h : wx P ops ex S K f (listed.setIfInBounds i true) (put σ oi.dst v) w) : wx P ops ex S K (f + 1) listed σ w := by
  simp only [Bool.and_eq_true] at side
  exact wx_first hi side.1.1.1 f listed σ w (Beh.of side.2) (Region.free_spec (by simpa using hi) side.1.1.2) (by simpa using side.1.2) hy hS h
/-- Take number i first: one that reads nothing of the world, and may come behind those that leave the class. -/
theorem wx_firstP {ops : List Oper} {i : Nat} {oi : Oper} {v : Value} (hi : ops[i]? = some oi) (hsel : Region.noSelect ops.toArray = true) (hxi : ex i = true) : ∀ (f : Nat) (listed : Array Bool) (σ : Env) (w : World),
    (∀ j oj, ops.toArray[j]? = some oj → j ≠ i → listed.getD j true = false → (∀ e ∈ oj.after, Region.binds .any e = true → e.on ≠ i) → oi.apart ops.toArray oj = true) →
    i ∈ Region.ready .any ops.toArray listed → Yd P ops (fun _ => True) oi v σ →
    wx P ops ex S K f (listed.setIfInBounds i true) (put σ oi.dst v) w → wx P ops ex S K (f + 1) listed σ w
  | 0, listed, σ, w, _, hr, hy, H => by
    refine ⟨fun h => (by rw [h] at hr; cases hr), fun j hj o ho => ?_⟩
    by_cases hji : j = i
    · subst hji; rw [hi] at ho; cases ho; exact hy.step trivial ⟨fun h => (by rw [hxi] at h; cases h), H⟩
    · have := ready_mono hj hji
      rw [H.1] at this; cases this
  | f + 1, listed, σ, w, hfree, hr, hy, H => by
    refine ⟨fun h => (by rw [h] at hr; cases hr), fun j hj oj hoj => ?_⟩
    by_cases hji : j = i
    · subst hji; rw [hi] at hoj; cases hoj; exact hy.step trivial ⟨fun h => (by rw [hxi] at h; cases h), H⟩
    · have hoj' : ops.toArray[j]? = some oj := by simpa using hoj
      have h1 := H.2 j (ready_mono hj hji) oj hoj
      obtain ⟨hjun, oj', hoj2, hall⟩ := mem_ready.1 hj
      rw [hoj'] at hoj2; cases hoj2
      have lst : ∀ k, listed.getD k true = false → ∀ e ∈ oj.after, Region.binds .any e = true → e.on ≠ k := fun k h0 e he hb heq => by
        have h1 := hall e he hb
        rw [heq] at h1
        rcases Nat.lt_or_ge k listed.size with h' | h'
        · simp [h'] at h0 h1; rw [h0] at h1; cases h1
        · simp [Array.getElem?_eq_none h'] at h1
      have hnot : ∀ e ∈ oj.after, Region.binds .any e = true → e.on ≠ i := lst i (mem_ready.1 hr).1
      have h2 := step1_swap (hfree j oj hoj' hji hjun hnot) (fun cs b => Region.noSelect_spec hsel i oi cs b (by simpa using hi)) (fun cs b => Region.noSelect_spec hsel j oj cs b hoj') hy h1
      have hfree' : ∀ k ok, ops.toArray[k]? = some ok → k ≠ i → (listed.setIfInBounds j true).getD k true = false →
          (∀ e ∈ ok.after, Region.binds .any e = true → e.on ≠ i) → oi.apart ops.toArray ok = true := fun k ok hk hki hun hno => by
        refine hfree k ok hk hki ?_ hno
        by_cases hjk : j = k
        · subst hjk; exact hjun
        · rw [getD_set_ne true hjk] at hun; exact hun
      refine step1_mono (fun σ' w' h3 => ⟨h3.2.1, wx_firstP hi hsel hxi f (listed.setIfInBounds j true) σ' w' hfree' (ready_mono hr (Ne.symm hji)) h3.1 ?_⟩) h2
      rw [Array.setIfInBounds_comm _ _ hji]
      exact h3.2.2
theorem wx_takeP {ops : List Oper} {f : Nat} {listed : Array Bool} (i : Nat) (oi : Oper) (v : Value) (hi : ops[i]? = some oi) (hxi : ex i = true)
    (side : (Region.noSelect ops.toArray && Region.free .any ops.toArray listed i && (Region.ready .any ops.toArray listed).contains i) = true)
    (hy : Yd P ops (fun _ => True) oi v σ) (h : wx P ops ex S K f (listed.setIfInBounds i true) (put σ oi.dst v) w) : wx P ops ex S K (f + 1) listed σ w := by
  simp only [Bool.and_eq_true] at side
  exact wx_firstP hi side.1.1 hxi f listed σ w (Region.free_spec (by simpa using hi) side.1.2) (by simpa using side.2) hy h
/-- Number i is the only one that may come up. -/
theorem wx_only {ops : List Oper} {f : Nat} {listed : Array Bool} (i : Nat) (oi : Oper) (hi : ops[i]? = some oi) (side : (Region.ready .any ops.toArray listed == [i]) = true)
    (h : step1 P ops oi σ w (fun σ' w' => (ex i = false → S w') ∧ wx P ops ex S K f (listed.setIfInBounds i true) σ' w')) : wx P ops ex S K (f + 1) listed σ w := by
  have e : Region.ready .any ops.toArray listed = [i] := by simpa using side
  refine ⟨fun h0 => (by rw [e] at h0; cases h0), fun j hj o ho => ?_⟩
  rw [e] at hj
  obtain rfl : j = i := by simpa using hj
  rw [hi] at ho; cases ho
  exact h
theorem wx_done {ops : List Oper} {listed : Array Bool} (side : (Region.ready .any ops.toArray listed == []) = true) (h : K σ w) : ∀ f, wx P ops ex S K f listed σ w
  | 0 => ⟨by simpa using side, h⟩
  | _ + 1 => ⟨fun _ => h, by rw [show Region.ready .any ops.toArray listed = [] by simpa using side]; simp⟩

theorem wx_two {ops : List Oper} {f : Nat} {listed : Array Bool} (i j : Nat) (oi oj : Oper) (hi : ops[i]? = some oi) (hj : ops[j]? = some oj) (side : (Region.ready .any ops.toArray listed == [i, j]) = true)
    (h1 : step1 P ops oi σ w (fun σ' w' => (ex i = false → S w') ∧ wx P ops ex S K f (listed.setIfInBounds i true) σ' w')) (h2 : step1 P ops oj σ w (fun σ' w' => (ex j = false → S w') ∧ wx P ops ex S K f (listed.setIfInBounds j true) σ' w')) : wx P ops ex S K (f + 1) listed σ w := by
  have e : Region.ready .any ops.toArray listed = [i, j] := by simpa using side
  refine ⟨fun h0 => (by rw [e] at h0; cases h0), fun k hk o ho => ?_⟩
  rw [e] at hk
  have hk2 : k = i ∨ k = j := by simpa using hk
  rcases hk2 with rfl | rfl
  · rw [hi] at ho; cases ho; exact h1
  · rw [hj] at ho; cases ho; exact h2
theorem W_drawX (ex : Nat → Bool) {id : Nat} {l : List Oper} (hm : P.follows .mixedOrders = true)
    (h : ∀ w1, Ext Non w w1 → wx P l ex (fun A => Ext Non w1 A) (fun σ' w' => Q .normal σ' D w') l.length (Array.replicate l.length false) σ w1) : W ro P n (.region id l.toArray true) Q σ D w :=
  W_drawX0 _ hm (h _ (Ext.refl _ _).drew)
end Go.Proofs.YthcclgoidchkdaaGreatDoorC

/- Rising lists: where a key stands, what a key's coming and going makes of them; no program in sight. -/
set_option linter.unusedVariables false
set_option linter.unusedSimpArgs false
namespace Go.Proofs.YthcclgoidchkdaaGreatDoorC
open Go.RowKit
structure Lo {κ : Type} (lt : κ → κ → Bool) : Prop where
  irr : ∀ a, lt a a = false
  tr : ∀ a b c, lt a b = true → lt b c = true → lt a c = true
  tri : ∀ a b, lt a b = false → lt b a = false → a = b
section
variable {κ : Type} {lt : κ → κ → Bool}
end
theorem Rn.cast {P : Program} {σ : Env} {w : World} {o : Oper} {v v' : Value} (h : Rn P σ w o v) (e : v = v') : Rn P σ w o v' := e ▸ h
/-- A map reads as keys and values. -/
structure MapR {κ : Type} (M : Nat → Prop) (w : World) (ek : κ → List Value) (k : Nat) (v1 v2 : Value) (ks : List κ) (vs : List (List Value)) : Prop where
  keys : Sl M w v1 1 (ks.map ek)
  vals : Sl M w v2 k vs
  len : vs.length = ks.length
theorem MapR.ext {κ : Type} {M M' : Nat → Prop} {w w' : World} {ek : κ → List Value} {k : Nat} {v1 v2 : Value} {ks : List κ} {vs : List (List Value)} (h : MapR M w ek k v1 v2 ks vs) (hE : Ext M' w w') (hm : ∀ i, M' i → M i) : MapR M w' ek k v1 v2 ks vs :=
  ⟨h.keys.ext hE hm, h.vals.ext hE hm, h.len⟩
theorem MapR.sub {κ : Type} {M M' : Nat → Prop} {w : World} {ek : κ → List Value} {k : Nat} {v1 v2 : Value} {ks : List κ} {vs : List (List Value)} (h : MapR M w ek k v1 v2 ks vs) (hm : ∀ i, M' i → i < w.heap.size → M i) : MapR M' w ek k v1 v2 ks vs :=
  ⟨h.keys.sub hm, h.vals.sub hm, h.len⟩
end Go.Proofs.YthcclgoidchkdaaGreatDoorC

/- More single operations in the calculus: equality of truth values, the greater of two; each rule holds of whatever program. -/
set_option linter.unusedVariables false
set_option linter.unusedSimpArgs false
namespace Go.Proofs.YthcclgoidchkdaaGreatDoorC
open Go.RowKit
variable {P : Program} {σ : Env} {w : World} {dst : Option Nat} {ty : TypeId} {pos : String} {af : Array Edge} {g : Option (Nat × Bool)}
theorem rn_beql {t u : TypeId} (hu : P.underlying t = some .bool) {x y : Operand} {a b : Bool} (hx : ev σ x = .bool a) (hy : ev σ y = .bool b) : Rn P σ w ⟨dst, .binOp .eql t x y u, ty, pos, af, g⟩ (.bool (decide (a = b))) := by
  show (execOp (ev σ) _).run P w = _
  have h1 : (Op.equal t (.bool a) (.bool b)).run P w = .ok (decide (a = b)) w := eqs_bool hu 10000 w (by decide)
  have h2 : (binOp .eql t (.bool a) (.bool b)).run P w = .ok (.bool (decide (a = b))) w := by
    show (do pure (Value.bool (← Op.equal t (.bool a) (.bool b)))).run P w = _
    rw [Sem.run_bind, h1]; rfl
  have h3 : (eqGuard .eql t x y (.bool a) (.bool b)).run P w = .ok () w := rfl
  simp only [execOp, hx, hy]
  rw [Sem.run_bind, Sem.run_bind, h3, Result.andThen_ok, h2]
  rfl
end Go.Proofs.YthcclgoidchkdaaGreatDoorC

/- Helps for walks: cuts behind a region, three that are ready at once, bound methods, bits; each rule holds of whatever program. -/
set_option linter.unusedVariables false
set_option linter.unusedSimpArgs false
namespace Go.Proofs.YthcclgoidchkdaaGreatDoorC
open Go.RowKit
variable {ro : Option Nat} {P : Program} {n : Nat} {Q : Post} {σ : Env} {D : List Deferred} {w : World} {dst : Option Nat} {ty : TypeId} {pos : String} {af : Array Edge} {g : Option (Nat × Bool)}
variable {ops rest : List Oper} {K : Ops} {S : World → Prop} {ex : Nat → Bool}

/-- What follows is walked once, whatever way led there. -/
theorem W_cut {T : Type} {x y : Code} (ls : List Nat) (f : T → List Value) (I : T → World → Prop) (h1 : W ro P n x (Then (fun σ' D' w' => D' = D ∧ ∃ s, Holds ls (f s) σ' ∧ I s w') Q) σ D w)
    (h2 : ∀ τ s A, I s A → W ro P n y Q (updN τ ls (f s)) D A) : W ro P n (.seq x y) Q σ D w := by
  refine W_seq (h1.mono fun e σ' D' A h => ?_)
  cases e with
  | normal =>
    obtain ⟨rfl, s, h3, h4⟩ := h
    have := h2 σ' s A h4
    rw [updN_self ls (f s) σ' h3] at this
    exact this
  | _ => exact h
/-- A call of a function value, bound or not. -/
theorem wl_callF {f : FuncId} {x : Operand} {fi cap : Array Value} {ags : List Operand} {ts : Array TypeId} {args : List Value} {R : Value → World → Prop} {M : Nat → Prop} (hx : ev σ x = .func (.func f) fi cap) (hf : entersB P f = true) (ha : ags.map (ev σ) = args)
    (h : FnM P M f (fi ++ args.toArray ++ cap) w R) (k : ∀ v w', Ext M w w' → R v w' → wl P ops rest K (put σ dst v) w') : wl P ops (⟨dst, .call ⟨.value x, ags.toArray, ts⟩, ty, pos, af, none⟩ :: rest) K σ w := by
  show step1 P ops _ σ w _
  rw [step1_none]; unfold op1
  have e : (execOp (ev σ) ⟨dst, .call ⟨.value x, ags.toArray, ts⟩, ty, pos, af, none⟩).run P w = .ok (.enter f (fi ++ args.toArray ++ cap)) w := by
    simp [execOp, resolve, hx, ha, Deferred.ofValue, invoke, run_enters hf]
  rw [e]
  exact Calls.mono h fun e w' hx => by obtain ⟨v, h1, h2, h3⟩ := hx; exact ⟨v, h1, k v w' h2 h3⟩
section
variable {x y : Operand} {t u : TypeId} {a b : Int}
end
theorem FnM.mono {M : Nat → Prop} {f : FuncId} {args : Array Value} {R R' : Value → World → Prop} (h : FnM P M f args w R) (hr : ∀ v w', Ext M w w' → R v w' → R' v w') : FnM P M f args w R' :=
  Calls.mono h fun e w' hx => by obtain ⟨v, h1, h2, h3⟩ := hx; exact ⟨v, h1, h2, hr _ _ h2 h3⟩
theorem FnM.sub {M M' : Nat → Prop} {f : FuncId} {args : Array Value} {R : Value → World → Prop} (h : FnM P M f args w R) (hm : ∀ i, M i → M' i) : FnM P M' f args w R :=
  Calls.mono h fun e w' hx => by obtain ⟨v, h1, h2, h3⟩ := hx; exact ⟨v, h1, h2.mono hm, h3⟩
/-- One's own blocks, written. -/
theorem Ext.own2 {F F' : Nat → Prop} {A B : World} (h : Ext F w A) (k : Ext F' A B) (hF : ∀ i, F' i → Mine F w i) : Ext F w B :=
  ⟨k.os.trans h.os, k.tape.trans h.tape, k.output.trans h.output, Nat.le_trans h.size k.size, fun i hi hn => (k.block i (Nat.lt_of_lt_of_le hi h.size) fun h' => by rcases hF i h' with q | q; exact hn q; omega).trans (h.block i hi hn)⟩
end Go.Proofs.YthcclgoidchkdaaGreatDoorC

/- Typed boxes, rows of bytes of a call's own with their type, texts as bytes and back, bits of bytes; each rule holds of whatever program. -/
set_option linter.unusedVariables false
set_option linter.unusedSimpArgs false
namespace Go.Proofs.YthcclgoidchkdaaGreatDoorC
open Go.RowKit
variable {ro : Option Nat} {P : Program} {n : Nat} {Q : Post} {σ : Env} {D : List Deferred} {w : World} {dst : Option Nat} {ty : TypeId} {pos : String} {af : Array Edge} {g : Option (Nat × Bool)}
variable {ops rest : List Oper} {K : Ops} {S : World → Prop} {ex : Nat → Bool}
/-- A box whose type is known. -/
def IsBoxT (w : World) (b : Nat) (T : TypeId) (cs : List Value) : Prop := w.heap[b]? = some (.cells cs.toArray T (0, 0))
theorem IsBoxT.box {b : Nat} {T : TypeId} {cs : List Value} (h : IsBoxT w b T cs) : IsBox w b cs := ⟨T, h⟩
theorem IsBoxT.ext {M : Nat → Prop} {w' : World} {b : Nat} {T : TypeId} {cs : List Value} (h : IsBoxT w b T cs) (hE : Ext M w w') (hm : ¬ M b) : IsBoxT w' b T cs := hE.obj h hm
theorem wl_allocT {e : TypeId} {z : List Value} {d : Nat} (hz : zeroT P e z)
    (k : ∀ b w', w.heap.size ≤ b → Ext Non w w' → IsBoxT w' b e z → wl P ops rest K (upd σ d (.pointer (some ⟨b, 0, none⟩))) w') : wl P ops (⟨some d, .alloc e, ty, pos, af, none⟩ :: rest) K σ w := by
  obtain ⟨v, h1, h2⟩ := run_zero hz
  refine wl_new (w' := w.alloc (.cells v.cells e)) (v := .pointer (some ⟨w.heap.size, 0, none⟩)) ?_ (k _ _ (Nat.le_refl _) (Ext.alloc _ _) (by subst h2; have := World.alloc_heap_new w (.cells v.cells e); simpa [IsBoxT] using this))
  show (execOp (ev σ) _).run P w = _
  simp [execOp, Instr.alloc, h1, newVar, newRow]
theorem wl_store1T {t : TypeId} {x y : Operand} {b i : Nat} {T : TypeId} {cs : List Value} {v : Value} (hT : plainT P t) (hx : ev σ x = .pointer (some ⟨b, i, none⟩)) (hy : ev σ y = v) (hv : v.cells = #[v]) (h1 : v.oneCell' = true) (hb : IsBoxT w b T cs) (hl : i < cs.length)
    (k : ∀ w', Ext (fun j => j = b) w w' → IsBoxT w' b T (cs.set i v) → w'.heap.size = w.heap.size → wl P ops rest K σ w') : wl P ops (⟨none, .store t x y, ty, pos, af, none⟩ :: rest) K σ w := by
  obtain ⟨w', h2, h3, h4, h5⟩ := run_storeBox (P := P) b T [v] i 0 cs w hb (by simpa using h1) (by simp; omega)
  have e : patch cs i [v] = cs.set i v := by
    simp only [patch, List.length_cons, List.length_nil]
    rw [List.set_eq_take_append_cons_drop, if_pos hl]; simp
  refine wl_do ?_ (k w' h3 (by simpa [e, IsBoxT] using h4) h5)
  show (execOp (ev σ) _).run P w = _
  subst hy
  have h6 : (storeCells ⟨b, i, none⟩ [ev σ y]).run P w = .ok () w' := h2
  simp [execOp, hx, Instr.storeAt, Instr.sureAddr, storeVar, run_size (hv ▸ hT.2 : (P.info? t).map (·.size) = some (ev σ y).cells.size), hv, h6]
def eC (c : UInt8) : List Value := [.int .u8 c.toNat]
theorem eC_flat : ∀ l : Str, (l.map eC).flatten = Lib.byteCells l
  | [] => rfl
  | c :: l => by simp only [List.map_cons, List.flatten_cons, eC_flat l]; rfl
theorem eC_at {l : Str} {i : Nat} {c : UInt8} (h : l[i]? = some c) : (l.map eC)[i]? = some (eC c) := by simp [h]
/-- A text's bytes, a slice anew. -/
theorem wl_toBytes {t u e : TypeId} {x : Operand} {d : Nat} {l : Str} (ht : P.underlying t = some .string) (hu : P.underlying u = some (.slice e)) (he : P.underlying e = some (.int .u8)) (hx : ev σ x = Sv l) (hn : l.length ≤ 1000000)
    (k : ∀ w' b c, w.heap.size ≤ b → b < w'.heap.size → Ext Non w w' → Sl (fun i => i ≠ b) w' (.slice (some ⟨b, 0, none⟩) l.length c) 1 (l.map eC) → wl P ops rest K (upd σ d (.slice (some ⟨b, 0, none⟩) l.length c)) w') : wl P ops (⟨some d, .convert t u x, ty, pos, af, none⟩ :: rest) K σ w := by
  have h1 := Lib.run_convert_string_bytes (P := P) w t u e ⟨l.toArray⟩ ht hu he
  have hs : (ByteArray.mk l.toArray).size = l.length := by simp [ByteArray.size]
  rw [hs] at h1
  refine wl_new (w' := Lib.bytesWorld w e ⟨l.toArray⟩) (v := .slice (some ⟨w.heap.size, 0, none⟩) l.length (grownCap w l.length 0 e)) ?_ (k _ _ _ (Nat.le_refl _) (by rw [Lib.bytesWorld_size]; omega) ?_ ⟨⟨some ⟨w.heap.size, 0, none⟩, grownCap w l.length 0 e, by simp, ?_, ?_, .inr ⟨w.heap.size, 0, rfl, ?_, fun h => h rfl, fun j hj => ?_⟩⟩, ?_⟩)
  · show (execOp (ev σ) _).run P w = _
    simp [execOp, hx, h1]
  · exact Ext.of_below (Lib.bytesWorld_below w e _)
  · have := grownCap_ge w l.length 0 e; simpa using this
  · have := grownCap_le_maxLen w l.length 0 e (by simp [maxLen]; omega); simpa [maxLen, big] using this
  · rw [Lib.bytesWorld_size]; omega
  · rw [eC_flat] at hj ⊢
    have hl : j < l.length := by simpa [Lib.byteCells] using hj
    rw [Nat.zero_add, Lib.bytesWorld_cell w e ⟨l.toArray⟩ j (by rw [hs]; exact hl)]
    simp [Lib.byteCells, List.getD, hl]
  · intro r hr; obtain ⟨c, _, rfl⟩ := List.mem_map.1 hr; rfl
theorem rn_remN {k : IntKind} {t u : TypeId} {x y : Operand} {a b : Nat} (hx : ev σ x = .int k (a : Int)) (hy : ev σ y = .int k (b : Int)) (hb : 0 < b) : Rn P σ w ⟨dst, .binOp .rem t x y u, ty, pos, af, g⟩ (.int k ((a % b : Nat) : Int)) := by
  show (execOp (ev σ) _).run P w = _
  have h1 : ¬ ((b : Int) = 0) := by omega
  have h5 : Op.intDiv .rem k (a : Int) (b : Int) = pure (.int k ((a % b : Nat) : Int)) := by unfold Op.intDiv; rw [if_neg h1]; simp only [Int.ofNat_tmod]
  simp [execOp, hx, hy, eqGuard, binOp, h5, Sem.run_bind, Result.andThen, Sem.run]
theorem rn_quoN {k : IntKind} {t u : TypeId} {x y : Operand} {a b : Nat} (hx : ev σ x = .int k (a : Int)) (hy : ev σ y = .int k (b : Int)) (hb : 0 < b) (hw : k.wrap ((a / b : Nat) : Int) = ((a / b : Nat) : Int)) : Rn P σ w ⟨dst, .binOp .quo t x y u, ty, pos, af, g⟩ (.int k ((a / b : Nat) : Int)) := by
  show (execOp (ev σ) _).run P w = _
  have h1 : ¬ ((b : Int) = 0) := by omega
  have h5 : Op.intDiv .quo k (a : Int) (b : Int) = pure (.int k ((a / b : Nat) : Int)) := by unfold Op.intDiv; rw [if_neg h1]; simp only [← Int.ofNat_tdiv, hw]
  simp [execOp, hx, hy, eqGuard, binOp, h5, Sem.run_bind, Result.andThen, Sem.run]
theorem rn_addK {k : IntKind} {t u : TypeId} {x y : Operand} {a b : Int} (hx : ev σ x = .int k a) (hy : ev σ y = .int k b) (h : k.wrap (a + b) = a + b) : Rn P σ w ⟨dst, .binOp .add t x y u, ty, pos, af, g⟩ (.int k (a + b)) := by
  show (execOp (ev σ) _).run P w = _
  simp [execOp, hx, hy, eqGuard, binOp, Op.intArith, Sem.run_bind, Result.andThen, Sem.run, h]
theorem rn_subK {k : IntKind} {t u : TypeId} {x y : Operand} {a b : Int} (hx : ev σ x = .int k a) (hy : ev σ y = .int k b) (h : k.wrap (a - b) = a - b) : Rn P σ w ⟨dst, .binOp .sub t x y u, ty, pos, af, g⟩ (.int k (a - b)) := by
  show (execOp (ev σ) _).run P w = _
  simp [execOp, hx, hy, eqGuard, binOp, Op.intArith, Sem.run_bind, Result.andThen, Sem.run, h]
theorem rn_mulK {k : IntKind} {t u : TypeId} {x y : Operand} {a b : Int} (hx : ev σ x = .int k a) (hy : ev σ y = .int k b) (h : k.wrap (a * b) = a * b) : Rn P σ w ⟨dst, .binOp .mul t x y u, ty, pos, af, g⟩ (.int k (a * b)) := by
  show (execOp (ev σ) _).run P w = _
  simp [execOp, hx, hy, eqGuard, binOp, Op.intArith, Sem.run_bind, Result.andThen, Sem.run, h]
theorem wrapB {a : Int} (h : 0 ≤ a ∧ a ≤ 255) : IntKind.u8.wrap a = a := by
  have hm : a % 256 = a := by omega
  unfold IntKind.wrap; simp [IntKind.bits, IntKind.signed, hm]
theorem rn_shl8 {t u : TypeId} {k : IntKind} {x y : Operand} (hx : ev σ x = .int .u64 1) (hy : ev σ y = .int k 8) : Rn P σ w ⟨dst, .binOp .shl t x y u, ty, pos, af, g⟩ (.int .u64 256) := by
  show (execOp (ev σ) _).run P w = _
  have e : Op.shift .shl .u64 1 k 8 = pure (.int .u64 256) := by unfold Op.shift; rw [if_neg (by omega)]; rfl
  simp [execOp, hx, hy, eqGuard, binOp, e]
def lowN (c : UInt8) : Nat := (c ||| 32).toNat
theorem lowN_lt (c : UInt8) : lowN c < 256 := UInt8.toNat_lt _
theorem lowN_id {c : UInt8} (h : 97 ≤ c.toNat ∧ c.toNat ≤ 122) : lowN c = c.toNat := by
  have : ∀ n : Fin 256, 97 ≤ n.val ∧ n.val ≤ 122 → lowN (UInt8.ofNat n.val) = n.val := by decide +kernel
  have := this ⟨c.toNat, c.toNat_lt⟩ h
  simpa using this
theorem rn_or32 {t u : TypeId} {x y : Operand} {c : UInt8} (hx : ev σ x = .int .u8 c.toNat) (hy : ev σ y = .int .u8 32) : Rn P σ w ⟨dst, .binOp .or t x y u, ty, pos, af, g⟩ (.int .u8 (lowN c : Nat)) := by
  have hd : ∀ n : Fin 256, IntKind.u8.wrap ((BitVec.ofInt 8 ((n.val : Nat) : Int) ||| BitVec.ofInt 8 32).toNat : Int) = ((lowN (UInt8.ofNat n.val) : Nat) : Int) := by decide +kernel
  have e2 : Op.intBits .or .u8 (c.toNat : Int) 32 = pure (.int .u8 ((lowN c : Nat) : Int)) := by
    show (pure (Value.int .u8 (IntKind.u8.wrap ((BitVec.ofInt 8 (c.toNat : Int) ||| BitVec.ofInt 8 32).toNat : Int))) : Sem Value) = _
    have := hd ⟨c.toNat, c.toNat_lt⟩
    simp only [UInt8.ofNat_toNat] at this
    rw [this]
  show (execOp (ev σ) _).run P w = _
  simp only [execOp, hx, hy]
  have e3 : (eqGuard .or t x y (.int .u8 (c.toNat : Int)) (.int .u8 32)) = pure () := rfl
  have e4 : binOp .or t (.int .u8 (c.toNat : Int)) (.int .u8 32) = Op.intBits .or .u8 (c.toNat : Int) 32 := rfl
  rw [e3, e4, e2]; rfl
theorem rn_addN {k : IntKind} {t u : TypeId} {x y : Operand} {a b : Nat} (hx : ev σ x = .int k (a : Int)) (hy : ev σ y = .int k (b : Int)) (h : k.wrap ((a + b : Nat) : Int) = ((a + b : Nat) : Int)) : Rn P σ w ⟨dst, .binOp .add t x y u, ty, pos, af, g⟩ (.int k ((a + b : Nat) : Int)) :=
  rn_addK hx hy (by simpa using h)
theorem rn_mulN {k : IntKind} {t u : TypeId} {x y : Operand} {a b : Nat} (hx : ev σ x = .int k (a : Int)) (hy : ev σ y = .int k (b : Int)) (h : k.wrap ((a * b : Nat) : Int) = ((a * b : Nat) : Int)) : Rn P σ w ⟨dst, .binOp .mul t x y u, ty, pos, af, g⟩ (.int k ((a * b : Nat) : Int)) :=
  Rn.cast (rn_mulK hx hy (by simpa using h)) (congrArg (Value.int k) (Int.natCast_mul a b).symm)
theorem rn_mkIface {t : TypeId} {x : Operand} {v : Value} (h : P.concrete t = true) (hx : ev σ x = v) : Rn P σ w ⟨dst, .makeInterface t x, ty, pos, af, g⟩ (.iface t v) := by
  show (execOp (ev σ) _).run P w = _
  simp [execOp, hx, run_makeInterface _ t v h]
theorem rn_min2 {t u : TypeId} {x y : Operand} {k : IntKind} {a b : Int} (hx : ev σ x = .int k a) (hy : ev σ y = .int k b) : Rn P σ w ⟨dst, .call ⟨.builtin .min, #[x, y], #[t, u]⟩, ty, pos, af, g⟩ (.int k (if b < a then b else a)) := by
  show (execOp (ev σ) _).run P w = _
  by_cases h : b < a <;> simp [execOp, resolve, invoke, builtin, hx, hy, Builtin.min_, Builtin.min2, h]
theorem rn_shr4 {t u : TypeId} {x y : Operand} {a : Nat} (hx : ev σ x = .int .u8 (a : Int)) (hy : ev σ y = .int .u64 4) : Rn P σ w ⟨dst, .binOp .shr t x y u, ty, pos, af, g⟩ (.int .u8 ((a / 16 : Nat) : Int)) := by
  show (execOp (ev σ) _).run P w = _
  have e : Op.shift .shr .u8 (a : Int) .u64 4 = pure (.int .u8 ((a / 16 : Nat) : Int)) := by
    unfold Op.shift
    rw [if_neg (by omega)]
    simp [IntKind.bits, Int.fdiv_eq_ediv_of_nonneg]
  simp [execOp, hx, hy, eqGuard, binOp, e]
theorem rn_and15 {t u : TypeId} {x y : Operand} {a : Nat} (hx : ev σ x = .int .u8 (a : Int)) (hy : ev σ y = .int .u8 15) (ha : a < 256) : Rn P σ w ⟨dst, .binOp .and t x y u, ty, pos, af, g⟩ (.int .u8 ((a % 16 : Nat) : Int)) := by
  show (execOp (ev σ) _).run P w = _
  have hd : ∀ n : Fin 256, IntKind.u8.wrap ((BitVec.ofInt 8 ((n.val : Nat) : Int) &&& BitVec.ofInt 8 15).toNat : Int) = ((n.val % 16 : Nat) : Int) := by decide +kernel
  have e2 : Op.intBits .and .u8 (a : Int) 15 = pure (.int .u8 ((a % 16 : Nat) : Int)) := by
    show (pure (Value.int .u8 (IntKind.u8.wrap ((BitVec.ofInt 8 (a : Int) &&& BitVec.ofInt 8 15).toNat : Int))) : Sem Value) = _
    rw [hd ⟨a, ha⟩]
  simp only [execOp, hx, hy]
  have e3 : (eqGuard .and t x y (.int .u8 (a : Int)) (.int .u8 15)) = pure () := rfl
  have e4 : binOp .and t (.int .u8 (a : Int)) (.int .u8 15) = Op.intBits .and .u8 (a : Int) 15 := rfl
  rw [e3, e4, e2]; rfl
/-- An error that is none, one that is one. -/
theorem rn_noerr {t u : TypeId} {x : Operand} (ht : P.underlying t = some (.interface (P.methodsAt t))) (hx : ev σ x = .nilIface) : Rn P σ w ⟨dst, .binOp .neq t x (.const .nilIface) u, ty, pos, af, g⟩ (.bool false) := by
  have h := run_neq_nil_nil (P := P) w t ht
  show (execOp (ev σ) _).run P w = _
  have h3 : (eqGuard .neq t x (.const .nilIface) .nilIface .nilIface).run P w = .ok () w := by cases x <;> rfl
  simp only [execOp, hx]
  rw [show ev σ (.const .nilIface) = .nilIface from rfl]
  rw [Sem.run_bind, Sem.run_bind, h3, Result.andThen_ok, h]; rfl
theorem rn_err {t u s : TypeId} {z : Value} {x : Operand} (ht : P.underlying t = some (.interface (P.methodsAt t))) (hx : ev σ x = .iface s z) : Rn P σ w ⟨dst, .binOp .neq t x (.const .nilIface) u, ty, pos, af, g⟩ (.bool true) := by
  have h := run_neq_held_nil (P := P) w t s z ht
  show (execOp (ev σ) _).run P w = _
  have h3 : (eqGuard .neq t x (.const .nilIface) (.iface s z) .nilIface).run P w = .ok () w := by cases x <;> rfl
  simp only [execOp, hx]
  rw [show ev σ (.const .nilIface) = .nilIface from rfl]
  rw [Sem.run_bind, Sem.run_bind, h3, Result.andThen_ok, h]; rfl
/-- Is an error told? -/
def isErr : Value → Bool | .nilIface => false | _ => true
def IsE (e : Value) : Prop := e = .nilIface ∨ ∃ s z, e = .iface s z
theorem rn_errQ {t u : TypeId} {x : Operand} {e : Value} (ht : P.underlying t = some (.interface (P.methodsAt t))) (hx : ev σ x = e) (he : IsE e) : Rn P σ w ⟨dst, .binOp .neq t x (.const .nilIface) u, ty, pos, af, g⟩ (.bool (isErr e)) := by
  rcases he with rfl | ⟨s, z, rfl⟩
  · exact rn_noerr ht hx
  · exact rn_err ht hx
/-- What append(s, x...) does, s the call's own or nil, by its block. -/
theorem run_appO {t e : TypeId} {k bytes : Nat} {z : List Value} (hT : SliceT P t e k bytes z) (hz : z.length = k) {M' : Nat → Prop} {v : Value} {a2 : Option Addr} {c2 : Nat} {o : Option Nat} {rows rows2 : List (List Value)}
    (hs : OwO w v o k rows) (hx : Sl M' w (.slice a2 rows2.length c2) k rows2) (h1 : ∀ r ∈ rows2, ∀ u ∈ r, u.oneCell' = true) (hb : (rows.length + rows2.length) * bytes ≤ 140737488355328) (h63 : rows.length + rows2.length ≤ big) :
    ∃ v' w' o', (Builtin.append_ #[t, t] ty #[v, .slice a2 rows2.length c2]).run P w = .ok v' w' ∧ Ext (fun i => o = some i) w w' ∧ OwO w' v' o' k (rows ++ rows2) ∧ (∀ i, o' = some i → o = some i ∨ w.heap.size ≤ i) := by
  rcases hs with ⟨rfl, rfl, rfl⟩ | ⟨b, spare, rfl, h⟩
  · obtain ⟨v', w', h2, h3, h4⟩ := run_append_own' hT hz (OwN.nil w w.heap.size k) hx h1 (Nat.le_refl _) hb h63 ty
    have h5 : Ext (fun i => (none : Option Nat) = some i) w w' := (h3.fresh fun i h => h).of_non
    rcases h4 with ⟨rfl, e⟩ | ⟨b, sp, hB, h4⟩
    · exact ⟨_, w', none, h2, h5, .inl ⟨rfl, e, rfl⟩, fun i h => by cases h⟩
    · exact ⟨v', w', some b, h2, h5, .inr ⟨b, sp, rfl, h4⟩, fun i h => by cases h; exact .inr hB⟩
  · obtain ⟨c, hv, hc1, hc2, hc3⟩ := h.val
    by_cases hroom : rows.length + rows2.length ≤ c
    · obtain ⟨v', w', sp, h2, h3, h4⟩ := run_append_room' hT h hx h1 ⟨_, c, hv, hroom⟩ ty
      exact ⟨v', w', some b, h2, h3.mono (fun i e => by rw [e]), .inr ⟨b, sp, rfl, h4⟩, fun i h => .inl h⟩
    · have hsl := h.sl (M := Non) id
      subst hv
      obtain ⟨v', w', sp, h2, h3, h4⟩ := run_append_grow' hT hz hsl hx (by omega) hb h63 ty
      exact ⟨v', w', some w.heap.size, h2, h3.of_non, .inr ⟨_, sp, rfl, h4⟩, fun i h => by cases h; exact .inr (Nat.le_refl _)⟩
/-- append(s, x...) of bytes, s the call's own or nil; its row's type stays known. -/
theorem wl_appT {t e : TypeId} {M' : Nat → Prop} {s x : Operand} {d : Nat} {v vx : Value} {o : Option Nat} {l l2 : Str} (hT : SliceT P t e 1 1 [.int .u8 0]) (hsv : ev σ s = v) (hxv : ev σ x = vx) (hs : OwO w v o 1 (l.map eC)) (hr : w.ownsRow 0 e 1 v l.length (Lib.byteCells l))
    (hx : Sl M' w vx 1 (l2.map eC)) (h2 : l2 ≠ []) (hn : l.length + l2.length ≤ 100000000)
    (kk : ∀ v' w' o', Ext (fun i => o = some i) w w' → OwO w' v' o' 1 ((l ++ l2).map eC) → w'.ownsRow 0 e 1 v' (l ++ l2).length (Lib.byteCells (l ++ l2)) → (∀ i, o' = some i → o = some i ∨ w.heap.size ≤ i) → wl P ops rest K (upd σ d v') w') :
    wl P ops (⟨some d, .call ⟨.builtin .append, #[s, x], #[t, t]⟩, ty, pos, af, none⟩ :: rest) K σ w := by
  obtain ⟨a2, c2, rfl, _⟩ := hx.len
  have h1 : ∀ r ∈ l2.map eC, ∀ u ∈ r, u.oneCell' = true := fun r hr u hu => by obtain ⟨c, _, rfl⟩ := List.mem_map.1 hr; simp [eC] at hu; subst hu; rfl
  obtain ⟨v', w', o', e2, e3, e4, e5⟩ := run_appO (ty := ty) hT rfl hs hx h1 (by simp only [List.length_map]; omega) (by simp only [List.length_map, big]; omega)
  obtain ⟨inf, z0, i1, i2, i3, i4, i5⟩ := hT.inf
  obtain ⟨⟨a, c, hv, hc1, hc2, hc3⟩, heach⟩ := id hx
  simp only [Value.slice.injEq] at hv
  obtain ⟨rfl, _, rfl⟩ := hv
  rcases hc3 with h0 | ⟨b, q, rfl, _, _, hcell⟩
  · exact absurd (by simpa using h0) h2
  obtain ⟨v2, w2, f1, f2, _, _⟩ := run_append_own (P := P) w 0 t ty e inf z0 1 1 hT.under i1 i4 i2 i3 (by rw [← Array.length_toList, i5]; rfl) (by decide) v l.length (Lib.byteCells l) hr ⟨b, q, none⟩ (l2.map eC).length c2 (Lib.byteCells l2)
    (by simp [Lib.byteCells]) (fun j u hj => by
      have hjl : j < l2.length := by have := (List.getElem?_eq_some_iff.1 hj).1; simpa [Lib.byteCells] using this
      rw [add_at, hcell j (by rw [eC_flat]; simpa [Lib.byteCells] using hjl), eC_flat]; exact hj) (fun u hu => by simp [Lib.byteCells] at hu; obtain ⟨c, _, rfl⟩ := hu; rfl)
    (by simp only [List.length_map, maxLen]; omega) (by simp only [List.length_map]; omega) (Nat.zero_le _)
  have he := e2.symm.trans f1
  simp only [Result.ok.injEq] at he
  obtain ⟨rfl, rfl⟩ := he
  refine wl_new (w' := w') (v := v') ?_ (kk v' w' o' e3 (by rw [List.map_append]; exact e4) (by simpa [Lib.byteCells] using f2) e5)
  show (execOp (ev σ) _).run P w = _
  simp only [List.length_map] at e2 hxv
  simp [execOp, resolve, invoke, builtin, hsv, hxv, e2]
theorem ownsRow_ext {e : TypeId} {v : Value} {o : Option Nat} {n : Nat} {xs : List Value} {rows : List (List Value)} {k : Nat} (hr : w.ownsRow 0 e 1 v n xs) (ho : OwO w v o k rows) {M : Nat → Prop} {w' : World} (hE : Ext M w w') (hm : ∀ j, o = some j → ¬ M j) : w'.ownsRow 0 e 1 v n xs := by
  refine ⟨hr.1, ?_⟩
  rcases hr.2 with h | ⟨g, cap, cur, hv, hb, hg, rest⟩
  · exact .inl h
  · refine .inr ⟨g, cap, cur, hv, hb, hE.obj hg ?_, rest⟩
    rcases ho with ⟨h, _⟩ | ⟨b, spare, rfl, h⟩
    · rw [hv] at h; simp at h
    · obtain ⟨c, h, _⟩ := h.val
      rw [hv] at h; simp at h
      exact h.1 ▸ hm b rfl
theorem ownsRow_base {e : TypeId} {v : Value} {o : Option Nat} {n B : Nat} {xs : List Value} {rows : List (List Value)} {k : Nat} (hr : w.ownsRow 0 e 1 v n xs) (ho : OwO w v o k rows) (hm : ∀ j, o = some j → B ≤ j) : w.ownsRow B e 1 v n xs ∧ v.ownBlock = o := by
  rcases ho with ⟨h, _, h2⟩ | ⟨b, spare, rfl, h⟩
  · subst h; subst h2
    refine ⟨⟨hr.1, ?_⟩, rfl⟩
    rcases hr.2 with h | ⟨g, cap, cur, hv, _⟩
    · exact .inl h
    · simp at hv
  · obtain ⟨c, h, _⟩ := h.val
    subst h
    refine ⟨⟨hr.1, ?_⟩, rfl⟩
    rcases hr.2 with h | ⟨g, cap, cur, hv, hb, rest⟩
    · exact .inl h
    · simp only [Value.slice.injEq, Option.some.injEq, Addr.mk.injEq] at hv
      exact .inr ⟨g, cap, cur, by rw [hv.1.1, hv.2.1, hv.2.2], hv.1.1 ▸ hm b rfl, rest⟩
end Go.Proofs.YthcclgoidchkdaaGreatDoorC

/- Maps whose keys are texts, in the calculus: made, looked up, laid into, gone through; each rule holds of whatever program. -/
set_option linter.unusedVariables false
set_option linter.unusedSimpArgs false
namespace Go.Proofs.YthcclgoidchkdaaGreatDoorC
open Go.RowKit
variable {ro : Option Nat} {P : Program} {n : Nat} {Q : Post} {σ : Env} {D : List Deferred} {w : World} {dst : Option Nat} {ty : TypeId} {pos : String} {af : Array Edge} {g : Option (Nat × Bool)}
variable {ops rest : List Oper} {K : Ops}

/-- A map's type: its keys are texts; its values' zero. -/
structure MapT (P : Program) (t key elem : TypeId) (z : Value) : Prop where
  under : P.underlying t = some (.map key elem)
  key : P.underlying key = some .string
  zero : (P.info? elem).bind (·.zero) = some z
theorem MapT.run_zero {t key elem : TypeId} {z : Value} (h : MapT P t key elem z) (w : World) : (zeroValue elem).run P w = .ok z w := by
  have := h.zero
  cases hi : P.info? elem with
  | none => simp [hi] at this
  | some i => simp [hi] at this; simp [zeroValue, typeInfo, hi, this]

/-- Entries, in the order in which they were laid in. -/
structure Mp (es : List MapEntry) (clock : Nat) (kvs : List (Str × Value)) : Prop where
  kv : es.map (fun e => (e.key, e.val)) = kvs.map (fun p => (Sv p.1, p.2))
  nodup : (es.map (·.born)).Nodup
  old : ∀ e ∈ es, e.born < clock
/-- Block b is a map with these keys and values. -/
def IsMp (w : World) (b : Nat) (kvs : List (Str × Value)) : Prop := ∃ es clock, w.heap[b]? = some (.map es clock) ∧ Mp es.toList clock kvs
theorem IsMp.lt {b : Nat} {kvs : List (Str × Value)} (h : IsMp w b kvs) : b < w.heap.size := by obtain ⟨_, _, h, _⟩ := h; exact (Array.getElem?_eq_some_iff.1 h).1
theorem IsMp.ext {M : Nat → Prop} {w' : World} {b : Nat} {kvs : List (Str × Value)} (h : IsMp w b kvs) (hE : Ext M w w') (hm : ¬ M b) : IsMp w' b kvs := by
  obtain ⟨es, c, h1, h2⟩ := h; exact ⟨es, c, hE.obj h1 hm, h2⟩
theorem bytes_beq' (a b : Str) : ((⟨a.toArray⟩ : ByteArray) == ⟨b.toArray⟩) = decide (a = b) := by
  by_cases h : a = b
  · subst h; simp [MapKept.bytes_beq]
  · rw [decide_eq_false h]
    cases hb : ((⟨a.toArray⟩ : ByteArray) == ⟨b.toArray⟩) with
    | false => rfl
    | true =>
      have := (MapKept.bytes_beq _ _).1 hb
      simp at this; exact absurd this h
def mfind (k : Str) : List (Str × Value) → Nat → Option (Nat × Value)
  | [], _ => none
  | p :: l, i => if k = p.1 then some (i, p.2) else mfind k l (i + 1)
/-- What a key stands for. -/
def mget (k : Str) : List (Str × Value) → Option Value
  | [] => none
  | p :: l => if k = p.1 then some p.2 else mget k l
/-- A key's value laid in. -/
def mput (k : Str) (v : Value) : List (Str × Value) → List (Str × Value)
  | [] => [(k, v)]
  | p :: l => if k = p.1 then (k, v) :: l else p :: mput k v l
theorem findNow_str (k : Str) : ∀ (es : List MapEntry) (kvs : List (Str × Value)) (i : Nat), es.map (fun e => (e.key, e.val)) = kvs.map (fun p => (Sv p.1, p.2)) → Instr.findNow .string (Sv k) es i = some (mfind k kvs i)
  | [], [], _, _ => rfl
  | [], _ :: _, _, h => by simp at h
  | _ :: _, [], _, h => by simp at h
  | e :: es, p :: kvs, i, h => by
    simp only [List.map_cons, List.cons.injEq, Prod.mk.injEq] at h
    obtain ⟨⟨h1, h2⟩, h3⟩ := h
    have ih := findNow_str k es kvs (i + 1) h3
    simp only [Instr.findNow, h1, Instr.sameNow, bytes_beq', mfind, ih, h2]
    by_cases hk : k = p.1 <;> simp [hk]
theorem mfind_get (k : Str) : ∀ (kvs : List (Str × Value)) (i : Nat), (mfind k kvs i).map (·.2) = mget k kvs
  | [], _ => rfl
  | p :: l, i => by
    unfold mfind mget; split
    · rfl
    · exact mfind_get k l (i + 1)
theorem mfind_none {k : Str} {v : Value} : ∀ {kvs : List (Str × Value)} {i : Nat}, mfind k kvs i = none → mput k v kvs = kvs ++ [(k, v)]
  | [], _, _ => rfl
  | p :: l, i, h => by
    unfold mfind at h; unfold mput
    split at h
    · cases h
    · rename_i hk; rw [if_neg hk, mfind_none (kvs := l) h]; rfl
theorem mfind_some {k : Str} {v : Value} : ∀ {kvs : List (Str × Value)} {i j : Nat} {u : Value}, mfind k kvs i = some (j, u) → ∃ d, j = i + d ∧ d < kvs.length ∧ mput k v kvs = kvs.set d (k, v) ∧ kvs[d]?.map (·.1) = some k
  | [], _, _, _, h => by cases h
  | p :: l, i, j, u, h => by
    unfold mfind at h; unfold mput
    split at h
    · rename_i hk
      simp only [Option.some.injEq, Prod.mk.injEq] at h
      exact ⟨0, by omega, by simp, by rw [if_pos hk]; rfl, by simp [hk]⟩
    · rename_i hk
      obtain ⟨d, h1, h2, h3, h4⟩ := mfind_some (v := v) h
      exact ⟨d + 1, by omega, by simpa using h2, by rw [if_neg hk, h3]; rfl, by simpa using h4⟩
theorem isKeyS (k : Str) : MapKept.IsKey .string (Sv k) := trivial
section
variable {t key elem : TypeId} {z : Value} {x y m : Operand} {b : Nat} {kvs : List (Str × Value)} {k : Str}
theorem rn_lookup2 (hT : MapT P t key elem z) (hx : ev σ x = .map (some b)) (hy : ev σ y = Sv k) (hb : IsMp w b kvs) {o : Option Value} (ho : mget k kvs = o) :
    Rn P σ w ⟨dst, .lookup t x y true, ty, pos, af, g⟩ (.tuple #[o.getD z, .bool o.isSome]) := by
  obtain ⟨es, clock, h1, h2⟩ := hb
  have hf := findNow_str k es.toList kvs 0 h2.kv
  subst ho
  have hg := mfind_get k kvs 0
  show (execOp (ev σ) _).run P w = _
  cases hm : mfind k kvs 0 with
  | none =>
    rw [hm] at hf hg
    simp only [Option.map_none] at hg
    simp [execOp, hx, hy, Instr.lookup, run_underlying hT.under, MapKept.run_getObj_map h1, MapKept.run_checkKey hT.key (isKeyS k), MapKept.run_findKey hT.key hf, hT.run_zero, Result.andThen, ← hg]
  | some p =>
    obtain ⟨j, u⟩ := p
    rw [hm] at hf hg
    simp only [Option.map_some] at hg
    simp [execOp, hx, hy, Instr.lookup, run_underlying hT.under, MapKept.run_getObj_map h1, MapKept.run_checkKey hT.key (isKeyS k), MapKept.run_findKey hT.key hf, hT.run_zero, Result.andThen, ← hg]
/-- What laying in does. -/
theorem run_mapUpdate_mp (hT : MapT P t key elem z) (hb : IsMp w b kvs) (v : Value) :
    ∃ w', (Instr.mapUpdate t (.map (some b)) (Sv k) v).run P w = .ok () w' ∧ Ext (fun i => i = b) w w' ∧ IsMp w' b (mput k v kvs) ∧ w'.heap.size = w.heap.size := by
  obtain ⟨es, clock, h1, h2⟩ := hb
  have hf := findNow_str k es.toList kvs 0 h2.kv
  have hlt := (Array.getElem?_eq_some_iff.1 h1).1
  cases hm : mfind k kvs 0 with
  | none =>
    rw [hm] at hf
    refine ⟨w.putObj b (.map (es.push ⟨Sv k, v, clock⟩) (clock + 1)), ?_, Ext.putObj _ _ _ _ rfl, ⟨_, _, World.putObj_heap_same hlt, ?_, ?_, ?_⟩, by simp [World.putObj]⟩
    · simp [Instr.mapUpdate, run_underlying hT.under, MapKept.run_getObj_map h1, MapKept.run_checkKey hT.key (isKeyS k), MapKept.run_findKey hT.key hf, MapKept.run_setObj_map _ h1, Result.andThen, World.putObj]
    · rw [mfind_none hm]; simp [h2.kv]
    · rw [Array.toList_push, List.map_append, List.nodup_append]
      refine ⟨h2.nodup, by simp, ?_⟩
      intro a ha c hc
      simp only [List.map_cons, List.map_nil, List.mem_singleton] at hc
      obtain ⟨e, he, rfl⟩ := List.mem_map.1 ha
      have := h2.old e he; omega
    · intro e he
      rw [Array.toList_push] at he
      rcases List.mem_append.1 he with he | he
      · have := h2.old e he; omega
      · simp only [List.mem_singleton] at he; subst he; exact Nat.lt_succ_self _
  | some p =>
    obtain ⟨j, u⟩ := p
    rw [hm] at hf
    obtain ⟨d, hd1, hd2, hd3, hd4⟩ := mfind_some (v := v) hm
    obtain rfl : j = d := by omega
    have hlen : es.toList.length = kvs.length := by have := congrArg List.length h2.kv; simpa using this
    have hjl : j < es.size := by rw [← Array.length_toList]; omega
    have hkeyj : es[j].key = Sv k := by
      have e1 := congrArg (fun l => l[j]?) h2.kv
      simp only [List.getElem?_map] at e1
      rw [List.getElem?_eq_getElem (by omega : j < es.toList.length)] at e1
      cases hk2 : kvs[j]? with
      | none => rw [hk2] at hd4; cases hd4
      | some q => rw [hk2] at e1 hd4; simp at e1 hd4; rw [e1.1, hd4]
    have hgj : es[j]? = some es[j] := Array.getElem?_eq_getElem hjl
    have hset : (es.modify j fun e => { e with key := Sv k, val := v }).toList = es.toList.set j { es[j] with key := Sv k, val := v } := by
      rw [Array.toList_modify]
      exact ChangeMaps.modify_eq_set _ _ _ _ (by rw [Array.getElem?_toList]; exact hgj)
    refine ⟨w.putObj b (.map (es.modify j fun e => { e with key := Sv k, val := v }) clock), ?_, Ext.putObj _ _ _ _ rfl, ⟨_, _, World.putObj_heap_same hlt, ?_, ?_, ?_⟩, by simp [World.putObj]⟩
    · simp [Instr.mapUpdate, run_underlying hT.under, MapKept.run_getObj_map h1, MapKept.run_checkKey hT.key (isKeyS k), MapKept.run_findKey hT.key hf, hgj, hkeyj, MapKept.run_keyThatStays (isKeyS k), MapKept.run_setObj_map _ h1, Result.andThen, World.putObj]
    · rw [hset, hd3, List.map_set, List.map_set, h2.kv]
    · rw [hset, List.map_set]
      have : (es.toList.map (·.born)).set j es[j].born = es.toList.map (·.born) := by
        have e1 : es[j].born = (es.toList.map (·.born))[j]'(by simpa using hjl) := by simp
        rw [e1, List.set_getElem_self]
      rw [this]; exact h2.nodup
    · rw [hset]
      intro e he
      rcases List.mem_or_eq_of_mem_set he with he | rfl
      · exact h2.old e he
      · exact h2.old es[j] (by simp)
theorem wl_insert {v : Value} (hT : MapT P t key elem z) (hm : ev σ m = .map (some b)) (hx : ev σ x = Sv k) (hy : ev σ y = v) (hb : IsMp w b kvs)
    (kk : ∀ w', Ext (fun i => i = b) w w' → IsMp w' b (mput k v kvs) → w'.heap.size = w.heap.size → wl P ops rest K σ w') : wl P ops (⟨none, .insert t m x y, ty, pos, af, none⟩ :: rest) K σ w := by
  obtain ⟨w', h1, h2, h3, h4⟩ := run_mapUpdate_mp hT hb v
  refine wl_do (w' := w') ?_ (kk w' h2 h3 h4)
  show (execOp (ev σ) _).run P w = _
  simp [execOp, hm, hx, hy, h1]
end
theorem mp_nil : Mp [] 0 [] := ⟨rfl, by simp, by simp⟩
theorem ismp_alloc (w : World) : IsMp (w.alloc (.map #[] 0)) w.heap.size [] := ⟨#[], 0, by have := World.alloc_heap_new w (.map #[] 0); simpa using this, mp_nil⟩
theorem wl_makeMap {t : TypeId} {d : Nat} (k : ∀ b w', w.heap.size ≤ b → Ext Non w w' → IsMp w' b [] → wl P ops rest K (upd σ d (.map (some b))) w') : wl P ops (⟨some d, .makeMap t none, ty, pos, af, none⟩ :: rest) K σ w := by
  refine wl_new (w' := w.alloc (.map #[] 0)) (v := .map (some w.heap.size)) ?_ (k _ _ (Nat.le_refl _) (Ext.alloc _ _) (ismp_alloc w))
  show (execOp (ev σ) _).run P w = _
  simp [execOp, Instr.makeMap, newObj]; rfl
/-! ### a map that is gone through -/
/-- Block r goes through map b, which has kvs; these are yet to come (in whatever order). -/
def IsGo (w : World) (r b : Nat) (kvs left : List (Str × Value)) : Prop :=
  r ≠ b ∧ ∃ es clock seen, w.heap[b]? = some (.map es clock) ∧ Mp es.toList clock kvs ∧ w.heap[r]? = some (.mapIter (some b) clock seen clock) ∧
    (leftOf es seen).toList.map (fun e => (e.key, e.val)) = left.map (fun p => (Sv p.1, p.2))
theorem IsGo.ne {r b : Nat} {kvs left : List (Str × Value)} (h : IsGo w r b kvs left) : r ≠ b := h.1
theorem IsGo.mp {r b : Nat} {kvs left : List (Str × Value)} (h : IsGo w r b kvs left) : IsMp w b kvs := by
  obtain ⟨_, es, c, s, h1, h2, _⟩ := h; exact ⟨es, c, h1, h2⟩
theorem IsGo.lt {r b : Nat} {kvs left : List (Str × Value)} (h : IsGo w r b kvs left) : r < w.heap.size := by
  obtain ⟨_, es, c, s, _, _, h3, _⟩ := h; exact (Array.getElem?_eq_some_iff.1 h3).1
theorem IsGo.ext {M : Nat → Prop} {w' : World} {r b : Nat} {kvs left : List (Str × Value)} (h : IsGo w r b kvs left) (hE : Ext M w w') (hr : ¬ M r) (hb : ¬ M b) : IsGo w' r b kvs left := by
  obtain ⟨h0, es, c, s, h1, h2, h3, h4⟩ := h; exact ⟨h0, es, c, s, hE.obj h1 hb, h2, hE.obj h3 hr, h4⟩
theorem wl_range {t key elem : TypeId} {x : Operand} {d b : Nat} {kvs : List (Str × Value)} {z : Value} (hT : MapT P t key elem z) (hx : ev σ x = .map (some b)) (hb : IsMp w b kvs)
    (k : ∀ r w', w.heap.size ≤ r → Ext Non w w' → IsGo w' r b kvs kvs → wl P ops rest K (upd σ d (.pointer (some ⟨r, 0, none⟩))) w') : wl P ops (⟨some d, .range t x, ty, pos, af, none⟩ :: rest) K σ w := by
  have hlt := hb.lt
  obtain ⟨es, clock, h1, h2⟩ := hb
  refine wl_new (w' := w.alloc (.mapIter (some b) clock #[] clock)) (v := .pointer (some ⟨w.heap.size, 0, none⟩)) ?_ (k _ _ (Nat.le_refl _) (Ext.alloc _ _) ?_)
  · show (execOp (ev σ) _).run P w = _
    simp [execOp, hx, Instr.range, run_underlying hT.under, MapKept.run_getObj_map h1, newObj]; rfl
  · refine ⟨by omega, es, clock, #[], (Ext.alloc w _).obj h1 (fun h => h), h2, ?_, ?_⟩
    · have := World.alloc_heap_new w (.mapIter (some b) clock #[] clock); simpa using this
    · have : leftOf es #[] = es := by unfold leftOf; simp
      rw [this]; exact h2.kv
theorem left_push {es : List MapEntry} {seen : Array Nat} {e : MapEntry} (hn : (es.map (·.born)).Nodup) (he : e ∈ es.filter fun e => !seen.contains e.born) :
    ∃ l1 l2, (es.filter fun e => !seen.contains e.born) = l1 ++ e :: l2 ∧ (es.filter fun x => !(seen.push e.born).contains x.born) = l1 ++ l2 := by
  obtain ⟨l1, l2, h⟩ := List.append_of_mem he
  refine ⟨l1, l2, h, ?_⟩
  have h1 : (es.filter fun x => !(seen.push e.born).contains x.born) = (es.filter fun e => !seen.contains e.born).filter fun x => decide (x.born ≠ e.born) := by
    rw [List.filter_filter]
    congr 1; funext x
    simp [Array.contains_push, Bool.and_comm]
  rw [h1, h, List.filter_append, List.filter_cons]
  have hnd : ((es.filter fun e => !seen.contains e.born).map (·.born)).Nodup := List.Nodup.sublist (List.Sublist.map _ List.filter_sublist) hn
  rw [h, List.map_append, List.map_cons, List.nodup_append] at hnd
  obtain ⟨a1, a2, a3⟩ := hnd
  rw [List.nodup_cons] at a2
  have f1 : l1.filter (fun x => decide (x.born ≠ e.born)) = l1 := List.filter_eq_self.2 fun x hx => by
    have := a3 x.born (List.mem_map_of_mem hx) e.born (by simp)
    simpa using this
  have f2 : l2.filter (fun x => decide (x.born ≠ e.born)) = l2 := List.filter_eq_self.2 fun x hx => by
    have : x.born ≠ e.born := fun h => a2.1 (by rw [← h]; exact List.mem_map_of_mem hx)
    simpa using this
  rw [f1, f2]; simp
end Go.Proofs.YthcclgoidchkdaaGreatDoorC

/- A map's iterator, and where it stands. -/
set_option linter.unusedVariables false
set_option linter.unusedSimpArgs false
namespace Go.Proofs.YthcclgoidchkdaaGreatDoorC
open Go.RowKit
variable {ro : Option Nat} {P : Program} {n : Nat} {Q : Post} {σ : Env} {D : List Deferred} {w : World} {dst : Option Nat} {ty : TypeId} {pos : String} {af : Array Edge} {g : Option (Nat × Bool)}
variable {ops rest : List Oper} {K : Ops}
/-- The iterator in block r stands at p. -/
def IsAt (w : World) (r b : Nat) (p : Str × Value) : Prop :=
  ∃ es c since s stamp e, w.heap[b]? = some (.map es c) ∧ w.heap[r]? = some (.mapIter (some b) since s c) ∧ s.back? = some stamp ∧ es.find? (·.born == stamp) = some e ∧ e.key = Sv p.1 ∧ e.val = p.2
theorem IsAt.ext {M : Nat → Prop} {w' : World} {r b : Nat} {p : Str × Value} (h : IsAt w r b p) (hE : Ext M w w') (hr : ¬ M r) (hb : ¬ M b) : IsAt w' r b p := by
  obtain ⟨es, c, si, s, st, e, h1, h2, h3⟩ := h
  exact ⟨es, c, si, s, st, e, hE.obj h1 hb, hE.obj h2 hr, h3⟩
theorem rn_entry {x : Operand} {r b : Nat} {p : Str × Value} (hx : ev σ x = .pointer (some ⟨r, 0, none⟩)) (h : IsAt w r b p) : Rn P σ w ⟨dst, .entry x, ty, pos, af, g⟩ (.tuple #[Sv p.1, p.2]) := by
  obtain ⟨es, c, si, s, st, e, h1, h2, h3, h4, h5, h6⟩ := h
  show (execOp (ev σ) _).run P w = _
  have key : (Instr.entry (.pointer (some ⟨r, 0, none⟩))).run P w = .ok (.tuple #[Sv p.1, p.2]) w := by
    simp only [Instr.entry, getObj, Sem.run_bind, Sem.run, h2, h1, Result.andThen, h3]
    simp [h4, h5, h6, Sem.run]
  simp [execOp, hx, key]
theorem find_born {es : List MapEntry} {e : MapEntry} (hn : (es.map (·.born)).Nodup) (he : e ∈ es) : es.find? (·.born == e.born) = some e := by
  induction es with
  | nil => cases he
  | cons y l ih =>
    simp only [List.map_cons, List.nodup_cons] at hn
    rcases List.mem_cons.1 he with rfl | he
    · simp
    · have : ¬ y.born = e.born := fun h => hn.1 (by rw [h]; exact List.mem_map_of_mem he)
      rw [List.find?_cons_of_neg (by simpa using this)]
      exact ih hn.2 he
theorem wl_nextE {x : Operand} {d r b : Nat} {kvs left : List (Str × Value)} (hx : ev σ x = .pointer (some ⟨r, 0, none⟩)) (hg : IsGo w r b kvs left)
    (k0 : left = [] → wl P ops rest K (upd σ d (.tuple #[.bool false])) w)
    (k1 : ∀ w' l1 p l2, left = l1 ++ p :: l2 → Ext (fun i => i = r) w w' → IsGo w' r b kvs (l1 ++ l2) → IsAt w' r b p → w'.heap.size = w.heap.size → wl P ops rest K (upd σ d (.tuple #[.bool true, Sv p.1, p.2])) w') :
    wl P ops (⟨some d, .next x false, ty, pos, af, none⟩ :: rest) K σ w := by
  obtain ⟨h0, es, c, s, h1, h2, h3, h4⟩ := hg
  have hlt := (Array.getElem?_eq_some_iff.1 h3).1
  rcases run_next_at (P := P) w ty r b c c s es c h3 h1 h2.old (Nat.le_refl _) with ⟨e1, e2⟩ | ⟨e, he, w1, hw1, e2⟩
  · refine wl_new (w' := w) (v := .tuple #[.bool false]) ?_ (k0 ?_)
    · show (execOp (ev σ) _).run P w = _
      simp [execOp, hx, e2]
    · have := congrArg List.length h4
      simp only [List.length_map, Array.length_toList, e1] at this
      exact List.length_eq_zero_iff.1 this.symm
  · have hleft : (leftOf es s).toList = es.toList.filter fun e => !s.contains e.born := by unfold leftOf; simp
    rw [hleft] at he h4
    have hees : e ∈ es.toList := (List.mem_filter.1 he).1
    obtain ⟨l1, l2, q1, q2⟩ := left_push h2.nodup he
    rw [q1, List.map_append, List.map_cons] at h4
    obtain ⟨m1, m2, g1, g2, g3⟩ := List.append_eq_map_iff.1 h4
    obtain ⟨p, m3, g4, g5, g6⟩ := List.map_eq_cons_iff.1 g3
    subst g4
    simp only [Prod.mk.injEq] at g5
    have hw1' : Ext Non w w1 := by rcases hw1 with rfl | rfl; exact Ext.refl _ _; exact (Ext.refl _ _).drew
    have hsz : w1.heap.size = w.heap.size := by rcases hw1 with rfl | rfl <;> rfl
    have hE : Ext (fun i => i = r) w (w1.putObj r (.mapIter (some b) c (s.push e.born) c)) := hw1'.of_non.trans (Ext.putObj _ _ _ _ rfl)
    refine wl_new (w' := w1.putObj r (.mapIter (some b) c (s.push e.born) c)) (v := .tuple #[.bool true, Sv p.1, p.2]) ?_ (k1 _ m1 p m3 g1 hE ?_ ?_ (by simp [World.putObj, hsz]))
    · show (execOp (ev σ) _).run P w = _
      rw [g5.1, g5.2]
      simp [execOp, hx, e2, ChangeMaps.setBlock, World.putObj]
    · refine ⟨h0, es, c, s.push e.born, hE.obj h1 (fun h => h0 h.symm), h2, World.putObj_heap_same (by omega), ?_⟩
      have : (leftOf es (s.push e.born)).toList = es.toList.filter fun x => !(s.push e.born).contains x.born := by unfold leftOf; simp
      rw [this, q2, List.map_append, List.map_append, ← g2, ← g6]
    · refine ⟨es, c, c, s.push e.born, e.born, e, hE.obj h1 (fun h => h0 h.symm), World.putObj_heap_same (by omega), by simp, ?_, g5.1.symm, g5.2.symm⟩
      rw [← Array.find?_toList]
      exact find_born h2.nodup hees
def nxV : Option (Str × Value) → Value | none => .tuple #[.bool false] | some p => .tuple #[.bool true, Sv p.1, p.2]
def Nx (w : World) (r b : Nat) (kvs left : List (Str × Value)) : Option (Str × Value) → Prop
  | none => left = []
  | some p => ∃ l1 l2, left = l1 ++ p :: l2 ∧ IsGo w r b kvs (l1 ++ l2) ∧ IsAt w r b p
theorem wl_nextQ {x : Operand} {d r b : Nat} {kvs left : List (Str × Value)} (hx : ev σ x = .pointer (some ⟨r, 0, none⟩)) (hg : IsGo w r b kvs left)
    (k : ∀ w' q, Ext (fun i => i = r) w w' → Nx w' r b kvs left q → wl P ops rest K (upd σ d (nxV q)) w') : wl P ops (⟨some d, .next x false, ty, pos, af, none⟩ :: rest) K σ w :=
  wl_nextE hx hg (fun h => k w none (Ext.refl _ _) h) fun w' l1 p l2 h hE h2 h3 _ => k w' (some p) hE ⟨l1, l2, h, h2, h3⟩
theorem rn_nx0 {x : Operand} {q : Option (Str × Value)} (hx : ev σ x = nxV q) : Rn P σ w ⟨dst, .extract x 0, ty, pos, af, g⟩ (.bool q.isSome) := by
  cases q with
  | none => exact rn_extract (vs := #[.bool false]) hx rfl
  | some p => exact rn_extract (vs := #[.bool true, Sv p.1, p.2]) hx rfl
end Go.Proofs.YthcclgoidchkdaaGreatDoorC

/- The decimal numeral of any number: the library's. -/
set_option linter.unusedVariables false
set_option linter.unusedSimpArgs false
set_option maxRecDepth 100000
namespace Go.Proofs.YthcclgoidchkdaaGreatDoorC
open Go.RowKit Go.Shelf
def Tryz.laysM171_ren : Go.Shelf.Ren := ⟨fun | 171 => 50 | 243 => 90 | 246 => 141 | 283 => 194 | 284 => 195 | 285 => 196 | 286 => 197 | 129 => 228 | 317 => 227 | 318 => 229 | 319 => 230 | 320 => 231 | 337 => 259 | 338 => 260 | n => n, fun | 3 => 3 | 9 => 9 | 2 => 2 | 4 => 4 | 171 => 259 | 0 => 0 | 53 => 260 | 37 => 164 | 5 => 5 | 173 => 263 | 212 => 288 | 51 => 289 | 20 => 20 | 213 => 290 | 46 => 218 | 232 => 332 | 233 => 333 | n => n, fun | 17 => 0 | 18 => 4 | 19 => 5 | n => n⟩
theorem Tryz.laysM171 : Go.Proofs.LaysM.n171 Tryz.prog Tryz.laysM171_ren := {
  mixed := by kernel_rfl
  f129 := Tryz.func228.trans (congrArg some (by kernel_rfl))
  f171 := Tryz.func50.trans (congrArg some (by kernel_rfl))
  f243 := Tryz.func90.trans (congrArg some (by kernel_rfl))
  f246 := Tryz.func141.trans (congrArg some (by kernel_rfl))
  f283 := Tryz.func194.trans (congrArg some (by kernel_rfl))
  f284 := Tryz.func195.trans (congrArg some (by kernel_rfl))
  f285 := Tryz.func196.trans (congrArg some (by kernel_rfl))
  f286 := Tryz.func197.trans (congrArg some (by kernel_rfl))
  f317 := Tryz.func227.trans (congrArg some (by kernel_rfl))
  f318 := Tryz.func229.trans (congrArg some (by kernel_rfl))
  f319 := Tryz.func230.trans (congrArg some (by kernel_rfl))
  f320 := Tryz.func231.trans (congrArg some (by kernel_rfl))
  f337 := Tryz.func259.trans (congrArg some (by kernel_rfl))
  f338 := Tryz.func260.trans (congrArg some (by kernel_rfl))
  t0 := Tryz.underlying0
  a0 := Tryz.isAgg0
  z0 := Tryz.sizeOf0
  v0 := Tryz.zeroValue0
  t2 := Tryz.underlying2
  a2 := Tryz.isAgg2
  z2 := Tryz.sizeOf2
  v2 := Tryz.zeroValue2
  t3 := Tryz.underlying3
  a3 := Tryz.isAgg3
  z3 := Tryz.sizeOf3
  v3 := Tryz.zeroValue3
  t4 := Tryz.underlying4
  a4 := Tryz.isAgg4
  z4 := Tryz.sizeOf4
  v4 := Tryz.zeroValue4
  t5 := Tryz.underlying5
  a5 := Tryz.isAgg5
  z5 := Tryz.sizeOf5
  v5 := Tryz.zeroValue5
  t9 := Tryz.underlying9
  a9 := Tryz.isAgg9
  z9 := Tryz.sizeOf9
  v9 := Tryz.zeroValue9
  t20 := Tryz.underlying20
  a20 := Tryz.isAgg20
  z20 := Tryz.sizeOf20
  v20 := Tryz.zeroValue20
  t37 := Tryz.underlying164
  a37 := Tryz.isAgg164
  z37 := Tryz.sizeOf164
  v37 := Tryz.zeroValue164
  t46 := Tryz.underlying218
  a46 := Tryz.isAgg218
  z46 := Tryz.sizeOf218
  v46 := Tryz.zeroValue218
  t51 := Tryz.underlying289
  a51 := Tryz.isAgg289
  z51 := Tryz.sizeOf289
  v51 := Tryz.zeroValue289
  t53 := Tryz.underlying260
  a53 := Tryz.isAgg260
  z53 := Tryz.sizeOf260
  v53 := Tryz.zeroValue260
  t171 := Tryz.underlying259
  a171 := Tryz.isAgg259
  z171 := Tryz.sizeOf259
  v171 := Tryz.zeroValue259
  t173 := Tryz.underlying263
  a173 := Tryz.isAgg263
  z173 := Tryz.sizeOf263
  v173 := Tryz.zeroValue263
  t212 := Tryz.underlying288
  a212 := Tryz.isAgg288
  z212 := Tryz.sizeOf288
  v212 := Tryz.zeroValue288
  t213 := Tryz.underlying290
  a213 := Tryz.isAgg290
  z213 := Tryz.sizeOf290
  t232 := Tryz.underlying332
  a232 := Tryz.isAgg332
  z232 := Tryz.sizeOf332
  v232 := Tryz.zeroValue332
  t233 := Tryz.underlying333
  a233 := Tryz.isAgg333
  z233 := Tryz.sizeOf333
  v233 := Tryz.zeroValue333
  g17 := by kernel_rfl
  g18 := by kernel_rfl
  g19 := by kernel_rfl
  i0 := by kernel_rfl
  i2 := by kernel_rfl
  i3 := by kernel_rfl
  i4 := by kernel_rfl
  i5 := by kernel_rfl
  i9 := by kernel_rfl
  i20 := by kernel_rfl
  i37 := by kernel_rfl
  i46 := by kernel_rfl
  i51 := by kernel_rfl
  i53 := by kernel_rfl
  i171 := by kernel_rfl
  i173 := by kernel_rfl
  i212 := by kernel_rfl
  i232 := by kernel_rfl
  i233 := by kernel_rfl
  m17 := by kernel_rfl
  m18 := by kernel_rfl
  m19 := by kernel_rfl }

/-- The table that the library's decimals lean on. -/
def Tab (w : World) : Prop := Lib.TabIs Tryz.prog w "internal/strconv.uint64pow10" .u64 Lib.pow10Tab
theorem Tab.ext {M : Nat → Prop} {w w' : World} (h : Tab w) (hE : Ext M w w') {B : Nat} (hM : ∀ i, M i → B ≤ i) (hB : ∃ g, Tryz.prog.globalNamed "internal/strconv.uint64pow10" = some g ∧ g < B) : Tab w' := by
  obtain ⟨g, hg, hgB⟩ := hB
  unfold Tab Lib.TabIs World.var? at *
  rw [hg] at h ⊢
  simp only [Option.bind_some] at h ⊢
  have hlt : g < w.heap.size := by
    rcases Nat.lt_or_ge g w.heap.size with h' | h'
    · exact h'
    · rw [Array.getElem?_eq_none h'] at h; cases h
  rw [hE.block g hlt (fun h' => by have := hM g h'; omega)]
  exact h
theorem Tab.non {w w' : World} (h : Tab w) (hE : Ext Non w w') : Tab w' := by
  unfold Tab Lib.TabIs World.var? at *
  cases hg : Tryz.prog.globalNamed "internal/strconv.uint64pow10" with
  | none => rw [hg] at h; simp at h
  | some g =>
    rw [hg] at h
    simp only [Option.bind_some] at h ⊢
    have hlt : g < w.heap.size := by
      rcases Nat.lt_or_ge g w.heap.size with h' | h'
      · exact h'
      · rw [Array.getElem?_eq_none h'] at h; cases h
    rw [hE.block g hlt id]
    exact h

theorem itoa_ok (w : World) (n : Int) (h : -9223372036854775808 ≤ n ∧ n ≤ 9223372036854775807) (ht : Tab w) : Fn Tryz.prog 50 #[.int .i64 n] w fun u w' => u = Sv (Lib.itoa n) :=
  Calls.mono (Any.strconv_Itoa Tryz.laysM171 n h.1 h.2 w ht) fun e w' hx => by
    obtain ⟨h1, k, os, h2⟩ := hx
    exact ⟨_, h1, by rw [h2]; exact Ext.of_below (Lib.below_grow w.heap.size w (Nat.le_refl _) k os), rfl⟩
end Go.Proofs.YthcclgoidchkdaaGreatDoorC
