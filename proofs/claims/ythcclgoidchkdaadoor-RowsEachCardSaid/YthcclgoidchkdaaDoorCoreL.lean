/- How arguments that read are seen in the calculus, and how a law's contract comes to its row; each rule holds of whatever program. -/
import Derived.Test.YthcclgoidchkdaaDoorCoreK
import Derived.ProofKit
import Derived.Carry
import Derived.Deep.Slices
set_option linter.unusedVariables false
set_option linter.unusedSimpArgs false
namespace Go.Proofs.YthcclgoidchkdaaDoorC
open Go.RowKit Go.ChangeShapes Go.Deep
variable {P : Program}

/-! ### flat types -/
inductive FK | int (k : IntKind) | str | bool
def FK.ok : FK → Value → Prop
  | .int k, v => ∃ n, v = .int k n ∧ (Lit.int k n).wf = true
  | .str, v => ∃ s : Str, v = Sv s ∧ s.length ≤ maxLen
  | .bool, v => ∃ b, v = .bool b
def flatOk : List FK → List Value → Prop
  | [], [] => True
  | k :: ks, v :: vs => k.ok v ∧ flatOk ks vs
  | _, _ => False
theorem flatOk.length : ∀ {ks : List FK} {vs : List Value}, flatOk ks vs → vs.length = ks.length
  | [], [], _ => rfl
  | k :: ks, v :: vs, h => by simp [flatOk.length h.2]
theorem flatOk.cons {k : FK} {ks : List FK} : ∀ {vs : List Value}, flatOk (k :: ks) vs → ∃ v r, vs = v :: r ∧ k.ok v ∧ flatOk ks r
  | v :: r, h => ⟨v, r, rfl, h.1, h.2⟩
theorem flatOk.nil : ∀ {vs : List Value}, flatOk [] vs → vs = []
  | [], _ => rfl
theorem flatOk.append : ∀ {ks ks' : List FK} {vs vs' : List Value}, flatOk ks vs → flatOk ks' vs' → flatOk (ks ++ ks') (vs ++ vs')
  | [], _, [], _, _, h => h
  | k :: ks, _, v :: vs, _, h, h' => ⟨h.1, h.2.append h'⟩
def flatFs (F : TypeId → Option (List FK)) (P : Program) : List Field → Nat → Option (List FK)
  | [], off => some []
  | f :: fs, off => if f.offset == off then (F f.type).bind fun ks => if P.cellsOf f.type == ks.length then (flatFs F P fs (off + ks.length)).map (ks ++ ·) else none else none
def flatT (P : Program) : Nat → TypeId → Option (List FK)
  | 0, _ => none
  | n + 1, t => match P.underlying t with
    | some .bool => some [.bool]
    | some (.int k) => some [.int k]
    | some .string => some [.str]
    | some (.struct fs) => (flatFs (flatT P n) P fs.toList 0).bind fun ks => if P.cellsOf t == ks.length then some ks else none
    | _ => none
section
variable {H : Type} {enc : TypeId × Value → H} {w : World} {base : Nat} {spare : Nat → Bool} {held : Bool}
theorem flat_str {s : ByteArray} (h : s.size ≤ maxLen) : FK.ok .str (.string s) := ⟨s.data.toList, by simp [Sv], by rw [Array.length_toList]; exact h⟩
theorem flatFs_ok {F : TypeId → Option (List FK)} {fuel : Nat} (hF : ∀ t ks cs x, F t = some ks → DataW.trod enc P w base spare held fuel t cs = some x → flatOk ks cs) : ∀ (fs : List Field) (off : Nat) (ks : List FK) (cs : List Value) (xs : List (DataW H × List MemPlace)),
    flatFs F P fs off = some ks → fs.mapM (fun f => DataW.trod enc P w base spare held fuel f.type ((cs.drop f.offset).take (P.cellsOf f.type))) = some xs → flatOk ks ((cs.drop off).take ks.length)
  | [], off, ks, cs, xs, h, _ => by simp [flatFs] at h; subst h; simp [flatOk]
  | f :: fs, off, ks, cs, xs, h, hx => by
    simp only [flatFs] at h
    by_cases h1 : f.offset = off
    · rw [if_pos (by simpa using h1)] at h
      obtain ⟨k1, h2, h3⟩ := Option.bind_eq_some_iff.1 h
      by_cases h4 : P.cellsOf f.type = k1.length
      · rw [if_pos (by simpa using h4)] at h3
        obtain ⟨k2, h5, rfl⟩ := Option.map_eq_some_iff.1 h3
        rw [List.mapM_cons] at hx
        obtain ⟨y, h6, hx⟩ := Option.bind_eq_some_iff.1 hx
        obtain ⟨ys, h7, _⟩ := Option.bind_eq_some_iff.1 hx
        have g1 := hF _ _ _ _ h2 h6
        have g2 := flatFs_ok hF fs _ _ cs _ h5 h7
        rw [h1, h4] at g1
        have := g1.append g2
        rw [List.length_append, List.take_add, List.drop_drop]
        exact this
      · rw [if_neg (by simpa using h4)] at h3; cases h3
    · rw [if_neg (by simpa using h1)] at h; cases h
theorem flat_of_trod : ∀ (n : Nat) (t : TypeId) (ks : List FK) (fuel : Nat) (cs : List Value) (x : DataW H × List MemPlace), flatT P n t = some ks → DataW.trod enc P w base spare held fuel t cs = some x → flatOk ks cs
  | 0, t, ks, fuel, cs, x, h, _ => by simp [flatT] at h
  | n + 1, t, ks, 0, cs, x, h, hx => by simp [DataW.trod] at hx
  | n + 1, t, ks, fuel + 1, cs, x, h, hx => by
    simp only [flatT] at h
    simp only [DataW.trod] at hx
    cases hu : P.underlying t with
    | none => simp [hu] at h
    | some d =>
      cases d with
      | bool =>
        simp only [hu, Option.some.injEq] at h hx; subst h
        split at hx <;> first | (cases hx; done) | skip
        all_goals simp_all [flatOk, FK.ok]
      | int k =>
        simp only [hu, Option.some.injEq] at h hx; subst h
        split at hx <;> first | (cases hx; done) | skip
        all_goals simp_all [flatOk, FK.ok]
      | string =>
        simp only [hu, Option.some.injEq] at h hx; subst h
        split at hx <;> first | (cases hx; done) | skip
        all_goals simp_all [flatOk]
        exact flat_str hx.1
      | struct fs =>
        simp only [hu] at h hx
        obtain ⟨k1, h1, h2⟩ := Option.bind_eq_some_iff.1 h
        by_cases h3 : P.cellsOf t = k1.length
        · rw [if_pos (by simpa using h3)] at h2
          cases h2
          by_cases h4 : cs.length = P.cellsOf t
          · rw [if_pos h4] at hx
            obtain ⟨xs, h5, _⟩ := Option.map_eq_some_iff.1 hx
            have := flatFs_ok (F := flatT P n) (fun t ks cs x => flat_of_trod n t ks fuel cs x) fs.toList 0 ks cs xs h1 h5
            rw [List.drop_zero, List.take_of_length_le (by omega)] at this
            exact this
          · rw [if_neg h4] at hx; cases hx
        · rw [if_neg (by simpa using h3)] at h2; cases h2
      | _ => simp [hu] at h
/-- A slice of flat elements reads as rows. -/
theorem open_rows {t e : TypeId} {k bytes : Nat} {z : List Value} (hT : SliceT P t e k bytes z) {n : Nat} {ks : List FK} (hf : flatT P n e = some ks) (hk : ks.length = k) (hk0 : 0 < k) {v : Value} {d : DataW H} {p : List MemPlace} (h : DataW.Trod enc P w base spare held t v d p) (hv : ∃ a l c, v = .slice a l c) :
    ∃ rows, Sl Non w v k rows ∧ ∀ r ∈ rows, flatOk ks r := by
  obtain ⟨fuel, h⟩ := h
  obtain ⟨a, l, c, rfl⟩ := hv
  rcases open_slice hT.under h with ⟨h1, h2⟩ | ⟨a', len, cap, m, n', D, Pl, h1, h2, h3, h4, h5, h6, h7⟩
  · simp [Value.cells] at h1
    obtain ⟨rfl, rfl, rfl⟩ := h1
    exact ⟨[], Sl.nil _ _ _, by simp⟩
  · simp [Value.cells] at h1
    obtain ⟨rfl, rfl, rfl⟩ := h1
    obtain ⟨inf, v0, i1, i2, i3, i4, i5⟩ := hT.inf
    have hce : P.cellsOf e = k := by simp [Program.cellsOf, i1, i2]
    have hm : l ≤ m := by rw [h5]; split <;> omega
    have hx : ∀ i, i < l → ∃ cs', w.cells? base (a'.add (i * k)) k = some cs' ∧ flatOk ks cs' := fun i hi => by
      obtain ⟨cs', g1, g2⟩ := h7 i (by omega)
      rw [hce] at g1
      exact ⟨cs', g1, flat_of_trod n e ks n' cs' _ hf g2⟩
    have hrows : ∀ m, m ≤ l → ∃ rows : List (List Value), rows.length = m ∧ (∀ i (hi : i < m), ∃ r, rows[i]? = some r ∧ w.cells? base (a'.add (i * k)) k = some r) ∧ (∀ r ∈ rows, flatOk ks r) := by
      intro m
      induction m with
      | zero => intro _; exact ⟨[], rfl, by omega, by simp⟩
      | succ m ih =>
        intro hm
        obtain ⟨rows, r1, r2, r3⟩ := ih (by omega)
        obtain ⟨r, g1, g2⟩ := hx m (by omega)
        refine ⟨rows ++ [r], by simp [r1], fun i hi => ?_, ?_⟩
        · by_cases hlt : i < m
          · obtain ⟨r', q1, q2⟩ := r2 i hlt
            exact ⟨r', by rw [List.getElem?_append_left (by omega)]; exact q1, q2⟩
          · have : i = m := by omega
            subst this
            exact ⟨r, by rw [List.getElem?_append_right (by omega), r1]; simp, g1⟩
        · intro r' hr'
          rcases List.mem_append.1 hr' with hr' | hr'
          · exact r3 r' hr'
          · simp only [List.mem_singleton] at hr'; rw [hr']; exact g2
    obtain ⟨rows, r1, r2, r3⟩ := hrows l (Nat.le_refl _)
    have heach : ∀ r ∈ rows, r.length = k := fun r hr => by rw [(r3 r hr).length, hk]
    refine ⟨rows, ⟨⟨some a', c, by rw [r1], by omega, by simp only [maxLen, big] at *; omega, ?_⟩, heach⟩, r3⟩
    by_cases hl0 : l = 0
    · exact .inl (List.length_eq_zero_iff.1 (by omega))
    · have hcell : ∀ i, i < l → ∀ j, j < k → w.cell? ((a'.add (i * k)).add j) = (rows[i]?.getD [])[j]? ∧ ((rows[i]?.getD []).length = k) := fun i hi j hj => by
        obtain ⟨r, q1, q2⟩ := r2 i hi
        obtain ⟨_, q3, q4⟩ := World.cells?_some q2
        rw [q1]; exact ⟨q4 j hj, q3⟩
      have hspot : a'.spot = none := by
        obtain ⟨q1, q2⟩ := hcell 0 (by omega) 0 hk0
        rw [List.getElem?_eq_getElem (by omega)] at q1
        rw [Nat.zero_mul] at q1
        have e : (a'.add 0).add 0 = a' := by simp [Addr.add]
        rw [e] at q1
        unfold World.cell? at q1
        split at q1
        · cases hs : a'.spot with
          | none => rfl
          | some _ => simp [hs] at q1
        · cases q1
      obtain ⟨b, o, sp⟩ := a'
      simp only at hspot; subst hspot
      have hb : b < w.heap.size := by
        obtain ⟨q1, q2⟩ := hcell 0 (by omega) 0 hk0
        rw [List.getElem?_eq_getElem (by omega), add_at, add_at] at q1
        exact World.block_lt_of_cell? w _ q1
      refine .inr ⟨b, o, rfl, hb, id, fun j hj => ?_⟩
      rw [flat_len heach] at hj
      have hi : j / k < l := by rw [← r1]; exact Nat.div_lt_of_lt_mul (by rw [Nat.mul_comm]; exact hj)
      have hjm : j % k < k := Nat.mod_lt _ hk0
      have q := (hcell (j / k) hi (j % k) hjm).1
      rw [add_at, add_at] at q
      have e : o + j / k * k + j % k = o + j := by rw [Nat.add_assoc, Nat.div_add_mod']
      rw [e] at q
      rw [q]
      have e2 := flat_at heach (j / k) (j % k) (by omega) hjm
      rw [Nat.div_add_mod'] at e2
      rw [e2, List.getElem?_eq_getElem (by omega : j / k < rows.length)]; rfl
/-- A number that reads. -/
theorem open_num {t : TypeId} {k : IntKind} {v : Value} {d : DataW H} {p : List MemPlace} (ht : P.underlying t = some (.int k)) (h : DataW.Trod enc P w base spare held t v d p) (hv : ∃ n, v = .int k n) : ∃ n, v = .int k n ∧ (Lit.int k n).wf = true := by
  obtain ⟨n, rfl⟩ := hv
  obtain ⟨fuel, h⟩ := h
  have := flat_of_trod 1 t [.int k] fuel _ _ (by simp [flatT, ht]) h
  simp [Value.cells, flatOk, FK.ok] at this
  exact ⟨n, rfl, this⟩
/-! ### the row -/
theorem trodAll_stays (hl : laidOutB P = true) {W W' : World} (hb : Below W.heap.size W W') : ∀ (ts : List TypeId) (vs : List Value) (ds : List (DataW H)) (ps : List MemPlace), (ts.all fun t => P.readableRec t && decide (t < P.types.size)) = true →
    DataW.TrodAll enc P W 0 (fun _ => true) true ts vs ds ps → (∀ x ∈ ps, x.block < W.heap.size) → DataW.TrodAll enc P W' 0 (fun b => decide (b < W.heap.size)) true ts vs ds ps
  | [], [], [], ps, _, h, _ => h
  | t :: ts, v :: vs, d :: ds, ps, ht, ⟨p, q, h1, h2, h3⟩, hp => by
    simp only [List.all_cons, Bool.and_eq_true, decide_eq_true_eq] at ht
    subst h3
    exact ⟨p, q, Below.trod hl ht.1.1 ht.1.2 h1 hb (fun x hx => hp x (by simp [hx])), trodAll_stays hl hb ts vs ds q ht.2 h2 (fun x hx => hp x (by simp [hx])), rfl⟩
  | [], [], _ :: _, _, _, h, _ => h.elim
  | [], _ :: _, _, _, _, h, _ => h.elim
  | _ :: _, [], _, _, _, h, _ => h.elim
  | _ :: _, _ :: _, [], _, _, h, _ => h.elim
end
end Go.Proofs.YthcclgoidchkdaaDoorC
