/- Slicing, equality of structs and functions, literal structs, in the calculus; each rule holds of whatever program. -/
import Derived.Test.YthcclgoidchkdaaDoorCoreJ
import Derived.Laws.StructEq
set_option linter.unusedVariables false
set_option linter.unusedSimpArgs false
namespace Go.Proofs.YthcclgoidchkdaaDoorC
open Go.RowKit
variable {ro : Option Nat} {P : Program} {n : Nat} {Q : Post} {σ : Env} {D : List Deferred} {w : World} {dst : Option Nat} {ty : TypeId} {pos : String} {af : Array Edge} {g : Option (Nat × Bool)}

/-! ### slicing -/
/-- A bound that may be left out. -/
def Bd (σ : Env) (o : Option Operand) (d v : Nat) : Prop := match o with | none => v = d | some y => ∃ k, ev σ y = .int k v
theorem run_bounds {b : Bool} {len cap l h m : Nat} {lo hi mx : Option Operand} (hlo : Bd σ lo 0 l) (hhi : Bd σ hi len h) (hmx : Bd σ mx cap m) (hm : mx.isSome = true → hi.isSome = true) (h1 : l ≤ h) (h2 : h ≤ m) (h3 : m ≤ cap) :
    (Instr.sliceBounds b len cap (lo.map (ev σ)) (hi.map (ev σ)) (mx.map (ev σ))).run P w = .ok (l, h, m) w := by
  have sb : ∀ (v : Value) (x y : Nat) (c : BoundsCode), (∃ k, v = .int k (x : Int)) → x ≤ y → (Instr.sliceBound v y c).run P w = .ok x w := by
    rintro v x y c ⟨k, rfl⟩ hxy
    have : (0 : Int) ≤ x ∧ (x : Int) ≤ y := by omega
    simp [Instr.sliceBound, asIntOf, this]
  unfold Instr.sliceBounds
  cases mx with
  | none =>
    simp only [Bd] at hmx; subst hmx
    cases hi with
    | none =>
      simp only [Bd] at hhi; subst hhi
      cases lo with
      | none => simp only [Bd] at hlo; subst hlo; simp
      | some y => simp [sb _ _ _ _ hlo h1]
    | some z =>
      cases lo with
      | none => simp only [Bd] at hlo; subst hlo; simp [sb _ _ _ _ hhi h2]
      | some y => simp [sb _ _ _ _ hlo h1, sb _ _ _ _ hhi h2]
  | some u =>
    cases hi with
    | none => simp at hm
    | some z =>
      cases lo with
      | none => simp only [Bd] at hlo; subst hlo; simp [sb _ _ _ _ hhi h2, sb _ _ _ _ hmx h3]
      | some y => simp [sb _ _ _ _ hlo h1, sb _ _ _ _ hhi h2, sb _ _ _ _ hmx h3]
/-- A text, cut. -/
theorem rn_sslice {t : TypeId} (hu : P.underlying t = some .string) {x : Operand} {lo hi : Option Operand} {a : Str} {l h : Nat} (hx : ev σ x = Sv a)
    (hlo : Bd σ lo 0 l) (hhi : Bd σ hi a.length h) (h1 : l ≤ h) (h2 : h ≤ a.length) : Rn P σ w ⟨dst, .slice t x lo hi none, ty, pos, af, g⟩ (Sv ((a.drop l).take (h - l))) := by
  show (execOp (ev σ) _).run P w = _
  have hsz : (ByteArray.mk a.toArray).size = a.length := by simp [ByteArray.size]
  have hb := run_bounds (P := P) (w := w) (b := false) (len := a.length) (cap := a.length) (mx := none) (m := a.length) hlo hhi rfl (by simp) h1 h2 (Nat.le_refl _)
  simp only [Option.map_none] at hb
  have he : (ByteArray.mk a.toArray).extract l h = ByteArray.mk ((a.drop l).take (h - l)).toArray := by
    apply ByteArray.ext
    rw [ByteArray.data_extract]
    apply Array.ext'
    simp
  simp only [execOp, Instr.sliceAt, Instr.slice, Sem.run_bind, run_underlying hu, hx, Sv, Result.andThen_ok, hsz, Option.map_none, Option.isSome_none, Bool.false_eq_true, if_false, hb, Sem.run_pure, he]

/-! ### equality -/
def EqS (P : Program) (m : Nat) (t : TypeId) (a b : Value) (r : Bool) : Prop := ∀ d w, m ≤ d → (Op.equalIn d t a b).run P w = .ok r w
theorem eqs_int {t : TypeId} {k k' : IntKind} {a b : Int} (h : P.underlying t = some (.int k')) : EqS P 1 t (.int k a) (.int k b) (decide (a = b)) := by
  intro d w hd; obtain ⟨d, rfl⟩ : ∃ e, d = e + 1 := ⟨d - 1, by omega⟩
  rw [run_equalIn_int w d t k k' a b h]; rfl
theorem eqs_bool {t : TypeId} {a b : Bool} (h : P.underlying t = some .bool) : EqS P 1 t (.bool a) (.bool b) (decide (a = b)) := by
  intro d w hd; obtain ⟨d, rfl⟩ : ∃ e, d = e + 1 := ⟨d - 1, by omega⟩
  rw [run_equalIn_bool' w d t a b h]; cases a <;> cases b <;> rfl
theorem eqs_str {t : TypeId} {a b : Str} (h : P.underlying t = some .string) : EqS P 1 t (Sv a) (Sv b) (decide (a = b)) := by
  intro d w hd; obtain ⟨d, rfl⟩ : ∃ e, d = e + 1 := ⟨d - 1, by omega⟩
  have e := run_equalIn_string (P := P) w d t ⟨a.toArray⟩ ⟨b.toArray⟩ h
  simp only [Sv]
  rw [e]
  have e1 : ∀ x : Str, (ByteArray.mk x.toArray).toList = x := fun x => by rw [ByteArray.toList_eq]
  rw [e1, e1]
  by_cases hab : a = b
  · subst hab; simp
  · simp [hab]
/-- A part of a struct's cells. -/
def Part (P : Program) (t : TypeId) (xs : Array Value) (off : Nat) (v : Value) : Prop := ∀ w, (part t xs off).run P w = .ok v w
theorem part_1 {t : TypeId} (h : plainT P t) {xs : Array Value} {off : Nat} {v : Value} (hv : xs[off]? = some v) : Part P t xs off v := fun w => by simp [part, h.agg, hv]
/-- The fields' names, types, places. -/
def fieldsT (P : Program) (t : TypeId) : List (String × TypeId × Nat) := (P.fieldsOf t).toList.map fun f => (f.name, f.type, f.offset)
inductive EqF (P : Program) (m : Nat) (xs ys : Array Value) : List (String × TypeId × Nat) → Bool → Prop
  | nil : EqF P m xs ys [] true
  | cons {nm : String} {t : TypeId} {off : Nat} {fs : List (String × TypeId × Nat)} {a b : Value} {r s : Bool} : (nm == "_") = false → Part P t xs off a → Part P t ys off b → EqS P m t a b r → EqF P m xs ys fs s → EqF P m xs ys ((nm, t, off) :: fs) (r && s)
theorem EqF.run {m : Nat} {xs ys : Array Value} {d : Nat} (hd : m ≤ d) (w : World) : ∀ (fs : List Field) {r : Bool}, EqF P m xs ys (fs.map fun f => (f.name, f.type, f.offset)) r → (Op.eqFields d xs ys fs).run P w = .ok r w
  | [], r, h => by cases h; rfl
  | f :: fs, r, h => by
    cases h with
    | cons hn ha hb he ht =>
      have hn' : f.name ≠ "_" := by simpa using hn
      have ih := EqF.run hd w fs ht
      rename_i r s
      simp only [Op.eqFields, if_pos hn', Sem.run_bind, ha w, hb w, he d w hd, Result.andThen_ok, Sem.run_ite, Sem.run_pure, ih]
      cases r <;> simp
theorem eqs_struct {t : TypeId} {m : Nat} {xs ys : Array Value} {r : Bool} (hk : (match P.underlying t with | some (.struct _) => true | _ => false) = true) (hp : P.stoodInHeld t = false) {fs : List (String × TypeId × Nat)} (hf : fieldsT P t = fs) (h : EqF P m xs ys fs r) : EqS P (m + 1) t (.agg xs) (.agg ys) r := by
  intro d w hd; obtain ⟨d, rfl⟩ : ∃ e, d = e + 1 := ⟨d - 1, by omega⟩
  subst hf
  have hu : P.underlying t = some (.struct (P.fieldsOf t)) := by
    unfold Program.fieldsOf
    cases hu : P.underlying t with
    | none => simp [hu] at hk
    | some d => cases d <;> simp [hu] at hk; rfl
  rw [run_equalIn_struct w d t xs ys hu hp]
  exact EqF.run (by omega) w _ h
theorem rn_eqlS {t u : TypeId} {x y : Operand} {xs ys : Array Value} {m : Nat} {r : Bool} (hx : ev σ x = .agg xs) (hy : ev σ y = .agg ys) (hg : P.eqGuardType P.depth t = false) (hm : m ≤ 10000) (h : EqS P m t (.agg xs) (.agg ys) r) :
    Rn P σ w ⟨dst, .binOp .eql t x y u, ty, pos, af, g⟩ (.bool r) := by
  show (execOp (ev σ) _).run P w = _
  simp only [execOp, hx, hy]
  rw [Sem.run_bind, Sem.run_bind, run_eqGuard_agg w .eql t x y xs ys hg, Result.andThen_ok, run_eql_struct, h 10000 w hm]
  rfl
theorem rn_neqS {t u : TypeId} {x y : Operand} {xs ys : Array Value} {m : Nat} {r : Bool} (hx : ev σ x = .agg xs) (hy : ev σ y = .agg ys) (hg : P.eqGuardType P.depth t = false) (hm : m ≤ 10000) (h : EqS P m t (.agg xs) (.agg ys) r) :
    Rn P σ w ⟨dst, .binOp .neq t x y u, ty, pos, af, g⟩ (.bool (!r)) := by
  show (execOp (ev σ) _).run P w = _
  simp only [execOp, hx, hy]
  rw [Sem.run_bind, Sem.run_bind, run_eqGuard_agg w .neq t x y xs ys hg, Result.andThen_ok, run_neq_struct, h 10000 w hm]
  rfl
/-- A function that is there is not nil. -/
theorem rn_func_eql {t u : TypeId} (ht : (match P.underlying t with | some (.func ..) => true | _ => false) = true) {x y : Operand} {f : Go.Fn} {fi ca : Array Value} (hx : ev σ x = .func f fi ca) (hy : ev σ y = .nilFunc) :
    Rn P σ w ⟨dst, .binOp .eql t x y u, ty, pos, af, g⟩ (.bool false) := by
  show (execOp (ev σ) _).run P w = _
  have h1' : ∀ d, (Op.equalIn (d + 1) t (.func f fi ca) .nilFunc).run P w = .ok false w := by
    intro d
    cases hu : P.underlying t with
    | none => simp [hu] at ht
    | some d => cases d <;> simp [hu] at ht; simp only [Op.equalIn, Sem.run_bind, run_underlying hu, Result.andThen_ok, Sem.run_pure]
  have h1 := h1' 9999
  have h2 : (binOp .eql t (.func f fi ca) .nilFunc).run P w = .ok (.bool false) w := by
    show (do pure (Value.bool (← Op.equal t (.func f fi ca) .nilFunc))).run P w = _
    rw [Sem.run_bind]
    rw [show Op.equal t (.func f fi ca) .nilFunc = Op.equalIn (9999 + 1) t (.func f fi ca) .nilFunc from rfl, h1]
    rfl
  have h3 : (eqGuard .eql t x y (.func f fi ca) .nilFunc).run P w = .ok () w := rfl
  simp only [execOp, hx, hy]
  rw [Sem.run_bind, Sem.run_bind, h3, Result.andThen_ok, h2]
  rfl

/-! ### literal structs -/
/-- The fields' places and sizes. -/
def placesT (P : Program) (t : TypeId) : List (Nat × Nat) := (P.fieldsOf t).toList.map fun f => (f.offset, ((P.info? f.type).map (·.size)).getD 0)
def fillL (pl : List (Nat × Nat)) (cs : List Value) : List (Nat × Value) → List Value
  | [] => cs
  | (i, v) :: rest => fillL pl (patch cs (pl[i]?.getD (0, 0)).1 v.cells.toList) rest
theorem fillS_spec (pl : List (Nat × Nat)) : ∀ (parts : List (Nat × Value)) (cs : Array Value), (∀ p ∈ parts, ∃ o s, pl[p.1]? = some (o, s) ∧ p.2.cells.size = s ∧ o + s ≤ cs.size) →
    ∃ cs', Instr.fill (pl.toArray[·]?) cs parts = some cs' ∧ cs'.toList = fillL pl cs.toList parts
  | [], cs, _ => ⟨cs, rfl, rfl⟩
  | (i, v) :: parts, cs, h => by
    obtain ⟨o, s, h0, h1, h2⟩ := h (i, v) (by simp)
    simp only at h0 h1 h2
    have hf := foldl_set o v.cells.toList 0 cs (by simp; omega)
    have e1 : (v.cells.zipIdx.foldl (fun cs (x : Value × Nat) => cs.setIfInBounds (o + x.2) x.1) cs).toList = patch cs.toList o v.cells.toList := by
      rw [← Array.foldl_toList, Array.toList_zipIdx]; simpa using hf
    have hlen : (v.cells.zipIdx.foldl (fun cs (x : Value × Nat) => cs.setIfInBounds (o + x.2) x.1) cs).size = cs.size := by
      rw [← Array.length_toList, e1, patch_length (by simp; omega)]; simp
    obtain ⟨cs', h3, h4⟩ := fillS_spec pl parts _ (fun p hp => by rw [hlen]; exact h p (by simp [hp]))
    refine ⟨cs', ?_, ?_⟩
    · have h0' : pl.toArray[i]? = some (o, s) := by simpa using h0
      simp only [Instr.fill, h0']
      rw [if_neg (by simp; omega)]
      exact h3
    · rw [h4, e1]; simp [fillL, h0]
/-- A struct type's places and its zero value's cells. -/
structure BuildT (P : Program) (t : TypeId) (pl : List (Nat × Nat)) (z : List Value) : Prop where
  isS : (match P.underlying t with | some (.struct _) => true | _ => false) = true
  all : (P.fieldsOf t).toList.all (fun f => (P.info? f.type).isSome) = true
  places : placesT P t = pl
  zero : ((P.info? t).bind (·.zero)).map (fun v => v.cells.toList) = some z
theorem rn_build {t : TypeId} {pl : List (Nat × Nat)} {z : List Value} (hT : BuildT P t pl z) {parts : List (Nat × Operand)} {vals : List (Nat × Value)} {cs : List Value} (hv : parts.map (fun p => (p.1, ev σ p.2)) = vals)
    (hp : ∀ p ∈ vals, ∃ o s, pl[p.1]? = some (o, s) ∧ p.2.cells.size = s ∧ o + s ≤ z.length) (hr : fillL pl z vals = cs) :
    Rn P σ w ⟨dst, .build t parts.toArray, ty, pos, af, g⟩ (.agg cs.toArray) := by
  show (execOp (ev σ) _).run P w = _
  have hu : P.underlying t = some (.struct (P.fieldsOf t)) := by
    have := hT.isS
    unfold Program.fieldsOf
    cases hu : P.underlying t with
    | none => simp [hu] at this
    | some d => cases d <;> simp [hu] at this; rfl
  obtain ⟨i, v, hi, hz, hzl⟩ : ∃ i v, P.info? t = some i ∧ i.zero = some v ∧ v.cells.toList = z := by
    have := hT.zero
    cases hi : P.info? t with
    | none => simp [hi] at this
    | some i =>
      cases hz : i.zero with
      | none => simp [hi, hz] at this
      | some v => exact ⟨i, v, rfl, hz, by simpa [hi, hz] using this⟩
  have hparts : (parts.toArray.map fun (x : Nat × Operand) => (x.1, ev σ x.2)) = vals.toArray := by rw [← hv]; simp
  have hm : ∀ (fs : List Field), fs.all (fun f => (P.info? f.type).isSome) = true → (fs.mapM (m := Sem) fun f => do pure (f.offset, ← sizeOf f.type)).run P w = .ok (fs.map fun f => (f.offset, ((P.info? f.type).map (·.size)).getD 0)) w := by
    intro fs
    induction fs with
    | nil => intro _; rfl
    | cons f fs ih =>
      intro h
      simp only [List.all_cons, Bool.and_eq_true] at h
      obtain ⟨i, hi⟩ := Option.isSome_iff_exists.1 h.1
      rw [List.mapM_cons]
      simp only [Sem.run_bind, run_sizeOf' hi, Result.andThen_ok, Sem.run_pure, ih h.2, List.map_cons, hi, Option.map_some, Option.getD_some]
  have hm' : ((P.fieldsOf t).mapM (m := Sem) fun f => do pure (f.offset, ← sizeOf f.type)).run P w = .ok pl.toArray w := by
    rw [Array.mapM_eq_mapM_toList, Sem.run_map, hm _ hT.all]
    have := hT.places
    unfold placesT at this
    rw [this]; rfl
  obtain ⟨cs', hf1, hf2⟩ := fillS_spec pl vals v.cells (fun p hp' => by have := hp p hp'; rw [← hzl] at this; simpa using this)
  rw [hzl, hr] at hf2
  have hcs : cs' = cs.toArray := by rw [← hf2]
  subst hcs
  simp only [execOp, Instr.build, hparts, zeroValue, typeInfo, Sem.run_bind, run_program, hi, Result.andThen_ok, Sem.run_pure, hz, hu, hf1, hm', run_underlying hu]
end Go.Proofs.YthcclgoidchkdaaDoorC
