/- Writing into slices of one's own, making and copying slices, contracts of functions that write, in the calculus; each rule holds of whatever program. -/
import Derived.Test.YthcclgoidchkdaaDoorCoreN
import Derived.Laws.Cover3
set_option linter.unusedVariables false
set_option linter.unusedSimpArgs false
namespace Go.Proofs.YthcclgoidchkdaaDoorC
open Go.RowKit
variable {ro : Option Nat} {P : Program} {n : Nat} {Q : Post} {σ : Env} {D : List Deferred} {w : World} {dst : Option Nat} {ty : TypeId} {pos : String} {af : Array Edge} {g : Option (Nat × Bool)}
variable {ops rest : List Oper} {K : Ops}

/-! ### contracts of functions that write -/
def FnM (P : Program) (M : Nat → Prop) (f : FuncId) (args : Array Value) (w : World) (R : Value → World → Prop) : Prop :=
  Calls P f args w fun e w' => ∃ v, e = .returned v ∧ Ext M w w' ∧ R v w'
theorem fnM_of_W {M : Nat → Prop} {f : FuncId} {fn : Func} {c : Code} {args : List Value} {R : Value → World → Prop} (hf : P.funcs[f]? = some fn) (hb : fn.body = some c) (hk : okc fn.ntmps c = true) (hl' : Nat.ble args.length fn.ntmps = true)
    (h : W none P fn.ntmps c (RetQ P fn.results.toList (fun v w' => Ext M w w' ∧ R v w')) (env0 args) [] w) : FnM P M f args.toArray w R :=
  calls_of_W hf hb hk hl' h
theorem wl_callM {M : Nat → Prop} {f : FuncId} {as : List Operand} {ts : Array TypeId} {args : List Value} {R : Value → World → Prop} (hf : entersB P f = true) (ha : as.map (ev σ) = args) (h : FnM P M f args.toArray w R)
    (k : ∀ v w', Ext M w w' → R v w' → wl P ops rest K (put σ dst v) w') : wl P ops (⟨dst, .call ⟨.value (.func f), as.toArray, ts⟩, ty, pos, af, none⟩ :: rest) K σ w := by
  show step1 P ops _ σ w _
  rw [step1_none]; unfold op1
  have e : (execOp (ev σ) ⟨dst, .call ⟨.value (.func f), as.toArray, ts⟩, ty, pos, af, none⟩).run P w = .ok (.enter f args.toArray) w := by
    simp [execOp, resolve, ev, ha, Deferred.ofValue, invoke, run_enters hf]
  rw [e]
  exact Calls.mono h fun e w' hx => by obtain ⟨v, h1, h2, h3⟩ := hx; exact ⟨v, h1, k v w' h2 h3⟩

/-! ### rows -/
def patchR (rows : List (List Value)) (l : Nat) (rs : List (List Value)) : List (List Value) := rows.take l ++ rs ++ rows.drop (l + rs.length)
theorem patchR_length {rows : List (List Value)} {l : Nat} {rs : List (List Value)} (h : l + rs.length ≤ rows.length) : (patchR rows l rs).length = rows.length := by simp [patchR]; omega
theorem flat_take {k : Nat} {rows : List (List Value)} (h : ∀ r ∈ rows, r.length = k) (l : Nat) (hl : l ≤ rows.length) : rows.flatten.take (l * k) = (rows.take l).flatten := by
  conv => lhs; rw [← List.take_append_drop l rows, List.flatten_append]
  have e : (rows.take l).flatten.length = l * k := by rw [flat_len (fun r hr => h r (List.mem_of_mem_take hr)), List.length_take, Nat.min_eq_left hl]
  rw [List.take_append_of_le_length (by omega), List.take_of_length_le (by omega)]
theorem flat_drop {k : Nat} {rows : List (List Value)} (h : ∀ r ∈ rows, r.length = k) (l : Nat) (hl : l ≤ rows.length) : rows.flatten.drop (l * k) = (rows.drop l).flatten := by
  conv => lhs; rw [← List.take_append_drop l rows, List.flatten_append]
  have e : (rows.take l).flatten.length = l * k := by rw [flat_len (fun r hr => h r (List.mem_of_mem_take hr)), List.length_take, Nat.min_eq_left hl]
  rw [List.drop_append_of_le_length (by omega), List.drop_of_length_le (by omega), List.nil_append]
theorem flat_patch {k : Nat} {rows rs : List (List Value)} (h : ∀ r ∈ rows, r.length = k) (h2 : ∀ r ∈ rs, r.length = k) (l : Nat) (hl : l + rs.length ≤ rows.length) (sp : List Value) : patch (rows.flatten ++ sp) (l * k) rs.flatten = (patchR rows l rs).flatten ++ sp := by
  have e1 : rows.flatten.length = rows.length * k := flat_len h
  have e2 : rs.flatten.length = rs.length * k := flat_len h2
  have e3 : l * k + rs.length * k ≤ rows.length * k := by rw [← Nat.add_mul]; exact Nat.mul_le_mul_right _ hl
  unfold patch patchR
  rw [List.take_append_of_le_length (by omega), flat_take h l (by omega), e2, ← Nat.add_mul, List.drop_append_of_le_length (by rw [e1]; exact Nat.mul_le_mul_right _ hl), flat_drop h _ hl]
  simp
/-- A call's own slice, its elements from number l on written over. -/
theorem Ow.write {v : Value} {b k : Nat} {rows : List (List Value)} {spare : List Value} (h : Ow w v b k rows spare) {rs : List (List Value)} (hr : ∀ r ∈ rs, r.length = k) (h1 : ∀ r ∈ rs, ∀ u ∈ r, u.oneCell' = true) (l : Nat) (hl : l + rs.length ≤ rows.length) :
    ∃ w', (storeCells ⟨b, l * k, none⟩ rs.flatten).run P w = .ok () w' ∧ Ext (fun i => i = b) w w' ∧ Ow w' v b k (patchR rows l rs) spare ∧ w'.heap.size = w.heap.size := by
  obtain ⟨⟨c, hv, hc1, hc2, hc3⟩, ⟨T, hbox⟩, heach⟩ := h
  have e1 := flat_len heach
  have e2 := flat_len hr
  obtain ⟨w', h2, h3, h4, h5⟩ := run_storeBox (P := P) b T rs.flatten (l * k) 0 (rows.flatten ++ spare) w hbox (fun u hu => by obtain ⟨r, hr', hu⟩ := List.mem_flatten.1 hu; exact h1 r hr' u hu)
    (by simp only [List.length_append]; rw [e1, e2, Nat.add_zero, ← Nat.add_mul]; exact Nat.le_trans (Nat.mul_le_mul_right _ hl) (Nat.le_add_right _ _))
  rw [Nat.add_zero, flat_patch heach hr l hl] at h4
  refine ⟨w', h2, h3, ⟨⟨c, by rw [patchR_length hl]; exact hv, by rw [patchR_length hl]; exact hc1, hc2, by rw [patchR_length hl]; exact hc3⟩, ⟨T, h4⟩, fun r hr' => ?_⟩, h5⟩
  simp only [patchR, List.append_assoc, List.mem_append] at hr'
  rcases hr' with hr' | hr' | hr'
  · exact heach r (List.mem_of_mem_take hr')
  · exact hr r hr'
  · exact heach r (List.mem_of_mem_drop hr')

/-! ### make, copy, append, clear -/
theorem zeros_flat {z : List Value} {k n : Nat} {zc : Array Value} (hz : z.length = k) (hzc : zc.toList = z) : (Builtin.zeroCells zc n).toList = (List.replicate n z).flatten := by
  have hs : zc.size = k := by rw [← hz, ← hzc]; simp
  apply List.ext_getElem
  · simp [Builtin.zeroCells, hz, hs]
  · intro i h1 h2
    simp only [List.length_flatten, List.map_replicate, hz, List.sum_replicate_nat] at h2
    have hk0 : 0 < k := Nat.pos_of_ne_zero (fun e => by simp [e] at h2)
    have hik : i / k < n := Nat.div_lt_of_lt_mul (by rw [Nat.mul_comm]; exact h2)
    have e1 : (List.replicate n z).flatten[i / k * k + i % k]? = ((List.replicate n z)[i / k]'(by simpa using hik))[i % k]? := flat_at (k := k) (fun r hr => by rw [List.eq_of_mem_replicate hr, hz]) (i / k) (i % k) (by simpa using hik) (Nat.mod_lt _ hk0)
    rw [Nat.div_add_mod' i k] at e1
    have e2 : (List.replicate n z).flatten[i]? = some (z[i % k]'(by rw [hz]; exact Nat.mod_lt _ hk0)) := by rw [e1]; simp
    obtain ⟨_, e3⟩ := List.getElem?_eq_some_iff.1 e2
    rw [e3]
    have hlt : i % zc.size < zc.size := Nat.mod_lt _ (by omega)
    simp only [Builtin.zeroCells, Array.getElem_toList, Array.getElem_map, Array.getElem_range]
    have e5 : zc[i % zc.size]! = zc[i % zc.size]'hlt := by simp [hlt]
    rw [e5]
    subst hzc
    simp [hs]
section
variable {t e : TypeId} {k bytes : Nat} {z : List Value}
/-- make([]T, m) -/
theorem wl_make (hT : SliceT P t e k bytes z) (hz : z.length = k) {l c : Operand} {m d : Nat} (hl : ev σ l = .int .i64 m) (hc : ev σ c = .int .i64 m) (hb : m * bytes ≤ 140737488355328) (hm : m ≤ big)
    (kk : ∀ w' b, w.heap.size ≤ b → Ext Non w w' → Ow w' (.slice (some ⟨b, 0, none⟩) m m) b k (List.replicate m z) [] → wl P ops rest K (upd σ d (.slice (some ⟨b, 0, none⟩) m m)) w') : wl P ops (⟨some d, .makeSlice t l c, ty, pos, af, none⟩ :: rest) K σ w := by
  obtain ⟨inf, v0, i1, i2, i3, i4, i5⟩ := hT.inf
  have hcells : ∀ zr : Array Value, (m * k = 0 → zr = #[]) → (¬ m * k = 0 → zr = v0.cells) → ((Array.range (m * k)).map (zr[· % zr.size]!)).toList = (List.replicate m z).flatten := by
    intro zr h0 h1
    by_cases hmk : m * k = 0
    · rw [h0 hmk, hmk]
      have : (List.replicate m z).flatten.length = 0 := by simp [hz, hmk]
      rw [List.length_eq_zero_iff.1 this]; simp
    · rw [h1 hmk]
      have := zeros_flat (n := m) hz i5
      have hs : v0.cells.size = k := by rw [← hz, ← i5]; simp
      rw [← this, Builtin.zeroCells, hs]
  refine wl_new (w' := w.alloc (.cells ((Array.range (m * k)).map ((if m * k = 0 then #[] else v0.cells)[· % (if m * k = 0 then #[] else v0.cells).size]!)) e)) (v := .slice (some ⟨w.heap.size, 0, none⟩) m m) ?_
    (kk _ _ (Nat.le_refl _) (Ext.alloc _ _) ⟨⟨m, by simp, by simp, hm, by simp⟩, ?_, fun r hr => by rw [List.eq_of_mem_replicate hr, hz]⟩)
  · show (execOp (ev σ) _).run P w = _
    have hw : IntKind.i64.wrap (m : Int) = m := wrap_id (by simp only [big] at hm; omega)
    have hmax : ¬ ((bytes : Int) * (m : Int) > 2 ^ 48) := by
      have : ((bytes * m : Nat) : Int) ≤ 140737488355328 := by rw [Nat.mul_comm]; omega
      rw [Int.natCast_mul] at this; omega
    have hneg : ¬ ((m : Int) < 0) := by omega
    have hai : ∀ w', (asInt (.int .i64 (m : Int))).run P w' = .ok (m : Int) w' := fun w' => by simp [asInt, asIntOf]
    have hmax' : ¬ ((281474976710656 : Int) < (bytes : Int) * (m : Int)) := by omega
    by_cases h0 : m * k = 0
    · simp [execOp, Instr.makeSlice, hl, hc, hai, run_underlying hT.under, typeInfo, i1, hw, i3, hmax', hneg, run_sizeOf' i1, i2, h0, newRow]
    · simp [execOp, Instr.makeSlice, hl, hc, hai, run_underlying hT.under, typeInfo, i1, hw, i3, hmax', hneg, run_sizeOf' i1, i2, h0, newRow, zeroValue, i4]
  · have := box_alloc w ((Array.range (m * k)).map ((if m * k = 0 then #[] else v0.cells)[· % (if m * k = 0 then #[] else v0.cells).size]!)) e
    rw [hcells _ (fun h => by rw [if_pos h]) (fun h => by rw [if_neg h])] at this
    rw [List.append_nil]; exact this
end
theorem wrap_u64 {a : Int} (h : 0 ≤ a ∧ a ≤ 18446744073709551615) : IntKind.u64.wrap a = a := by
  have h1 := h.1
  have h2 := h.2
  simp only [IntKind.wrap, IntKind.signed, IntKind.bits]
  simp
  omega
/-- An element of one's own slice written over: an element of one cell. -/
theorem wl_storeE {t : TypeId} (hT : plainT P t) {x y : Operand} {v u : Value} {b i : Nat} {rows : List (List Value)} {spare : List Value} (hx : ev σ x = .pointer (some ((⟨b, 0, none⟩ : Addr).add (i * 1)))) (hy : ev σ y = u) (h1 : u.oneCell' = true) (hc : u.cells = #[u]) (hs : Ow w v b 1 rows spare) (hi : i < rows.length)
    (kk : ∀ w', Ext (fun i => i = b) w w' → Ow w' v b 1 (rows.set i [u]) spare → wl P ops rest K σ w') : wl P ops (⟨none, .store t x y, ty, pos, af, none⟩ :: rest) K σ w := by
  obtain ⟨w', e1, e2, e3, e4⟩ := hs.write (P := P) (rs := [[u]]) (by simp) (by simpa using h1) i (by simp; omega)
  have hp : patchR rows i [[u]] = rows.set i [u] := by
    unfold patchR
    rw [List.set_eq_take_append_cons_drop, if_pos hi]; simp
  rw [hp] at e3
  refine wl_do (w' := w') ?_ (kk w' e2 e3)
  show (execOp (ev σ) _).run P w = _
  rw [add_at, Nat.zero_add] at hx
  have e1' : (storeCells ⟨b, i * 1, none⟩ [u]).run P w = .ok () w' := by simpa using e1
  have e7 : (storeCells ⟨b, i, none⟩ [u]).run P w = .ok () w' := by rw [Nat.mul_one] at e1'; exact e1'
  have e8 : ev σ x = .pointer (some ⟨b, i, none⟩) := by rw [hx, Nat.mul_one]
  simp [execOp, e8, hy, Instr.storeAt, Instr.sureAddr, storeVar, run_size hT.2, hc, e7]
theorem one1 {v : Value} (h : v.oneCell' = true) : ∀ u ∈ [v], u.oneCell' = true := by intro u hu; rw [List.mem_singleton] at hu; rw [hu]; exact h
/-- A region whose order is drawn, in which blocks of F's are written. -/
theorem W_drawF (F : Nat → Prop) {id : Nat} {l : List Oper} (hm : P.follows .mixedOrders = true)
    (h : ∀ w1, Ext Non w w1 → wd P l (fun A => Ext F w1 A) (fun σ' w' => Q .normal σ' D w') l.length (Array.replicate l.length false) σ w1) : W ro P n (.region id l.toArray true) Q σ D w :=
  W_draw _ hm (h _ (Ext.refl _ _).drew)
/-- The call's own slice, of a block that is none of N's and not older than lo. -/
def OwX (lo : Nat) (N : Nat → Prop) (A : World) (v : Value) (o : Option Nat) (k : Nat) (rows : List (List Value)) : Prop := OwO A v o k rows ∧ ∀ i, o = some i → ¬ N i ∧ lo ≤ i
theorem OwX.ext {lo : Nat} {N : Nat → Prop} {A B : World} {v : Value} {o : Option Nat} {k : Nat} {rows : List (List Value)} (h : OwX lo N A v o k rows) {M : Nat → Prop} (hE : Ext M A B) (hm : ∀ i, o = some i → ¬ M i) : OwX lo N B v o k rows := ⟨h.1.ext hE hm, h.2⟩
end Go.Proofs.YthcclgoidchkdaaDoorC
