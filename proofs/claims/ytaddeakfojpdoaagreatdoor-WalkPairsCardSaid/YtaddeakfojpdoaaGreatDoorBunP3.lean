/- Writing into slices of one's own, making and copying slices, contracts of functions that write, in the calculus; each rule holds of whatever program. -/
import Derived.Test.YtaddeakfojpdoaaGreatDoorBunP2
import Derived.Laws.Cover3
import Derived.Laws.Externs
import Derived.Lib.Bytealg
import Derived.Laws.IdiomStrings
import Derived.Test.YtaddeakfojpdoaaGreatDoorProg
set_option linter.unusedVariables false
set_option linter.unusedSimpArgs false
namespace Go.Proofs.YtaddeakfojpdoaaGreatDoorC
open Go.RowKit
variable {ro : Option Nat} {P : Program} {n : Nat} {Q : Post} {σ : Env} {D : List Deferred} {w : World} {dst : Option Nat} {ty : TypeId} {pos : String} {af : Array Edge} {g : Option (Nat × Bool)}
variable {ops rest : List Oper} {K : Ops}

/-! ### contracts of functions that write -/
def FnM (P : Program) (M : Nat → Prop) (f : FuncId) (args : Array Value) (w : World) (R : Value → World → Prop) : Prop :=
  Calls P f args w fun e w' => ∃ v, e = .returned v ∧ Ext M w w' ∧ R v w'
theorem fnM_of_W {M : Nat → Prop} {f : FuncId} {fn : Func} {c : Code} {args : List Value} {R : Value → World → Prop} (hf : P.funcs[f]? = some fn) (hb : fn.body = some c) (hk : okc fn.ntmps c = true) (hl' : Nat.ble args.length fn.ntmps = true)
    (h : W none P fn.ntmps c (RetQ P fn.results.toList (fun v w' => Ext M w w' ∧ R v w')) (env0 args) [] w) : FnM P M f args.toArray w R :=
  calls_of_W hf hb hk hl' h
theorem wl_callM {M : Nat → Prop} {f : FuncId} {ags : List Operand} {ts : Array TypeId} {args : List Value} {R : Value → World → Prop} (hf : entersB P f = true) (ha : ags.map (ev σ) = args) (h : FnM P M f args.toArray w R)
    (k : ∀ v w', Ext M w w' → R v w' → wl P ops rest K (put σ dst v) w') : wl P ops (⟨dst, .call ⟨.value (.func f), ags.toArray, ts⟩, ty, pos, af, none⟩ :: rest) K σ w := by
  show step1 P ops _ σ w _
  rw [step1_none]; unfold op1
  have e : (execOp (ev σ) ⟨dst, .call ⟨.value (.func f), ags.toArray, ts⟩, ty, pos, af, none⟩).run P w = .ok (.enter f args.toArray) w := by
    simp [execOp, resolve, ev, ha, Deferred.ofValue, invoke, run_enters hf]
  rw [e]
  exact Calls.mono h fun e w' hx => by obtain ⟨v, h1, h2, h3⟩ := hx; exact ⟨v, h1, k v w' h2 h3⟩

/-! ### rows -/
def patchR (rows : List (List Value)) (l : Nat) (rs : List (List Value)) : List (List Value) := rows.take l ++ rs ++ rows.drop (l + rs.length)
theorem patchR_length {rows : List (List Value)} {l : Nat} {rs : List (List Value)} (h : l + rs.length ≤ rows.length) : (patchR rows l rs).length = rows.length := by simp [patchR]; omega
theorem flat_take {k : Nat} {rows : List (List Value)} (h : ∀ r ∈ rows, r.length = k) (l : Nat) (hl : l ≤ rows.length) : rows.flatten.take (l * k) = (rows.take l).flatten := by
  conv => lhs; rw [← List.take_append_drop l rows, List.flatten_append]
  have e : (rows.take l).flatten.length = l * k := by rw [flat_len (fun r hr => h r (List.mem_of_mem_take hr)), List.length_take, Nat.min_eq_left hl]
  rw [List.take_append_of_le_length (by omega), List.take_of_length_le (by omega)]
theorem flat_drop {k : Nat} {rows : List (List Value)} (h : ∀ r ∈ rows, r.length = k) (l : Nat) (hl : l ≤ rows.length) : rows.flatten.drop (l * k) = (rows.drop l).flatten := by
  conv => lhs; rw [← List.take_append_drop l rows, List.flatten_append]
  have e : (rows.take l).flatten.length = l * k := by rw [flat_len (fun r hr => h r (List.mem_of_mem_take hr)), List.length_take, Nat.min_eq_left hl]
  rw [List.drop_append_of_le_length (by omega), List.drop_of_length_le (by omega), List.nil_append]
theorem flat_patch {k : Nat} {rows rs : List (List Value)} (h : ∀ r ∈ rows, r.length = k) (h2 : ∀ r ∈ rs, r.length = k) (l : Nat) (hl : l + rs.length ≤ rows.length) (sp : List Value) : patch (rows.flatten ++ sp) (l * k) rs.flatten = (patchR rows l rs).flatten ++ sp := by
  have e1 : rows.flatten.length = rows.length * k := flat_len h
  have e2 : rs.flatten.length = rs.length * k := flat_len h2
  have e3 : l * k + rs.length * k ≤ rows.length * k := by rw [← Nat.add_mul]; exact Nat.mul_le_mul_right _ hl
  unfold patch patchR
  rw [List.take_append_of_le_length (by omega), flat_take h l (by omega), e2, ← Nat.add_mul, List.drop_append_of_le_length (by rw [e1]; exact Nat.mul_le_mul_right _ hl), flat_drop h _ hl]
  simp
/-- A call's own slice, its elements from number l on written over. -/
theorem Ow.write {v : Value} {b k : Nat} {rows : List (List Value)} {spare : List Value} (h : Ow w v b k rows spare) {rs : List (List Value)} (hr : ∀ r ∈ rs, r.length = k) (h1 : ∀ r ∈ rs, ∀ u ∈ r, u.oneCell' = true) (l : Nat) (hl : l + rs.length ≤ rows.length) :
    ∃ w', (storeCells ⟨b, l * k, none⟩ rs.flatten).run P w = .ok () w' ∧ Ext (fun i => i = b) w w' ∧ Ow w' v b k (patchR rows l rs) spare ∧ w'.heap.size = w.heap.size := by
  obtain ⟨⟨c, hv, hc1, hc2, hc3⟩, ⟨T, hbox⟩, heach⟩ := h
  have e1 := flat_len heach
  have e2 := flat_len hr
  obtain ⟨w', h2, h3, h4, h5⟩ := run_storeBox (P := P) b T rs.flatten (l * k) 0 (rows.flatten ++ spare) w hbox (fun u hu => by obtain ⟨r, hr', hu⟩ := List.mem_flatten.1 hu; exact h1 r hr' u hu)
    (by simp only [List.length_append]; rw [e1, e2, Nat.add_zero, ← Nat.add_mul]; exact Nat.le_trans (Nat.mul_le_mul_right _ hl) (Nat.le_add_right _ _))
  rw [Nat.add_zero, flat_patch heach hr l hl] at h4
  refine ⟨w', h2, h3, ⟨⟨c, by rw [patchR_length hl]; exact hv, by rw [patchR_length hl]; exact hc1, hc2, by rw [patchR_length hl]; exact hc3⟩, ⟨T, h4⟩, fun r hr' => ?_⟩, h5⟩
  simp only [patchR, List.append_assoc, List.mem_append] at hr'
  rcases hr' with hr' | hr' | hr'
  · exact heach r (List.mem_of_mem_take hr')
  · exact hr r hr'
  · exact heach r (List.mem_of_mem_drop hr')

/-! ### make, copy, append, clear -/
theorem zeros_flat {z : List Value} {k n : Nat} {zc : Array Value} (hz : z.length = k) (hzc : zc.toList = z) : (Builtin.zeroCells zc n).toList = (List.replicate n z).flatten := by
  have hs : zc.size = k := by rw [← hz, ← hzc]; simp
  apply List.ext_getElem
  · simp [Builtin.zeroCells, hz, hs]
  · intro i h1 h2
    simp only [List.length_flatten, List.map_replicate, hz, List.sum_replicate_nat] at h2
    have hk0 : 0 < k := Nat.pos_of_ne_zero (fun e => by simp [e] at h2)
    have hik : i / k < n := Nat.div_lt_of_lt_mul (by rw [Nat.mul_comm]; exact h2)
    have e1 : (List.replicate n z).flatten[i / k * k + i % k]? = ((List.replicate n z)[i / k]'(by simpa using hik))[i % k]? := flat_at (k := k) (fun r hr => by rw [List.eq_of_mem_replicate hr, hz]) (i / k) (i % k) (by simpa using hik) (Nat.mod_lt _ hk0)
    rw [Nat.div_add_mod' i k] at e1
    have e2 : (List.replicate n z).flatten[i]? = some (z[i % k]'(by rw [hz]; exact Nat.mod_lt _ hk0)) := by rw [e1]; simp
    obtain ⟨_, e3⟩ := List.getElem?_eq_some_iff.1 e2
    rw [e3]
    have hlt : i % zc.size < zc.size := Nat.mod_lt _ (by omega)
    simp only [Builtin.zeroCells, Array.getElem_toList, Array.getElem_map, Array.getElem_range]
    have e5 : zc[i % zc.size]! = zc[i % zc.size]'hlt := by simp [hlt]
    rw [e5]
    subst hzc
    simp [hs]
section
variable {t e : TypeId} {k bytes : Nat} {z : List Value}
/-- make([]T, m) -/
theorem wl_make (hT : SliceT P t e k bytes z) (hz : z.length = k) {l c : Operand} {m d : Nat} (hl : ev σ l = .int .i64 m) (hc : ev σ c = .int .i64 m) (hb : m * bytes ≤ 140737488355328) (hm : m ≤ big)
    (kk : ∀ w' b, w.heap.size ≤ b → Ext Non w w' → Ow w' (.slice (some ⟨b, 0, none⟩) m m) b k (List.replicate m z) [] → wl P ops rest K (upd σ d (.slice (some ⟨b, 0, none⟩) m m)) w') : wl P ops (⟨some d, .makeSlice t l c, ty, pos, af, none⟩ :: rest) K σ w := by
  obtain ⟨inf, v0, i1, i2, i3, i4, i5⟩ := hT.inf
  have hcells : ∀ zr : Array Value, (m * k = 0 → zr = #[]) → (¬ m * k = 0 → zr = v0.cells) → ((Array.range (m * k)).map (zr[· % zr.size]!)).toList = (List.replicate m z).flatten := by
    intro zr h0 h1
    by_cases hmk : m * k = 0
    · rw [h0 hmk, hmk]
      have : (List.replicate m z).flatten.length = 0 := by simp [hz, hmk]
      rw [List.length_eq_zero_iff.1 this]; simp
    · rw [h1 hmk]
      have := zeros_flat (n := m) hz i5
      have hs : v0.cells.size = k := by rw [← hz, ← i5]; simp
      rw [← this, Builtin.zeroCells, hs]
  refine wl_new (w' := w.alloc (.cells ((Array.range (m * k)).map ((if m * k = 0 then #[] else v0.cells)[· % (if m * k = 0 then #[] else v0.cells).size]!)) e)) (v := .slice (some ⟨w.heap.size, 0, none⟩) m m) ?_
    (kk _ _ (Nat.le_refl _) (Ext.alloc _ _) ⟨⟨m, by simp, by simp, hm, by simp⟩, ?_, fun r hr => by rw [List.eq_of_mem_replicate hr, hz]⟩)
  · show (execOp (ev σ) _).run P w = _
    have hw : IntKind.i64.wrap (m : Int) = m := wrap_id (by simp only [big] at hm; omega)
    have hmax : ¬ ((bytes : Int) * (m : Int) > 2 ^ 48) := by
      have : ((bytes * m : Nat) : Int) ≤ 140737488355328 := by rw [Nat.mul_comm]; omega
      rw [Int.natCast_mul] at this; omega
    have hneg : ¬ ((m : Int) < 0) := by omega
    have hai : ∀ w', (asInt (.int .i64 (m : Int))).run P w' = .ok (m : Int) w' := fun w' => by simp [asInt, asIntOf]
    have hmax' : ¬ ((281474976710656 : Int) < (bytes : Int) * (m : Int)) := by omega
    by_cases h0 : m * k = 0
    · simp [execOp, Instr.makeSlice, hl, hc, hai, run_underlying hT.under, typeInfo, i1, hw, i3, hmax', hneg, run_sizeOf' i1, i2, h0, newRow]
    · simp [execOp, Instr.makeSlice, hl, hc, hai, run_underlying hT.under, typeInfo, i1, hw, i3, hmax', hneg, run_sizeOf' i1, i2, h0, newRow, zeroValue, i4]
  · have := box_alloc w ((Array.range (m * k)).map ((if m * k = 0 then #[] else v0.cells)[· % (if m * k = 0 then #[] else v0.cells).size]!)) e
    rw [hcells _ (fun h => by rw [if_pos h]) (fun h => by rw [if_neg h])] at this
    rw [List.append_nil]; exact this
/-- append(s, x...), s without room. -/
theorem wl_grow (hT : SliceT P t e k bytes z) (hz : z.length = k) {M M' : Nat → Prop} {s x : Operand} {d : Nat} {a a2 : Option Addr} {m c m2 c2 : Nat} {rows rows2 : List (List Value)} (hsv : ev σ s = .slice a m c) (hxv : ev σ x = .slice a2 m2 c2)
    (hs : Sl M w (.slice a m c) k rows) (hx : Sl M' w (.slice a2 m2 c2) k rows2) (hg : c < rows.length + rows2.length) (hb : (rows.length + rows2.length) * bytes ≤ 140737488355328) (h63 : rows.length + rows2.length ≤ big)
    (kk : ∀ v' w' b spare, w.heap.size ≤ b → Ext Non w w' → Ow w' v' b k (rows ++ rows2) spare → wl P ops rest K (upd σ d v') w') : wl P ops (⟨some d, .call ⟨.builtin .append, #[s, x], #[t, t]⟩, ty, pos, af, none⟩ :: rest) K σ w := by
  obtain ⟨v', w', sp, h2, h3, h4⟩ := run_append_grow' hT hz hs hx hg hb h63 ty
  refine wl_new (w' := w') (v := v') ?_ (kk v' w' _ sp (Nat.le_refl _) h3 h4)
  show (execOp (ev σ) _).run P w = _
  simp [execOp, resolve, invoke, builtin, hsv, hxv, h2]
/-- append(s, make([]T, x)...), s without room. -/
theorem wl_zeros (hT : SliceT P t e k bytes z) (hz : z.length = k) {ti : TypeId} {ki : IntKind} (hti : P.underlying ti = some (.int ki)) {M : Nat → Prop} {s x : Operand} {d : Nat} {a : Option Addr} {m c q : Nat} {rows : List (List Value)} (hsv : ev σ s = .slice a m c) (hxv : ev σ x = .int .i64 q)
    (hs : Sl M w (.slice a m c) k rows) (hg : c < rows.length + q) (hb : (rows.length + q) * bytes ≤ 140737488355328) (h63 : rows.length + q ≤ big)
    (kk : ∀ v' w' b spare, w.heap.size ≤ b → Ext Non w w' → Ow w' v' b k (rows ++ List.replicate q z) spare → wl P ops rest K (upd σ d v') w') : wl P ops (⟨some d, .call ⟨.builtin .append, #[s, x], #[t, ti]⟩, ty, pos, af, none⟩ :: rest) K σ w := by
  obtain ⟨inf, v0, h1, h2, h3, h4, h5⟩ := hT.inf
  have hm : m = rows.length := by obtain ⟨⟨_, _, h, _⟩, _⟩ := hs; simp only [Value.slice.injEq] at h; exact h.2.1
  subst hm
  have hgrow := growslice_fits hg hb
  have hq : ¬ (281474976710656 < Builtin.nextslicecap (rows.length + q) c * inf.bytes) := by rw [h3]; omega
  have hb63 : ¬ ((9223372036854775807 : Int) < (rows.length : Int) + (q : Int)) := by simp only [big] at h63; omega
  have hroom : ¬ (rows.length + q ≤ c) := by omega
  have hqw : IntKind.i64.wrap (q : Int) = q := wrap_id (by simp only [big] at h63; omega)
  have hqb : ¬ ((281474976710656 : Int) < (q : Int) * (inf.bytes : Int)) := by
    rw [h3]
    have : q * bytes ≤ 140737488355328 := Nat.le_trans (Nat.mul_le_mul_right _ (by omega)) hb
    have h' : ((q * bytes : Nat) : Int) ≤ 140737488355328 := by omega
    rw [Int.natCast_mul] at h'; omega
  have hqn : ¬ ((q : Int) < 0) := by omega
  have hf1 : (Builtin.firstCells k rows.length (.slice a rows.length c)).run P w.drew = .ok rows.flatten.toArray w.drew := Sl.first (w := w.drew) ⟨hs.ex, hs.each⟩
  have hcap := grownCap_ge w (rows.length + q) c e
  have hcap2 := grownCap_le_maxLen w (rows.length + q) c e (by simp only [maxLen, big] at *; omega)
  have hzf := zeros_flat (n := q) hz h5
  have hk0 : q * k = 0 → Builtin.zeroCells v0.cells q = #[] := fun h0 => by
    have : v0.cells.size = k := by rw [← hz, ← h5]; simp
    simp [Builtin.zeroCells, this, h0]
  let W' := ({ w with drawn := w.drawn + 1 } : World).alloc (.cells (rows.flatten.toArray ++ Builtin.zeroCells v0.cells q ++ Builtin.zeroCells v0.cells (grownCap w (rows.length + q) c e - (rows.length + q))) e)
  refine wl_new (w' := W') (v := .slice (some ⟨w.heap.size, 0, none⟩) (rows.length + q) (grownCap w (rows.length + q) c e)) ?_
    (kk _ _ w.heap.size (Builtin.zeroCells v0.cells (grownCap w (rows.length + q) c e - (rows.length + q))).toList (Nat.le_refl _) ?_ ⟨⟨grownCap w (rows.length + q) c e, by simp, by simpa using hcap, by simp only [maxLen, big] at *; omega, ?_⟩, ?_, ?_⟩)
  · show (execOp (ev σ) _).run P w = _
    simp only [execOp, resolve, invoke, builtin]
    have hmax : IntKind.i64.max = 9223372036854775807 := by decide
    have key : (Builtin.append_ #[t, ti] ty #[.slice a rows.length c, .int .i64 (q : Int)]).run P w = .ok (.slice (some ⟨w.heap.size, 0, none⟩) (rows.length + q) (grownCap w (rows.length + q) c e)) W' := by
      have hai : ∀ w', (asInt (.int .i64 (q : Int))).run P w' = .ok (q : Int) w' := fun w' => by simp [asInt, asIntOf]
      simp only [Builtin.append_]
      by_cases h0 : q * k = 0
      · have hz0 := hk0 h0
        simp [run_underlying hT.under, run_underlying hti, run_sizeOf' h1, h2, hai, hqw, hqn, hqb, hroom, typeInfo, h1, hq, hmax, hb63, hf1, h0, zeroValue, h4, newRow, grownCap, Question.forced, W', hz0]
      · simp [run_underlying hT.under, run_underlying hti, run_sizeOf' h1, h2, hai, hqw, hqn, hqb, hroom, typeInfo, h1, hq, hmax, hb63, hf1, h0, zeroValue, h4, newRow, grownCap, Question.forced, W']
    simp [hsv, hxv, key]
  · exact (Ext.alloc { w with drawn := w.drawn + 1 } _).trans (Ext.refl _ _) |> fun h => ⟨h.os, h.tape, h.output, h.size, h.block⟩
  · have : v0.cells.size = k := by rw [← hz, ← h5]; simp
    simp [zero_len, this]
  · have := box_alloc { w with drawn := w.drawn + 1 } (rows.flatten.toArray ++ Builtin.zeroCells v0.cells q ++ Builtin.zeroCells v0.cells (grownCap w (rows.length + q) c e - (rows.length + q))) e
    simp only [Array.toList_append, hzf] at this
    simpa [W'] using this
  · intro r hr
    rcases List.mem_append.1 hr with hr | hr
    · exact hs.each r hr
    · rw [List.eq_of_mem_replicate hr, hz]
/-- copy(d, s), d a part of the call's own slice. -/
theorem wl_copy (hT : SliceT P t e k bytes z) {ts : TypeId} {M' : Nat → Prop} {x y : Operand} {v : Value} {b l dl dc : Nat} {vy : Value} {rows rows2 : List (List Value)} {spare : List Value}
    (hx : ev σ x = .slice (some ⟨b, l * k, none⟩) dl dc) (hy : ev σ y = vy) (hs : Ow w v b k rows spare) (h2 : Sl M' w vy k rows2) (h1 : ∀ r ∈ rows2, ∀ u ∈ r, u.oneCell' = true) (hl : l + min rows2.length dl ≤ rows.length)
    (kk : ∀ w', Ext (fun i => i = b) w w' → Ow w' v b k (patchR rows l (rows2.take dl)) spare → w'.heap.size = w.heap.size → wl P ops rest K (put σ dst (.int .i64 (min rows2.length dl : Nat))) w') : wl P ops (⟨dst, .call ⟨.builtin .copy, #[x, y], #[t, ts]⟩, ty, pos, af, none⟩ :: rest) K σ w := by
  obtain ⟨inf, v0, i1, i2, i3, i4, i5⟩ := hT.inf
  obtain ⟨a2, c2, rfl, _⟩ := h2.len
  have hlen : (rows2.take dl).length = min rows2.length dl := by simp [Nat.min_comm]
  have heach : ∀ r ∈ rows2.take dl, r.length = k := fun r hr => h2.each r (List.mem_of_mem_take hr)
  obtain ⟨w', e1, e2, e3, e4⟩ := hs.write (P := P) heach (fun r hr => h1 r (List.mem_of_mem_take hr)) l (by rw [hlen]; exact hl)
  have hfc : (Builtin.firstCells k (min rows2.length dl) (.slice a2 rows2.length c2)).run P w = .ok (rows2.take dl).flatten.toArray w := by
    have hsl : Sl M' w (.slice a2 (rows2.take dl).length c2) k (rows2.take dl) := by
      obtain ⟨⟨a', c', f1, f2, f3, f4⟩, f5⟩ := h2
      simp only [Value.slice.injEq] at f1
      obtain ⟨rfl, _, rfl⟩ := f1
      refine ⟨⟨a2, c2, rfl, by rw [hlen]; omega, f3, ?_⟩, heach⟩
      rcases f4 with f4 | ⟨bb, o, ha, hb, hn, hc⟩
      · exact .inl (by simp [f4])
      · refine .inr ⟨bb, o, ha, hb, hn, fun j hj => ?_⟩
        have hsplit : rows2.flatten = (rows2.take dl).flatten ++ (rows2.drop dl).flatten := by rw [← List.flatten_append, List.take_append_drop]
        rw [hc j (by rw [hsplit, List.length_append]; omega), hsplit, List.getElem?_append_left hj]
    have := hsl.first (P := P)
    rw [hlen] at this
    cases a2 <;> simpa [Builtin.firstCells] using this
  refine wl_new (w' := w') (v := .int .i64 (min rows2.length dl : Nat)) ?_ (kk w' e2 e3 e4)
  show (execOp (ev σ) _).run P w = _
  have hst : (storeCells ⟨b, l * k, none⟩ (rows2.take dl).flatten).run P w = .ok () w' := e1
  have key : (Builtin.copy_ #[t, ts] ty #[.slice (some ⟨b, l * k, none⟩) dl dc, .slice a2 rows2.length c2]).run P w = .ok (.int .i64 (min rows2.length dl : Nat)) w' := by
    simp only [Builtin.copy_]
    simp [run_underlying hT.under, Builtin.lenOf, run_sizeOf' i1, i2, hfc, hst, goInt]
  simp [execOp, resolve, invoke, builtin, hx, hy, key]
end
theorem wrap_u64 {a : Int} (h : 0 ≤ a ∧ a ≤ 18446744073709551615) : IntKind.u64.wrap a = a := by
  have h1 := h.1
  have h2 := h.2
  simp only [IntKind.wrap, IntKind.signed, IntKind.bits]
  simp
  omega
theorem rn_shr1 {t u : TypeId} {x y : Operand} {a : Int} (hx : ev σ x = .int .u64 a) (hy : ev σ y = .int .u64 1) : Rn P σ w ⟨dst, .binOp .shr t x y u, ty, pos, af, g⟩ (.int .u64 (a.fdiv 2)) := by
  show (execOp (ev σ) _).run P w = _
  simp [execOp, hx, hy, eqGuard, binOp, Op.shift, IntKind.bits]
/-- An element of one's own slice written over: an element of one cell. -/
theorem wl_storeE {t : TypeId} (hT : plainT P t) {x y : Operand} {v u : Value} {b i : Nat} {rows : List (List Value)} {spare : List Value} (hx : ev σ x = .pointer (some ((⟨b, 0, none⟩ : Addr).add (i * 1)))) (hy : ev σ y = u) (h1 : u.oneCell' = true) (hc : u.cells = #[u]) (hs : Ow w v b 1 rows spare) (hi : i < rows.length)
    (kk : ∀ w', Ext (fun i => i = b) w w' → Ow w' v b 1 (rows.set i [u]) spare → wl P ops rest K σ w') : wl P ops (⟨none, .store t x y, ty, pos, af, none⟩ :: rest) K σ w := by
  obtain ⟨w', e1, e2, e3, e4⟩ := hs.write (P := P) (rs := [[u]]) (by simp) (by simpa using h1) i (by simp; omega)
  have hp : patchR rows i [[u]] = rows.set i [u] := by
    unfold patchR
    rw [List.set_eq_take_append_cons_drop, if_pos hi]; simp
  rw [hp] at e3
  refine wl_do (w' := w') ?_ (kk w' e2 e3)
  show (execOp (ev σ) _).run P w = _
  rw [add_at, Nat.zero_add] at hx
  have e1' : (storeCells ⟨b, i * 1, none⟩ [u]).run P w = .ok () w' := by simpa using e1
  have e7 : (storeCells ⟨b, i, none⟩ [u]).run P w = .ok () w' := by rw [Nat.mul_one] at e1'; exact e1'
  have e8 : ev σ x = .pointer (some ⟨b, i, none⟩) := by rw [hx, Nat.mul_one]
  simp [execOp, e8, hy, Instr.storeAt, Instr.sureAddr, storeVar, run_size hT.2, hc, e7]
theorem one1 {v : Value} (h : v.oneCell' = true) : ∀ u ∈ [v], u.oneCell' = true := by intro u hu; rw [List.mem_singleton] at hu; rw [hu]; exact h
theorem oneR {r : List Value} (h : ∀ u ∈ r, u.oneCell' = true) : ∀ x ∈ [r], ∀ u ∈ x, u.oneCell' = true := by intro x hx; rw [List.mem_singleton] at hx; rw [hx]; exact h
theorem Sl.cut0 {M : Nat → Prop} {a : Option Addr} {len cap k : Nat} {rows : List (List Value)} (hs : Sl M w (.slice a len cap) k rows) {h m : Nat} (h2 : h ≤ len) (h2' : h ≤ m) (h3 : m ≤ cap) : Sl M w (.slice a h m) k (rows.take h) := by
  have := hs.cut (Nat.zero_le h) h2 h2' h3
  rw [show (if m = 0 then a else a.map (·.add (0 * k))) = a from by split; rfl; cases a <;> simp [add_zero']] at this
  simpa using this
/-- A region whose order is drawn, in which blocks of F's are written. -/
theorem W_drawF (F : Nat → Prop) {id : Nat} {l : List Oper} (hm : P.follows .mixedOrders = true)
    (h : ∀ w1, Ext Non w w1 → wd P l (fun A => Ext F w1 A) (fun σ' w' => Q .normal σ' D w') l.length (Array.replicate l.length false) σ w1) : W ro P n (.region id l.toArray true) Q σ D w :=
  W_draw _ hm (h _ (Ext.refl _ _).drew)
/-- A slice of one's own slice, from its l-th element on. -/
theorem rn_sliceO {t e : TypeId} {k bytes : Nat} {z : List Value} (hT : SliceT P t e k bytes z) {x : Operand} {lo hi mx : Option Operand} {b len cap l h m : Nat} (hx : ev σ x = .slice (some ⟨b, 0, none⟩) len cap)
    (hlo : Bd σ lo 0 l) (hhi : Bd σ hi len h) (hmx : Bd σ mx cap m) (hm : mx.isSome = true → hi.isSome = true) (h1 : l ≤ h) (h2 : h ≤ m) (h3 : m ≤ cap) (hlm : l ≠ m) :
    Rn P σ w ⟨dst, .slice t x lo hi mx, ty, pos, af, g⟩ (.slice (some ⟨b, l * k, none⟩) (h - l) (m - l)) := by
  have := rn_slice (P := P) (w := w) (dst := dst) (ty := ty) (pos := pos) (af := af) (g := g) hT hx hlo hhi hmx hm h1 h2 h3
  rw [if_neg (fun e => hlm e.symm)] at this
  simpa [add_at] using this
theorem wl_store0 {t : TypeId} (hT : structT P t 0) {x y : Operand} {a : Addr} (hx : ev σ x = .pointer (some a)) (hy : ev σ y = .agg #[]) (kk : wl P ops rest K σ w) : wl P ops (⟨none, .store t x y, ty, pos, af, none⟩ :: rest) K σ w := by
  refine wl_do (w' := w) ?_ kk
  show (execOp (ev σ) _).run P w = _
  simp [execOp, hx, hy, Instr.storeAt, Instr.sureAddr, storeVar, run_size hT.2, Value.cells, storeCells]
theorem Ow.set0 {v : Value} {b : Nat} {rows : List (List Value)} {spare : List Value} (h : Ow w v b 0 rows spare) (i : Nat) : Ow w v b 0 (rows.set i []) spare := by
  have e : rows.set i [] = rows := by
    by_cases hi : i < rows.length
    · apply List.ext_getElem?
      intro j
      by_cases hj : i = j
      · subst hj
        have := List.length_eq_zero_iff.1 (h.each _ (List.getElem_mem hi))
        simp [hi, this]
      · simp [List.getElem?_set_ne hj]
    · exact List.set_eq_of_length_le (by omega)
  rw [e]; exact h
/-- The call's own slice, of a block that is none of N's and not older than lo. -/
def OwX (lo : Nat) (N : Nat → Prop) (A : World) (v : Value) (o : Option Nat) (k : Nat) (rows : List (List Value)) : Prop := OwO A v o k rows ∧ ∀ i, o = some i → ¬ N i ∧ lo ≤ i
theorem Stab.owx {n0 : Nat} (lo : Nat) (v : Value) (o : Option Nat) (k : Nat) (rows : List (List Value)) : Stab n0 (fun N A => OwX lo N A v o k rows) := fun N A B hN hA h hE =>
  ⟨h.1.ext hE (fun i hi => (h.2 i hi).1), fun i hi => ⟨not_grow (h.2 i hi).1 (h.1.lt hi), (h.2 i hi).2⟩⟩
theorem OwX.ext {lo : Nat} {N : Nat → Prop} {A B : World} {v : Value} {o : Option Nat} {k : Nat} {rows : List (List Value)} (h : OwX lo N A v o k rows) {M : Nat → Prop} (hE : Ext M A B) (hm : ∀ i, o = some i → ¬ M i) : OwX lo N B v o k rows := ⟨h.1.ext hE hm, h.2⟩
theorem ins_rows {rows : List (List Value)} {i : Nat} {r : List Value} {zs : List (List Value)} (hi : i ≤ rows.length) (hz : zs.length = rows.length + 1 - i) : patchR (patchR (rows.take i ++ zs) i [r]) (i + 1) (rows.drop i) = rows.take i ++ r :: rows.drop i := by
  have h1 : (rows.take i).length = i := by rw [List.length_take, Nat.min_eq_left hi]
  have e1 : patchR (rows.take i ++ zs) i [r] = rows.take i ++ r :: zs.drop 1 := by
    unfold patchR
    rw [List.take_append_of_le_length (by omega), List.take_of_length_le (by omega), List.length_singleton, List.drop_append, List.drop_of_length_le (by omega), h1]
    simp
  rw [e1]
  unfold patchR
  have e2 : (rows.take i ++ r :: zs.drop 1).take (i + 1) = rows.take i ++ [r] := by
    rw [List.take_append, List.take_of_length_le (by omega), h1, show i + 1 - i = 1 from by omega]; simp
  have e3 : (rows.take i ++ r :: zs.drop 1).drop (i + 1 + (rows.drop i).length) = [] := List.drop_of_length_le (by rw [List.length_append, h1, List.length_cons, List.length_drop, List.length_drop]; omega)
  rw [e2, e3]
  simp
end Go.Proofs.YtaddeakfojpdoaaGreatDoorC

/- Rising lists: where a key stands, what a key's coming and going makes of them; no program in sight. -/
set_option linter.unusedVariables false
set_option linter.unusedSimpArgs false
namespace Go.Proofs.YtaddeakfojpdoaaGreatDoorC
open Go.RowKit
structure Lo {κ : Type} (lt : κ → κ → Bool) : Prop where
  irr : ∀ a, lt a a = false
  tr : ∀ a b c, lt a b = true → lt b c = true → lt a c = true
  tri : ∀ a b, lt a b = false → lt b a = false → a = b
def ltI (a b : Int) : Bool := decide (a < b)
def ltS (a b : Str) : Bool := Op.bytesLess a b
theorem lo_int : Lo ltI := ⟨fun a => by simp [ltI], fun a b c h k => by simp only [ltI, decide_eq_true_eq] at *; omega, fun a b h k => by simp only [ltI, decide_eq_false_iff_not] at *; omega⟩
theorem bytesLess_cons (a b : UInt8) (l m : Str) : Op.bytesLess (a :: l) (b :: m) = (decide (a < b) || (decide (a = b) && Op.bytesLess l m)) := by
  simp only [Op.bytesLess]
  by_cases h : a = b
  · simp [h]
  · simp [h]
theorem lo_str : Lo ltS := by
  refine ⟨?_, ?_, ?_⟩
  · intro a
    induction a with
    | nil => rfl
    | cons x a ih => unfold ltS at *; rw [bytesLess_cons]; simp [ih]
  · intro a
    induction a with
    | nil => intro b c h k; cases b <;> cases c <;> simp_all [ltS, Op.bytesLess]
    | cons x a ih =>
      intro b c h k
      cases b with
      | nil => simp [ltS, Op.bytesLess] at h
      | cons y b =>
        cases c with
        | nil => simp [ltS, Op.bytesLess] at k
        | cons z c =>
          unfold ltS at *
          rw [bytesLess_cons] at *
          simp only [Bool.or_eq_true, Bool.and_eq_true, decide_eq_true_eq] at *
          rcases h with h | ⟨rfl, h⟩
          · rcases k with k | ⟨rfl, k⟩
            · left; rw [UInt8.lt_iff_toNat_lt] at *; omega
            · left; exact h
          · rcases k with k | ⟨rfl, k⟩
            · left; exact k
            · right; exact ⟨rfl, ih _ _ h k⟩
  · intro a
    induction a with
    | nil => intro b h k; cases b <;> simp_all [ltS, Op.bytesLess]
    | cons x a ih =>
      intro b h k
      cases b with
      | nil => simp [ltS, Op.bytesLess] at k
      | cons y b =>
        unfold ltS at *
        rw [bytesLess_cons] at *
        simp only [Bool.or_eq_false_iff, Bool.and_eq_false_iff, decide_eq_false_iff_not] at *
        have e : x = y := by
          have h1 := h.1; have k1 := k.1
          rw [UInt8.lt_iff_toNat_lt] at h1 k1
          exact UInt8.toNat_inj.1 (by omega)
        subst e
        rw [ih b (by rcases h.2 with h | h; exact absurd rfl h; exact h) (by rcases k.2 with h | h; exact absurd rfl h; exact h)]
section
variable {κ : Type} {lt : κ → κ → Bool}
def Sorted (lt : κ → κ → Bool) (l : List κ) : Prop := l.Pairwise fun a b => lt a b = true
theorem Sorted.get {l : List κ} (h : Sorted lt l) {p q : Nat} {a b : κ} (hp : l[p]? = some a) (hq : l[q]? = some b) (hpq : p < q) : lt a b = true := by
  obtain ⟨h1, rfl⟩ := List.getElem?_eq_some_iff.1 hp
  obtain ⟨h2, rfl⟩ := List.getElem?_eq_some_iff.1 hq
  exact List.pairwise_iff_getElem.1 h p q h1 h2 hpq
/-- How many are ahead of a key. -/
def lb (lt : κ → κ → Bool) (l : List κ) (x : κ) : Nat := (l.takeWhile fun y => lt y x).length
theorem lb_le (l : List κ) (x : κ) : lb lt l x ≤ l.length := by unfold lb; induction l with
  | nil => simp
  | cons y l ih => rw [List.takeWhile_cons]; split <;> simp; exact ih
theorem lb_of {l : List κ} {x : κ} {i : Nat} (hi : i ≤ l.length) (h1 : ∀ p y, p < i → l[p]? = some y → lt y x = true) (h2 : ∀ y, l[i]? = some y → lt y x = false) : lb lt l x = i := by
  induction l generalizing i with
  | nil => simp at hi; subst hi; rfl
  | cons y l ih =>
    cases i with
    | zero =>
      have := h2 y rfl
      simp [lb, List.takeWhile_cons, this]
    | succ i =>
      have h3 := h1 0 y (by omega) rfl
      have h4 := ih (i := i) (by simpa using hi) (fun p z hp hz => h1 (p + 1) z (by omega) hz) (fun z hz => h2 z hz)
      simp only [lb] at h4
      simp [lb, List.takeWhile_cons, h3, h4]
theorem lb_lt {l : List κ} {x : κ} {p : Nat} {y : κ} (hp : p < lb lt l x) (hy : l[p]? = some y) : lt y x = true := by
  induction l generalizing p with
  | nil => simp at hy
  | cons z l ih =>
    simp only [lb, List.takeWhile_cons] at hp
    by_cases hz : lt z x = true
    · rw [if_pos hz] at hp
      cases p with
      | zero => simp at hy; subst hy; exact hz
      | succ p => exact ih (by simp only [lb]; simpa using hp) (by simpa using hy)
    · rw [if_neg hz] at hp; simp at hp
theorem lb_at {l : List κ} {x y : κ} (hy : l[lb lt l x]? = some y) : lt y x = false := by
  induction l with
  | nil => simp at hy
  | cons z l ih =>
    simp only [lb, List.takeWhile_cons] at hy
    by_cases hz : lt z x = true
    · rw [if_pos hz] at hy
      exact ih (by simp only [lb]; simpa using hy)
    · rw [if_neg hz] at hy
      simp at hy; subst hy; simpa using hz
theorem lb_ge (hl : Lo lt) {l : List κ} (hs : Sorted lt l) {x : κ} {p : Nat} {y : κ} (hp : lb lt l x ≤ p) (hy : l[p]? = some y) : lt y x = false := by
  have hlt : lb lt l x < l.length := by have := (List.getElem?_eq_some_iff.1 hy).1; omega
  obtain ⟨z, hz⟩ : ∃ z, l[lb lt l x]? = some z := ⟨_, List.getElem?_eq_getElem hlt⟩
  have h1 := lb_at hz
  by_cases hpe : p = lb lt l x
  · subst hpe; rw [hy] at hz; cases hz; exact h1
  · have h2 := hs.get hz hy (by omega)
    cases h3 : lt y x with
    | false => rfl
    | true => have := hl.tr _ _ _ h2 h3; rw [this] at h1; cases h1
/-- Is a key there? -/
def isAt [DecidableEq κ] (lt : κ → κ → Bool) (l : List κ) (x : κ) : Bool := decide (l[lb lt l x]? = some x)
theorem isAt_iff [DecidableEq κ] (hl : Lo lt) {l : List κ} (hs : Sorted lt l) (x : κ) : isAt lt l x = true ↔ x ∈ l := by
  simp only [isAt, decide_eq_true_eq]
  constructor
  · exact fun h => List.mem_of_getElem? h
  · intro h
    obtain ⟨p, hp⟩ := List.mem_iff_getElem?.1 h
    have h1 : ¬ p < lb lt l x := fun h => by have := lb_lt h hp; rw [hl.irr] at this; cases this
    have hlt : lb lt l x < l.length := by have := (List.getElem?_eq_some_iff.1 hp).1; omega
    obtain ⟨z, hz⟩ : ∃ z, l[lb lt l x]? = some z := ⟨_, List.getElem?_eq_getElem hlt⟩
    by_cases hpe : p = lb lt l x
    · rw [hpe] at hp; exact hp
    · have h2 := hs.get hz hp (by omega)
      have h3 := lb_at hz
      rw [h2] at h3; cases h3
/-- A key's coming. -/
def putK [DecidableEq κ] (lt : κ → κ → Bool) (l : List κ) (x : κ) : List κ := if isAt lt l x = true then l else l.take (lb lt l x) ++ x :: l.drop (lb lt l x)
theorem putK_mem [DecidableEq κ] (hl : Lo lt) {l : List κ} (hs : Sorted lt l) (x y : κ) : y ∈ putK lt l x ↔ y = x ∨ y ∈ l := by
  unfold putK
  split
  · rename_i h
    have := (isAt_iff hl hs x).1 h
    constructor
    · exact fun h => .inr h
    · rintro (rfl | h); exact this; exact h
  · conv => rhs; rw [← List.take_append_drop (lb lt l x) l]
    simp only [List.mem_append, List.mem_cons]
    constructor
    · rintro (h | h | h); exact .inr (.inl h); exact .inl h; exact .inr (.inr h)
    · rintro (h | h | h); exact .inr (.inl h); exact .inl h; exact .inr (.inr h)
theorem putK_sorted [DecidableEq κ] (hl : Lo lt) {l : List κ} (hs : Sorted lt l) (x : κ) : Sorted lt (putK lt l x) := by
  unfold putK
  split
  · exact hs
  · rename_i hn
    have hsplit : Sorted lt (l.take (lb lt l x) ++ l.drop (lb lt l x)) := by rw [List.take_append_drop]; exact hs
    unfold Sorted at *
    rw [List.pairwise_append] at hsplit ⊢
    obtain ⟨h1, h2, h3⟩ := hsplit
    refine ⟨h1, ?_, ?_⟩
    · rw [List.pairwise_cons]
      refine ⟨fun y hy => ?_, h2⟩
      obtain ⟨p, hp⟩ := List.mem_iff_getElem?.1 hy
      rw [List.getElem?_drop] at hp
      have h4 := lb_ge hl (by unfold Sorted; exact hs) (Nat.le_add_right _ p) hp
      cases h5 : lt x y with
      | true => rfl
      | false =>
        have := hl.tri _ _ h4 h5
        subst this
        exact absurd ((isAt_iff hl hs y).2 (List.mem_of_getElem? hp)) hn
    · intro a ha b hb
      rcases List.mem_cons.1 hb with rfl | hb
      · obtain ⟨p, hp⟩ := List.mem_iff_getElem?.1 ha
        have hp1 := (List.getElem?_eq_some_iff.1 hp).1
        rw [List.length_take] at hp1
        rw [List.getElem?_take_of_lt (by omega)] at hp
        exact lb_lt (by omega) hp
      · exact h3 a ha b hb
theorem putK_len [DecidableEq κ] (l : List κ) (x : κ) : (putK lt l x).length ≤ l.length + 1 := by
  unfold putK; split
  · omega
  · have := lb_le (lt := lt) l x; simp; omega
/-- Two rising lists with the same members are the same. -/
theorem sorted_ext (hl : Lo lt) : ∀ (l m : List κ), Sorted lt l → Sorted lt m → (∀ x, x ∈ l ↔ x ∈ m) → l = m
  | [], [], _, _, _ => rfl
  | [], y :: m, _, _, h => by have := (h y).2 (by simp); cases this
  | x :: l, [], _, _, h => by have := (h x).1 (by simp); cases this
  | x :: l, y :: m, hs, ht, h => by
    obtain ⟨h1, h2⟩ := List.pairwise_cons.1 hs
    obtain ⟨h3, h4⟩ := List.pairwise_cons.1 ht
    have e : x = y := by
      rcases List.mem_cons.1 ((h x).1 (by simp)) with e | hx
      · exact e
      · rcases List.mem_cons.1 ((h y).2 (by simp)) with e | hy
        · exact e.symm
        · have := hl.tr _ _ _ (h3 x hx) (h1 y hy)
          rw [hl.irr] at this; cases this
    subst e
    rw [sorted_ext hl l m h2 h4 fun z => ⟨fun hz => ?_, fun hz => ?_⟩]
    · rcases List.mem_cons.1 ((h z).1 (by simp [hz])) with e | h'
      · subst e; have := h1 z hz; rw [hl.irr] at this; cases this
      · exact h'
    · rcases List.mem_cons.1 ((h z).2 (by simp [hz])) with e | h'
      · subst e; have := h3 z hz; rw [hl.irr] at this; cases this
      · exact h'
/-- A value's coming. -/
def putV [DecidableEq κ] (lt : κ → κ → Bool) (l : List κ) (x : κ) (vs : List (List Value)) (r : List Value) : List (List Value) := if isAt lt l x = true then vs.set (lb lt l x) r else vs.take (lb lt l x) ++ r :: vs.drop (lb lt l x)
theorem putV_len [DecidableEq κ] {l : List κ} {x : κ} {vs : List (List Value)} {r : List Value} (h : vs.length = l.length) : (putV lt l x vs r).length = (putK lt l x).length := by
  have := lb_le (lt := lt) l x
  unfold putV putK; split <;> simp [h]
end
theorem isAt_lt {κ : Type} [DecidableEq κ] {lt : κ → κ → Bool} {l : List κ} {x : κ} (h : isAt lt l x = true) : lb lt l x < l.length := by
  simp only [isAt, decide_eq_true_eq] at h
  exact (List.getElem?_eq_some_iff.1 h).1
theorem putK_map {κ : Type} [DecidableEq κ] {lt : κ → κ → Bool} (e : κ → List Value) (l : List κ) (x : κ) : (if isAt lt l x = true then (l.map e).set (lb lt l x) (e x) else (l.map e).take (lb lt l x) ++ e x :: (l.map e).drop (lb lt l x)) = (putK lt l x).map e := by
  unfold putK
  by_cases h : isAt lt l x = true
  · rw [if_pos h, if_pos h]
    have h1 := isAt_lt h
    simp only [isAt, decide_eq_true_eq] at h
    apply List.ext_getElem?
    intro j
    by_cases hj : lb lt l x = j
    · subst hj; rw [List.getElem?_set_self (by simpa using h1)]; simp [h]
    · rw [List.getElem?_set_ne hj]
  · rw [if_neg h, if_neg h]; simp
theorem Ow.shape {w : World} {v : Value} {b k : Nat} {rows : List (List Value)} {spare : List Value} (h : Ow w v b k rows spare) : ∃ a l c, v = .slice a l c := by obtain ⟨c, e, _⟩ := h.val; exact ⟨_, _, _, e⟩
theorem two1 {v u : Value} (h : v.oneCell' = true) (k : u.oneCell' = true) : ∀ x ∈ [v, u], x.oneCell' = true := by intro x hx; simp only [List.mem_cons, List.not_mem_nil, or_false] at hx; rcases hx with rfl | rfl <;> assumption
theorem Sl.shape {M : Nat → Prop} {w : World} {v : Value} {k : Nat} {rows : List (List Value)} (h : Sl M w v k rows) : ∃ a l c, v = .slice a l c := by obtain ⟨a, c, e, _⟩ := h.len; exact ⟨_, _, _, e⟩
theorem fdiv2 (a b : Nat) : Int.fdiv ((a : Int) + (b : Int)) 2 = (((a + b) / 2 : Nat) : Int) := by rw [← Int.natCast_add]; exact (Int.ofNat_fdiv (a + b) 2).symm
theorem Rn.cast {P : Program} {σ : Env} {w : World} {o : Oper} {v v' : Value} (h : Rn P σ w o v) (e : v = v') : Rn P σ w o v' := e ▸ h
/-- A map reads as keys and values. -/
structure MapR {κ : Type} (M : Nat → Prop) (w : World) (ek : κ → List Value) (k : Nat) (v1 v2 : Value) (ks : List κ) (vs : List (List Value)) : Prop where
  keys : Sl M w v1 1 (ks.map ek)
  vals : Sl M w v2 k vs
  len : vs.length = ks.length
theorem MapR.ext {κ : Type} {M M' : Nat → Prop} {w w' : World} {ek : κ → List Value} {k : Nat} {v1 v2 : Value} {ks : List κ} {vs : List (List Value)} (h : MapR M w ek k v1 v2 ks vs) (hE : Ext M' w w') (hm : ∀ i, M' i → M i) : MapR M w' ek k v1 v2 ks vs :=
  ⟨h.keys.ext hE hm, h.vals.ext hE hm, h.len⟩
theorem MapR.sub {κ : Type} {M M' : Nat → Prop} {w : World} {ek : κ → List Value} {k : Nat} {v1 v2 : Value} {ks : List κ} {vs : List (List Value)} (h : MapR M w ek k v1 v2 ks vs) (hm : ∀ i, M' i → i < w.heap.size → M i) : MapR M' w ek k v1 v2 ks vs :=
  ⟨h.keys.sub hm, h.vals.sub hm, h.len⟩
abbrev Old (w : World) : Nat → Prop := fun i => i < w.heap.size
end Go.Proofs.YtaddeakfojpdoaaGreatDoorC

/- Maps with rising keys: what the document's loops lay, by places; texts compared byte by byte. -/
set_option linter.unusedVariables false
set_option linter.unusedSimpArgs false
namespace Go.Proofs.YtaddeakfojpdoaaGreatDoorC
open Go.RowKit
section
set_option linter.unusedSectionVars false
variable {κ β : Type} [DecidableEq κ] {lt : κ → κ → Bool}
/-- Values put by places. -/
def putW (lt : κ → κ → Bool) (l : List κ) (x : κ) (vs : List β) (r : β) : List β := if isAt lt l x = true then vs.set (lb lt l x) r else vs.take (lb lt l x) ++ r :: vs.drop (lb lt l x)
theorem putW_map {γ : Type} (f : β → γ) (l : List κ) (x : κ) (vs : List β) (r : β) : putW lt l x (vs.map f) (f r) = (putW lt l x vs r).map f := by
  unfold putW; split
  · rw [List.map_set]
  · simp [List.map_take, List.map_drop]
theorem putW_len {l : List κ} {x : κ} {vs : List β} {r : β} (h : vs.length = l.length) : (putW lt l x vs r).length = (putK lt l x).length := by
  have := lb_le (lt := lt) l x
  unfold putW putK; split
  · simp [h]
  · simp [h]
/-- The key at a place, and x. -/
theorem key_at (hl : Lo lt) {l : List κ} (hs : Sorted lt l) {x y : κ} {i : Nat} (hy : l[i]? = some y) : (lt y x = true ↔ i < lb lt l x) ∧ (y = x ↔ isAt lt l x = true ∧ i = lb lt l x) := by
  have h1 : i < lb lt l x → lt y x = true := fun h => lb_lt h hy
  have h2 : lb lt l x ≤ i → lt y x = false := fun h => lb_ge hl hs h hy
  refine ⟨⟨fun h => ?_, h1⟩, ?_⟩
  · rcases Nat.lt_or_ge i (lb lt l x) with h' | h'
    · exact h'
    · rw [h2 h'] at h; cases h
  · constructor
    · rintro rfl
      have hm : isAt lt l y = true := (isAt_iff hl hs y).2 (List.mem_of_getElem? hy)
      refine ⟨hm, ?_⟩
      have hge : lb lt l y ≤ i := by
        rcases Nat.lt_or_ge i (lb lt l y) with h' | h'
        · have := h1 h'; rw [hl.1] at this; cases this
        · exact h'
      unfold isAt at hm
      have hm := of_decide_eq_true hm
      rcases Nat.lt_or_ge (lb lt l y) i with h' | h'
      · have := hs.get hm hy h'; rw [hl.1] at this; cases this
      · omega
    · rintro ⟨ha, rfl⟩
      unfold isAt at ha
      have ha := of_decide_eq_true ha
      rw [hy] at ha; exact Option.some.inj ha
end
/-- Two texts that are alike as far as i. -/
theorem less_at : ∀ (i : Nat) (a b : Str), a.take i = b.take i → ∀ {x y : UInt8}, a[i]? = some x → b[i]? = some y → x ≠ y → ltS a b = decide (x < y)
  | 0, x :: a, y :: b, _, _, _, rfl, rfl, hne => by unfold ltS; rw [bytesLess_cons]; simp [hne]
  | i + 1, x :: a, y :: b, h, _, _, hx, hy, hne => by
    simp only [List.take_succ_cons, List.cons.injEq] at h
    obtain ⟨rfl, h⟩ := h
    have := less_at i a b h (by simpa using hx) (by simpa using hy) hne
    unfold ltS at this ⊢
    rw [bytesLess_cons, this]
    have : ¬ x < x := UInt8.lt_irrefl x
    simp [this]
theorem less_end : ∀ (a b : Str), (∃ i, a.take i = b.take i ∧ (i = a.length ∨ i = b.length) ∧ i ≤ a.length ∧ i ≤ b.length) → ltS a b = decide (a.length < b.length)
  | [], [], _ => rfl
  | [], y :: b, _ => rfl
  | x :: a, [], _ => rfl
  | x :: a, y :: b, ⟨i, h, h1, h2, h3⟩ => by
    cases i with
    | zero => simp at h1
    | succ i =>
      simp only [List.take_succ_cons, List.cons.injEq] at h
      obtain ⟨rfl, h⟩ := h
      have := less_end a b ⟨i, h, by simpa using h1, by simpa using h2, by simpa using h3⟩
      unfold ltS at this ⊢
      rw [bytesLess_cons, this]
      have : ¬ x < x := UInt8.lt_irrefl x
      simp [this]
end Go.Proofs.YtaddeakfojpdoaaGreatDoorC

/- Texts: where a byte stands, what lies ahead of it; the library's search for a byte, in the calculus. -/
set_option linter.unusedVariables false
set_option linter.unusedSimpArgs false
namespace Go.Proofs.YtaddeakfojpdoaaGreatDoorC
open Go.RowKit
/-- What lies ahead of the first byte c. -/
def pre1 (c : UInt8) (s : Str) : Str := s.takeWhile (fun x => !(x == c))
theorem pre1_le (c : UInt8) (s : Str) : (pre1 c s).length ≤ s.length := by
  unfold pre1; induction s with
  | nil => simp
  | cons y l ih => rw [List.takeWhile_cons]; split <;> simp; exact ih
/-- The place of the first byte c, or -1. -/
def fi (s : Str) (c : UInt8) : Int := if c ∈ s then ((pre1 c s).length : Int) else -1
theorem pre1_mem {c : UInt8} : ∀ {s : Str}, c ∈ s → s[(pre1 c s).length]? = some c
  | [], h => by cases h
  | y :: s, h => by
    unfold pre1
    rw [List.takeWhile_cons]
    by_cases e : y = c
    · subst e; simp
    · have h2 : c ∈ s := by rcases List.mem_cons.1 h with h | h; exact absurd h.symm e; exact h
      have := pre1_mem h2
      unfold pre1 at this
      simp [e, this]
theorem pre1_not {c : UInt8} : ∀ {s : Str}, ¬ c ∈ s → pre1 c s = s
  | [], _ => rfl
  | y :: s, h => by
    have h1 : ¬ y = c := fun e => h (by simp [e])
    have h2 : ¬ c ∈ s := fun e => h (by simp [e])
    have := pre1_not h2
    unfold pre1 at *
    rw [List.takeWhile_cons]; simp [h1, this]
theorem pre1_take (c : UInt8) : ∀ (s : Str), s.take (pre1 c s).length = pre1 c s
  | [] => rfl
  | y :: s => by
    have := pre1_take c s
    unfold pre1 at *
    rw [List.takeWhile_cons]
    split
    · simp [this]
    · simp
theorem pre1_ne {c : UInt8} : ∀ {s : Str} {x : UInt8}, x ∈ pre1 c s → x ≠ c
  | [], x, h => by simp [pre1] at h
  | y :: s, x, h => by
    unfold pre1 at h
    rw [List.takeWhile_cons] at h
    split at h
    · rename_i hy
      rcases List.mem_cons.1 h with e | h
      · subst e; simpa using hy
      · exact pre1_ne (s := s) h
    · cases h
theorem pre1_lt {c : UInt8} {s : Str} {i : Nat} {x : UInt8} (hi : i < (pre1 c s).length) (hx : s[i]? = some x) : x ≠ c := by
  have h1 : (pre1 c s)[i]? = some x := by rw [← pre1_take c s, List.getElem?_take_of_lt hi, hx]
  have h2 : x ∈ pre1 c s := List.mem_of_getElem? h1
  exact pre1_ne h2
theorem get_str! (s : Str) (i : Nat) (h : i < s.length) : (ByteArray.mk s.toArray)[i]! = s[i] := by
  have h1 : i < (ByteArray.mk s.toArray).size := by simpa [ByteArray.size] using h
  rw [getElem!_pos _ i h1]; rfl
theorem firstIdx_fi (s : Str) (c : UInt8) : firstIdx ⟨s.toArray⟩ c = fi s c := by
  unfold firstIdx fi
  have hsz : (ByteArray.mk s.toArray).size = s.length := by simp [ByteArray.size]
  rw [hsz]
  by_cases hc : c ∈ s
  · rw [if_pos hc]
    have h1 := pre1_mem hc
    have hlt : (pre1 c s).length < s.length := (List.getElem?_eq_some_iff.1 h1).1
    have : (List.range s.length).find? (fun i => (ByteArray.mk s.toArray)[i]! == c) = some (pre1 c s).length := by
      rw [List.find?_range_eq_some]
      refine ⟨?_, by simpa using hlt, fun j hj => ?_⟩
      · rw [get_str! s _ hlt]
        have := (List.getElem?_eq_some_iff.1 h1).2
        simp [this]
      · have hj' : j < s.length := by omega
        rw [get_str! s j hj']
        have := pre1_lt hj (List.getElem?_eq_getElem hj')
        simpa using this
    rw [this]
  · rw [if_neg hc]
    have : (List.range s.length).find? (fun i => (ByteArray.mk s.toArray)[i]! == c) = none := by
      rw [List.find?_eq_none]
      intro i hi
      have hi' : i < s.length := by simpa using hi
      rw [get_str! s i hi']
      intro e
      have : s[i] = c := by simpa using e
      exact hc (this ▸ List.getElem_mem hi')
    rw [this]
/-- Function f is the library's search for a byte. -/
structure IB (P : Program) (f : FuncId) : Prop where
  ex : ∃ fn, P.funcs[f]? = some fn ∧ (fn.name == "runtime.NumGoroutine") = false ∧ fn.body.isNone = true ∧ Extern.findNext fn = none ∧ Extern.find fn = some Extern.BytealgIndexByte.indexByte
section
variable {P : Program} {σ : Env} {w : World} {dst : Option Nat} {ty : TypeId} {pos : String} {af : Array Edge} {g : Option (Nat × Bool)}
theorem rn_indexByte {f : FuncId} {ts : Array TypeId} {x y : Operand} {s : Str} {c : UInt8} (hib : IB P f)
    (hx : ev σ x = Sv s) (hy : ev σ y = .int .u8 c.toNat) : Rn P σ w ⟨dst, .call ⟨.value (.func f), #[x, y], ts⟩, ty, pos, af, g⟩ (.int .i64 (fi s c)) := by
  show (execOp (ev σ) _).run P w = _
  obtain ⟨fn, hf, hname, hb, hn, he⟩ := hib.ex
  have h1 := run_callFunc_extern hf hname hb hn he #[Sv s, .int .u8 c.toNat] w
  have h2 := run_indexByte_string (P := P) ⟨s.toArray⟩ (c.toNat : Int) w
  have h3 : ((c.toNat : Int)).toNat.toUInt8 = c := by simp
  rw [h3, firstIdx_fi] at h2
  have h4 : (callFunc f #[Sv s, .int .u8 c.toNat]).run P w = .ok (.value (.int .i64 (fi s c))) w := by rw [h1, h2]; rfl
  simp only [execOp, resolve, Sem.run_bind, Sem.run_pure, Result.andThen_ok]
  have hargs : (#[x, y] : Array Operand).map (ev σ) = #[Sv s, .int .u8 c.toNat] := by simp [hx, hy]
  rw [hargs]
  simp only [ev, Deferred.ofValue, Sem.run_pure, Result.andThen_ok, invoke]
  simpa using h4
end
/-- Function f is the library's count of a byte. -/
structure CB (P : Program) (f : FuncId) : Prop where
  ex : ∃ fn, P.funcs[f]? = some fn ∧ (fn.name == "runtime.NumGoroutine") = false ∧ fn.body.isNone = true ∧ Extern.findNext fn = none ∧ Extern.find fn = some Extern.BytealgCount.count
section
variable {P : Program} {σ : Env} {w : World} {dst : Option Nat} {ty : TypeId} {pos : String} {af : Array Edge} {g : Option (Nat × Bool)}
theorem rn_countString {f : FuncId} {ts : Array TypeId} {x y : Operand} {s : Str} {c : UInt8} (hib : CB P f)
    (hx : ev σ x = Sv s) (hy : ev σ y = .int .u8 c.toNat) : Rn P σ w ⟨dst, .call ⟨.value (.func f), #[x, y], ts⟩, ty, pos, af, g⟩ (.int .i64 (s.count c : Nat)) := by
  show (execOp (ev σ) _).run P w = _
  obtain ⟨fn, hf, hname, hb, hn, he⟩ := hib.ex
  have h1 := run_callFunc_extern hf hname hb hn he #[Sv s, .int .u8 c.toNat] w
  have h2 := Lib.run_countString (P := P) ⟨s.toArray⟩ (c.toNat : Int) w
  have h3 : ((c.toNat : Int)).toNat.toUInt8 = c := by simp
  rw [h3] at h2
  unfold Lib.countByte at h2
  have h4 : (callFunc f #[Sv s, .int .u8 c.toNat]).run P w = .ok (.value (.int .i64 (s.count c : Nat))) w := by rw [h1, h2]; rfl
  simp only [execOp, resolve, Sem.run_bind, Sem.run_pure, Result.andThen_ok]
  have hargs : (#[x, y] : Array Operand).map (ev σ) = #[Sv s, .int .u8 c.toNat] := by simp [hx, hy]
  rw [hargs]
  simp only [ev, Deferred.ofValue, Sem.run_pure, Result.andThen_ok, invoke]
  simpa using h4
end
section
variable {P : Program} {σ : Env} {w : World} {ty : TypeId} {pos : String} {af : Array Edge} {ops rest : List Oper} {K : Ops}
end
end Go.Proofs.YtaddeakfojpdoaaGreatDoorC

/- Levels of a text, topics, filters, and which matches which: plain lists. -/
set_option linter.unusedVariables false
set_option linter.unusedSimpArgs false
namespace Go.Proofs.YtaddeakfojpdoaaGreatDoorC
open Go.RowKit

/-- What stands between the bytes b. -/
def spl (b : UInt8) : Str → List Str
  | [] => [[]]
  | c :: s => if c = b then [] :: spl b s else match spl b s with
    | [] => [[c]]
    | l :: r => (c :: l) :: r
theorem spl_ne (b : UInt8) (s : Str) : spl b s ≠ [] := by
  cases s with
  | nil => simp [spl]
  | cons c s =>
    simp only [spl]; split
    · simp
    · split <;> simp
theorem spl_eq (b : UInt8) (s : Str) : spl b (b :: s) = [] :: spl b s := by simp [spl]
theorem spl_neq {b c : UInt8} {s : Str} (h : c ≠ b) {l : Str} {r : List Str} (hs : spl b s = l :: r) : spl b (c :: s) = (c :: l) :: r := by simp [spl, h, hs]
theorem spl_ex (b : UInt8) (s : Str) : ∃ l r, spl b s = l :: r := by
  cases h : spl b s with
  | nil => exact absurd h (spl_ne b s)
  | cons l r => exact ⟨l, r, rfl⟩
theorem spl_app (b : UInt8) : ∀ (p q : Str) {out : List Str} {t h : Str} {r : List Str}, spl b p = out ++ [t] → spl b q = h :: r → spl b (p ++ q) = out ++ (t ++ h) :: r
  | [], q, out, t, h, r, hp, hq => by
    cases out with
    | nil =>
      have : t = [] := by simpa [spl] using hp.symm
      subst this; simpa using hq
    | cons x xs => simp [spl] at hp
  | c :: p, q, out, t, h, r, hp, hq => by
    rw [List.cons_append]
    by_cases hc : c = b
    · subst hc
      rw [spl_eq] at hp ⊢
      cases out with
      | nil => simp at hp; exact absurd hp.2 (spl_ne c p)
      | cons x xs =>
        rw [List.cons_append, List.cons.injEq] at hp
        rw [spl_app c p q hp.2 hq, ← hp.1]; rfl
    · obtain ⟨l, rest, hs⟩ := spl_ex b p
      rw [spl_neq hc hs] at hp
      cases out with
      | nil =>
        rw [List.nil_append, List.cons.injEq] at hp
        obtain ⟨h1, h2⟩ := hp
        have := spl_app b p q (out := []) (t := l) (by rw [hs, h2]; rfl) hq
        rw [spl_neq hc (by rw [this]; rfl), ← h1]; rfl
      | cons x xs =>
        rw [List.cons_append, List.cons.injEq] at hp
        obtain ⟨h1, h2⟩ := hp
        have := spl_app b p q (out := l :: xs) (t := t) (by rw [hs, h2]; rfl) hq
        rw [spl_neq hc (by rw [this]; rfl), ← h1]; rfl
theorem spl_snoc_eq {b : UInt8} {p : Str} {out : List Str} {t : Str} (hp : spl b p = out ++ [t]) : spl b (p ++ [b]) = out ++ [t] ++ [[]] := by
  have := spl_app b p [b] hp (h := []) (r := [[]]) (by simp [spl])
  rw [this]; simp
theorem spl_snoc_ne {b c : UInt8} (hc : c ≠ b) {p : Str} {out : List Str} {t : Str} (hp : spl b p = out ++ [t]) : spl b (p ++ [c]) = out ++ [t ++ [c]] := by
  have := spl_app b p [c] hp (h := [c]) (r := []) (by simp [spl, hc])
  exact this
theorem spl_not {b : UInt8} : ∀ {s : Str}, ¬ b ∈ s → spl b s = [s]
  | [], _ => rfl
  | c :: s, h => by
    simp only [List.mem_cons, not_or] at h
    exact spl_neq (fun e => h.1 e.symm) (spl_not h.2)
theorem pre1_post {c : UInt8} {s : Str} (h : c ∈ s) : s = pre1 c s ++ c :: s.drop ((pre1 c s).length + 1) := by
  have h1 := pre1_mem h
  have h2 := pre1_take c s
  obtain ⟨hlt, hc⟩ := List.getElem?_eq_some_iff.1 h1
  have e : s = s.take (pre1 c s).length ++ s.drop (pre1 c s).length := (List.take_append_drop _ _).symm
  rw [h2, List.drop_eq_getElem_cons hlt, hc] at e
  exact e
theorem spl_cut {b : UInt8} {s : Str} (h : b ∈ s) : spl b s = pre1 b s :: spl b (s.drop ((pre1 b s).length + 1)) := by
  obtain ⟨l, r, hr⟩ := spl_ex b (s.drop ((pre1 b s).length + 1))
  have h1 : spl b (pre1 b s) = [] ++ [pre1 b s] := spl_not fun hm => pre1_ne hm rfl
  have := spl_app b (pre1 b s) (b :: s.drop ((pre1 b s).length + 1)) h1 (spl_eq b _)
  rw [← pre1_post h] at this
  rw [this]; simp
theorem spl_head (b : UInt8) (s : Str) : ∃ r, spl b s = pre1 b s :: r := by
  by_cases h : b ∈ s
  · exact ⟨_, spl_cut h⟩
  · exact ⟨[], by rw [spl_not h, pre1_not h]⟩
theorem spl_len (b : UInt8) : ∀ s : Str, (spl b s).length = s.count b + 1
  | [] => rfl
  | c :: s => by
    have ih := spl_len b s
    by_cases hc : c = b
    · subst hc; rw [spl_eq]; simp [ih]
    · obtain ⟨l', r, hs⟩ := spl_ex b s
      rw [spl_neq hc hs]; rw [hs] at ih
      rw [List.count_cons_of_ne hc, ← ih]; rfl
theorem spl_le {b : UInt8} : ∀ {s : Str} {l : Str}, l ∈ spl b s → l.length ≤ s.length
  | [], l, h => by simp [spl] at h; subst h; simp
  | c :: s, l, h => by
    by_cases hc : c = b
    · subst hc; rw [spl_eq] at h
      rcases List.mem_cons.1 h with rfl | h
      · simp
      · have := spl_le h; simp only [List.length_cons]; omega
    · obtain ⟨l', r, hs⟩ := spl_ex b s
      rw [spl_neq hc hs] at h
      rcases List.mem_cons.1 h with rfl | h
      · have := spl_le (s := s) (l := l') (by rw [hs]; exact List.mem_cons_self); simp only [List.length_cons]; omega
      · have := spl_le (s := s) (l := l) (by rw [hs]; exact List.mem_cons_of_mem _ h); simp only [List.length_cons]; omega
theorem spl_len_le (b : UInt8) (s : Str) : (spl b s).length ≤ s.length + 1 := by rw [spl_len]; have := List.count_le_length (a := b) (l := s); omega
/-- Texts with b between each two. -/
def joinB (b : UInt8) : List Str → Str
  | [] => []
  | [l] => l
  | l :: r => l ++ b :: joinB b r
theorem joinB_cons (b : UInt8) (l : Str) {r : List Str} (h : r ≠ []) : joinB b (l :: r) = l ++ b :: joinB b r := by cases r with | nil => exact absurd rfl h | cons => rfl
theorem join_spl (b : UInt8) : ∀ s : Str, joinB b (spl b s) = s
  | [] => rfl
  | c :: s => by
    have ih := join_spl b s
    by_cases hc : c = b
    · subst hc; rw [spl_eq, joinB_cons c [] (spl_ne c s), ih]; rfl
    · obtain ⟨l', r, hs⟩ := spl_ex b s
      rw [spl_neq hc hs]; rw [hs] at ih
      cases r with
      | nil => simp only [joinB] at ih ⊢; rw [ih]
      | cons x xs => rw [joinB_cons b _ (by simp)] at ih ⊢; rw [List.cons_append, ih]
/-- One step of the loop that cuts. -/
theorem spl_step {b c : UInt8} {s : Str} {i fr : Nat} {out : List Str} (hc : s[i]? = some c) (hf : fr ≤ i) (hp : spl b (s.take i) = out ++ [(s.take i).drop fr]) :
    (c = b → spl b (s.take (i + 1)) = out ++ [(s.drop fr).take (i - fr)] ++ [(s.take (i + 1)).drop (i + 1)]) ∧ (c ≠ b → spl b (s.take (i + 1)) = out ++ [(s.take (i + 1)).drop fr]) := by
  have hlt := (List.getElem?_eq_some_iff.1 hc).1
  have e : s.take (i + 1) = s.take i ++ [c] := by rw [List.take_add_one, hc]; rfl
  constructor
  · rintro rfl
    rw [e, spl_snoc_eq hp, List.drop_take]
    simp; omega
  · intro h
    rw [e, spl_snoc_ne h hp, List.drop_append_of_le_length (by rw [List.length_take]; omega)]
end Go.Proofs.YtaddeakfojpdoaaGreatDoorC

/- Tries as trees; plain. -/
set_option linter.unusedVariables false
set_option linter.unusedSimpArgs false
namespace Go.Proofs.YtaddeakfojpdoaaGreatDoorC
open Go.RowKit
/-- A node: its subscribers, its levels, its kids at them. -/
inductive Tr
  | node (subs : List Int) (keys : List Str) (vals : List Tr)
def Tr.subs : Tr → List Int | .node s _ _ => s
def Tr.keys : Tr → List Str | .node _ k _ => k
def Tr.vals : Tr → List Tr | .node _ _ v => v
abbrev Tr.bare : Tr := .node [] [] []
/-- The kid at a level; of none a bare one. -/
def Tr.kid (t : Tr) (l : Str) : Tr := if isAt ltS t.keys l = true then (t.vals[lb ltS t.keys l]?).getD .bare else .bare
/-- A subscriber put at some levels. -/
def Tr.put : List Str → Int → Tr → Tr
  | [], s, t => .node (putK ltI t.subs s) t.keys t.vals
  | l :: ls, s, t => .node t.subs (putK ltS t.keys l) (putW ltS t.keys l t.vals (Tr.put ls s (t.kid l)))
/-- A subscriber is at some levels. -/
def Tr.At : List Str → Int → Tr → Prop
  | [], s, t => s ∈ t.subs
  | k :: p, s, t => ∃ (i : Nat) (v : Tr), t.keys[i]? = some k ∧ t.vals[i]? = some v ∧ Tr.At p s v
/-- How long levels are with a stroke behind each. -/
def wgt : List Str → Nat
  | [] => 0
  | l :: ls => l.length + 1 + wgt ls
/-- A tree whose lists rise and have at most n members, its paths at most m bytes. -/
inductive Tr.Ok (n : Nat) : Nat → Tr → Prop
  | mk {m : Nat} {ss : List Int} {ks : List Str} {vs : List Tr} (h1 : Sorted ltI ss) (h2 : ss.length ≤ n) (h3 : Sorted ltS ks) (h4 : ks.length ≤ n) (h5 : vs.length = ks.length)
      (h6 : ∀ (i : Nat) (k : Str), ks[i]? = some k → k.length + 1 ≤ m) (h7 : ∀ (i : Nat) (k : Str) (v : Tr), ks[i]? = some k → vs[i]? = some v → Tr.Ok n (m - (k.length + 1)) v) : Tr.Ok n m (.node ss ks vs)
variable {n m : Nat} {t : Tr}
theorem Tr.Ok.s (h : t.Ok n m) : Sorted ltI t.subs := by cases h; assumption
theorem Tr.Ok.sl (h : t.Ok n m) : t.subs.length ≤ n := by cases h; assumption
theorem Tr.Ok.k (h : t.Ok n m) : Sorted ltS t.keys := by cases h; assumption
theorem Tr.Ok.kl (h : t.Ok n m) : t.keys.length ≤ n := by cases h; assumption
theorem Tr.Ok.len (h : t.Ok n m) : t.vals.length = t.keys.length := by cases h; assumption
theorem Tr.Ok.kn (h : t.Ok n m) {i : Nat} {k : Str} (hk : t.keys[i]? = some k) : k.length + 1 ≤ m := by cases h with | mk _ _ _ _ _ h6 _ => exact h6 i k hk
theorem Tr.Ok.at (h : t.Ok n m) {i : Nat} {k : Str} {v : Tr} (hk : t.keys[i]? = some k) (hv : t.vals[i]? = some v) : v.Ok n (m - (k.length + 1)) := by cases h with | mk _ _ _ _ _ _ h7 => exact h7 i k v hk hv
theorem Tr.Ok.mono {n' : Nat} (hn : n ≤ n') (h : t.Ok n m) : ∀ {m' : Nat}, m ≤ m' → t.Ok n' m' := by
  induction h with
  | mk h1 h2 h3 h4 h5 h6 h7 ih => intro m' hm; exact .mk h1 (by omega) h3 (by omega) h5 (fun i k hk => by have := h6 i k hk; omega) fun i k v hk hv => ih i k v hk hv (by omega)
theorem Tr.Ok.bare : Tr.bare.Ok n m := .mk List.Pairwise.nil (Nat.zero_le _) List.Pairwise.nil (Nat.zero_le _) rfl (fun i k h => by simp at h) (fun i k v h => by simp at h)
theorem isAt_get {κ : Type} [DecidableEq κ] {lt : κ → κ → Bool} {l : List κ} {x : κ} (h : isAt lt l x = true) : l[lb lt l x]? = some x := by simpa [isAt] using h
theorem Tr.Ok.kid (h : t.Ok n m) (l : Str) : (t.kid l).Ok n (m - (l.length + 1)) := by
  unfold Tr.kid
  split
  · rename_i ha
    have hk := isAt_get ha
    have hlt := isAt_lt ha
    have hv : t.vals[lb ltS t.keys l]? = some (t.vals[lb ltS t.keys l]'(by rw [h.len]; exact hlt)) := List.getElem?_eq_getElem _
    rw [hv]; exact h.at hk hv
  · exact Tr.Ok.bare
/-- What is in a map behind a put, by places. -/
theorem put_get {β : Type} {ks : List Str} (hs : Sorted ltS ks) {l : Str} {vs : List β} {r : β} (hl : vs.length = ks.length) (k : Str) (v : β) :
    (∃ i : Nat, (putK ltS ks l)[i]? = some k ∧ (putW ltS ks l vs r)[i]? = some v) ↔ (k = l ∧ v = r) ∨ (k ≠ l ∧ ∃ i : Nat, ks[i]? = some k ∧ vs[i]? = some v) := by
  have hb := lb_le (lt := ltS) ks l
  unfold putK putW
  by_cases ha : isAt ltS ks l = true
  · rw [if_pos ha, if_pos ha]
    have hk := isAt_get ha
    have hlt := isAt_lt ha
    constructor
    · rintro ⟨i, h1, h2⟩
      rw [List.getElem?_set] at h2
      by_cases e : lb ltS ks l = i
      · rw [if_pos e, if_pos (by omega)] at h2
        subst e
        rw [hk] at h1; cases h1; cases h2; exact .inl ⟨rfl, rfl⟩
      · rw [if_neg e] at h2
        refine .inr ⟨fun ek => ?_, i, h1, h2⟩
        subst ek
        exact e ((key_at lo_str hs h1).2.1 rfl).2.symm
    · rintro (⟨rfl, rfl⟩ | ⟨hne, i, h1, h2⟩)
      · exact ⟨_, hk, by rw [List.getElem?_set, if_pos rfl, if_pos (by omega)]⟩
      · refine ⟨i, h1, ?_⟩
        rw [List.getElem?_set, if_neg (fun e => hne (by subst e; rw [hk] at h1; exact (Option.some.inj h1).symm))]; exact h2
  · rw [if_neg ha, if_neg ha]
    have hno : ∀ i : Nat, ks[i]? ≠ some l := fun i h => ha ((isAt_iff lo_str hs l).2 (List.mem_of_getElem? h))
    have e1 : ∀ i : Nat, (ks.take (lb ltS ks l) ++ l :: ks.drop (lb ltS ks l))[i]? = if i < lb ltS ks l then ks[i]? else if i = lb ltS ks l then some l else ks[i - 1]? := by
      intro i
      rw [List.getElem?_append, List.length_take, Nat.min_eq_left hb]
      split
      · rw [List.getElem?_take_of_lt (by assumption)]
      · split
        · subst_vars; simp
        · rw [show i - lb ltS ks l = (i - lb ltS ks l - 1) + 1 from by omega, List.getElem?_cons_succ, List.getElem?_drop]; congr 1; omega
    have e2 : ∀ i : Nat, (vs.take (lb ltS ks l) ++ r :: vs.drop (lb ltS ks l))[i]? = if i < lb ltS ks l then vs[i]? else if i = lb ltS ks l then some r else vs[i - 1]? := by
      intro i
      rw [List.getElem?_append, List.length_take, Nat.min_eq_left (by omega)]
      split
      · rw [List.getElem?_take_of_lt (by assumption)]
      · split
        · subst_vars; simp
        · rw [show i - lb ltS ks l = (i - lb ltS ks l - 1) + 1 from by omega, List.getElem?_cons_succ, List.getElem?_drop]; congr 1; omega
    constructor
    · rintro ⟨i, h1, h2⟩
      rw [e1] at h1; rw [e2] at h2
      by_cases c1 : i < lb ltS ks l
      · rw [if_pos c1] at h1 h2; exact .inr ⟨fun e => hno i (e ▸ h1), i, h1, h2⟩
      · rw [if_neg c1] at h1 h2
        by_cases c2 : i = lb ltS ks l
        · rw [if_pos c2] at h1 h2; cases h1; cases h2; exact .inl ⟨rfl, rfl⟩
        · rw [if_neg c2] at h1 h2; exact .inr ⟨fun e => hno _ (e ▸ h1), _, h1, h2⟩
    · rintro (⟨rfl, rfl⟩ | ⟨hne, i, h1, h2⟩)
      · exact ⟨lb ltS ks k, by rw [e1, if_neg (by omega), if_pos rfl], by rw [e2, if_neg (by omega), if_pos rfl]⟩
      · by_cases c1 : i < lb ltS ks l
        · exact ⟨i, by rw [e1, if_pos c1]; exact h1, by rw [e2, if_pos c1]; exact h2⟩
        · exact ⟨i + 1, by rw [e1, if_neg (by omega), if_neg (by omega)]; exact h1, by rw [e2, if_neg (by omega), if_neg (by omega)]; exact h2⟩
theorem Tr.Ok.put (s : Int) : ∀ (ls : List Str) {m : Nat} {t : Tr}, t.Ok n m → wgt ls ≤ m → (t.put ls s).Ok (n + 1) m
  | [], m, t, h, _ => by
    refine .mk (putK_sorted lo_int h.s s) (Nat.le_trans (putK_len _ _) (by have := h.sl; omega)) h.k (by have := h.kl; omega) h.len (fun i k hk => h.kn hk) fun i k v hk hv => (h.at hk hv).mono (by omega) (Nat.le_refl _)
  | l :: ls, m, t, h, hw => by
    simp only [wgt] at hw
    have hr := Tr.Ok.put s ls (h.kid l) (by omega)
    have key : ∀ (i : Nat) (k : Str) (v : Tr), (putK ltS t.keys l)[i]? = some k → (putW ltS t.keys l t.vals (Tr.put ls s (t.kid l)))[i]? = some v → k.length + 1 ≤ m ∧ v.Ok (n + 1) (m - (k.length + 1)) := by
      intro i k v hk hv
      rcases (put_get h.k h.len k v).1 ⟨i, hk, hv⟩ with ⟨rfl, rfl⟩ | ⟨_, j, h1, h2⟩
      · exact ⟨by omega, hr⟩
      · exact ⟨h.kn h1, (h.at h1 h2).mono (by omega) (Nat.le_refl _)⟩
    have hlen := putW_len (lt := ltS) (x := l) (r := Tr.put ls s (t.kid l)) h.len
    refine .mk h.s (by have := h.sl; omega) (putK_sorted lo_str h.k l) (Nat.le_trans (putK_len _ _) (by have := h.kl; omega)) hlen (fun i k hk => ?_) (fun i k v hk hv => (key i k v hk hv).2)
    have hi := (List.getElem?_eq_some_iff.1 hk).1
    exact (key i k _ hk (List.getElem?_eq_getElem (by omega))).1
theorem kid_at (h : t.Ok n m) (l : Str) (q : List Str) (s : Int) : (t.kid l).At q s ↔ (∃ (i : Nat) (v : Tr), t.keys[i]? = some l ∧ t.vals[i]? = some v ∧ v.At q s) ∨ (isAt ltS t.keys l = false ∧ Tr.bare.At q s) := by
  unfold Tr.kid
  by_cases ha : isAt ltS t.keys l = true
  · rw [if_pos ha]
    have hk := isAt_get ha
    have hlt := isAt_lt ha
    have hv : t.vals[lb ltS t.keys l]? = some (t.vals[lb ltS t.keys l]'(by rw [h.len]; exact hlt)) := List.getElem?_eq_getElem _
    rw [hv]
    constructor
    · intro h1; exact .inl ⟨_, _, hk, hv, h1⟩
    · rintro (⟨i, v, h1, h2, h3⟩ | ⟨h1, _⟩)
      · have e := ((key_at lo_str h.k h1).2.1 rfl).2
        subst e
        rw [hv] at h2; cases h2; exact h3
      · rw [ha] at h1; cases h1
  · rw [if_neg ha]
    have hf : isAt ltS t.keys l = false := by simpa using ha
    constructor
    · intro h1; exact .inr ⟨hf, h1⟩
    · rintro (⟨i, v, h1, _⟩ | ⟨_, h1⟩)
      · exact absurd ((isAt_iff lo_str h.k l).2 (List.mem_of_getElem? h1)) ha
      · exact h1
theorem bare_at (q : List Str) (s : Int) : ¬ Tr.bare.At q s := by
  cases q with
  | nil => simp [Tr.At, Tr.subs]
  | cons k q => rintro ⟨i, v, h, _⟩; simp [Tr.keys] at h
theorem at_put (s0 : Int) : ∀ (ls : List Str) {m : Nat} {t : Tr}, t.Ok n m → ∀ (p : List Str) (s : Int), (t.put ls s0).At p s ↔ (p = ls ∧ s = s0) ∨ t.At p s
  | [], m, t, h, p, s => by
    cases p with
    | nil => simp only [Tr.At, Tr.put, Tr.subs, true_and]; exact putK_mem lo_int h.s s0 s
    | cons k q => simp [Tr.At, Tr.put, Tr.keys, Tr.vals]
  | l :: ls, m, t, h, p, s => by
    cases p with
    | nil => simp [Tr.At, Tr.put, Tr.subs]
    | cons k q =>
      have e : (t.put (l :: ls) s0).At (k :: q) s ↔ ∃ v : Tr, (∃ i : Nat, (putK ltS t.keys l)[i]? = some k ∧ (putW ltS t.keys l t.vals (Tr.put ls s0 (t.kid l)))[i]? = some v) ∧ v.At q s := by
        simp only [Tr.At, Tr.put, Tr.keys, Tr.vals]
        constructor
        · rintro ⟨i, v, h1, h2, h3⟩; exact ⟨v, ⟨i, h1, h2⟩, h3⟩
        · rintro ⟨v, ⟨i, h1, h2⟩, h3⟩; exact ⟨i, v, h1, h2, h3⟩
      rw [e]
      have ih := at_put s0 ls (h.kid l) q s
      constructor
      · rintro ⟨v, h1, h2⟩
        rcases (put_get h.k h.len k v).1 h1 with ⟨rfl, rfl⟩ | ⟨_, i, h3, h4⟩
        · rcases ih.1 h2 with ⟨rfl, rfl⟩ | h5
          · exact .inl ⟨rfl, rfl⟩
          · rcases (kid_at h k q s).1 h5 with h6 | ⟨_, h6⟩
            · exact .inr h6
            · exact absurd h6 (bare_at _ _)
        · exact .inr ⟨i, v, h3, h4, h2⟩
      · rintro (⟨h1, rfl⟩ | ⟨i, v, h1, h2, h3⟩)
        · cases h1
          exact ⟨_, (put_get h.k h.len _ _).2 (.inl ⟨rfl, rfl⟩), ih.2 (.inl ⟨rfl, rfl⟩)⟩
        · by_cases ek : k = l
          · subst ek
            exact ⟨_, (put_get h.k h.len _ _).2 (.inl ⟨rfl, rfl⟩), ih.2 (.inr ((kid_at h k q s).2 (.inl ⟨i, v, h1, h2, h3⟩)))⟩
          · exact ⟨v, (put_get h.k h.len _ _).2 (.inr ⟨ek, i, h1, h2⟩), h3⟩

/-! ### what is told -/
/-- The pairs below a node, by their levels. -/
def Tr.toldP : Tr → List (List Str × Int)
  | .node _ ks vs => ((ks.zip vs.attach).map fun p => (p.2.1.subs.map fun s => ([p.1], s)) ++ p.2.1.toldP.map fun q => (p.1 :: q.1, q.2)).flatten
termination_by t => SizeOf.sizeOf t
decreasing_by
  have h := List.sizeOf_lt_of_mem p.2.2
  simp only [Tr.node.sizeOf_spec]; omega
/-- A kid's part. -/
def Tr.part (k : Str) (v : Tr) : List (List Str × Int) := (v.subs.map fun s => ([k], s)) ++ v.toldP.map fun q => (k :: q.1, q.2)
theorem toldP_eq (t : Tr) : t.toldP = ((t.keys.zip t.vals).map fun p => Tr.part p.1 p.2).flatten := by
  cases t with
  | node ss ks vs =>
    rw [Tr.toldP]
    simp only [Tr.keys, Tr.vals]
    congr 1
    have e : ks.zip vs = (ks.zip vs.attach).map fun p => (p.1, p.2.1) := by
      conv => lhs; rw [← List.attach_map_subtype_val vs]
      rw [List.zip_map_right]; rfl
    rw [e, List.map_map]; rfl
theorem toldP_mem (h : t.Ok n m) (p : List Str) (s : Int) : (p, s) ∈ t.toldP ↔ p ≠ [] ∧ t.At p s := by
  induction h generalizing p s with
  | @mk m ss ks vs h1 h2 h3 h4 h5 h6 h7 ih =>
    rw [toldP_eq]
    simp only [Tr.keys, Tr.vals, List.mem_flatten, List.mem_map]
    constructor
    · rintro ⟨L, ⟨⟨k, v⟩, hm, rfl⟩, hL⟩
      obtain ⟨i, hi⟩ := List.getElem?_of_mem hm
      obtain ⟨hk, hv⟩ := List.getElem?_zip_eq_some.1 hi
      rcases List.mem_append.1 hL with hL | hL
      · obtain ⟨x, hx, e⟩ := List.mem_map.1 hL; cases e
        exact ⟨by simp, i, v, hk, hv, hx⟩
      · obtain ⟨⟨q, x⟩, hx, e⟩ := List.mem_map.1 hL; cases e
        have := (ih i k v hk hv q x).1 hx
        exact ⟨by simp, i, v, hk, hv, this.2⟩
    · rintro ⟨hne, hat⟩
      cases p with
      | nil => exact absurd rfl hne
      | cons k q =>
        obtain ⟨i, v, hk, hv, ha⟩ := hat
        refine ⟨_, ⟨(k, v), List.mem_of_getElem? (List.getElem?_zip_eq_some.2 ⟨hk, hv⟩), rfl⟩, ?_⟩
        cases q with
        | nil => exact List.mem_append.2 (.inl (List.mem_map.2 ⟨s, ha, rfl⟩))
        | cons a q => exact List.mem_append.2 (.inr (List.mem_map.2 ⟨(a :: q, s), (ih i k v hk hv _ _).2 ⟨by simp, ha⟩, rfl⟩))
/-- Levels by their order: the shorter one first, if it is the other one's begin. -/
def ltP : List Str → List Str → Bool
  | _, [] => false
  | [], _ :: _ => true
  | a :: p, b :: q => ltS a b || (decide (a = b) && ltP p q)
def ltQ (a b : List Str × Int) : Bool := ltP a.1 b.1 || (decide (a.1 = b.1) && ltI a.2 b.2)
theorem lo_P : Lo ltP := by
  have irr : ∀ p, ltP p p = false := by
    intro p
    induction p with
    | nil => rfl
    | cons a p ih => simp only [ltP, ih, Bool.and_false, Bool.or_false]; exact lo_str.irr a
  refine ⟨irr, ?_, ?_⟩
  · intro a
    induction a with
    | nil => intro b c h k; cases b <;> cases c <;> simp_all [ltP]
    | cons a p ih =>
      intro b c h k
      cases b with
      | nil => simp [ltP] at h
      | cons b q =>
        cases c with
        | nil => simp [ltP] at k
        | cons c r =>
          simp only [ltP, Bool.or_eq_true, Bool.and_eq_true, decide_eq_true_eq] at h k ⊢
          rcases h with h | ⟨rfl, h⟩
          · rcases k with k | ⟨rfl, k⟩
            · exact .inl (lo_str.tr _ _ _ h k)
            · exact .inl h
          · rcases k with k | ⟨rfl, k⟩
            · exact .inl k
            · exact .inr ⟨rfl, ih _ _ h k⟩
  · intro a
    induction a with
    | nil => intro b h k; cases b with | nil => rfl | cons b q => simp [ltP] at h
    | cons a p ih =>
      intro b h k
      cases b with
      | nil => simp [ltP] at k
      | cons b q =>
        simp only [ltP, Bool.or_eq_false_iff, Bool.and_eq_false_imp, decide_eq_true_eq] at h k
        have e := lo_str.tri a b h.1 k.1
        subst e
        rw [ih q (h.2 rfl) (k.2 rfl)]
theorem lo_Q : Lo ltQ := by
  refine ⟨fun a => ?_, fun a b c h k => ?_, fun a b h k => ?_⟩
  · simp only [ltQ, lo_P.irr, Bool.false_or, lo_int.irr, Bool.and_false]
  · simp only [ltQ, Bool.or_eq_true, Bool.and_eq_true, decide_eq_true_eq] at h k ⊢
    rcases h with h | ⟨e, h⟩
    · rcases k with k | ⟨e', k⟩
      · exact .inl (lo_P.tr _ _ _ h k)
      · rw [← e']; exact .inl h
    · rcases k with k | ⟨e', k⟩
      · rw [e]; exact .inl k
      · exact .inr ⟨e.trans e', lo_int.tr _ _ _ h k⟩
  · simp only [ltQ, Bool.or_eq_false_iff, Bool.and_eq_false_imp, decide_eq_true_eq] at h k
    have e := lo_P.tri _ _ h.1 k.1
    exact Prod.ext e (lo_int.tri _ _ (h.2 e) (k.2 e.symm))
theorem toldP_sorted (h : t.Ok n m) : Sorted ltQ t.toldP := by
  induction h with
  | @mk m ss ks vs h1 h2 h3 h4 h5 h6 h7 ih =>
    rw [toldP_eq]
    simp only [Tr.keys, Tr.vals]
    unfold Sorted
    rw [List.pairwise_flatten]
    have head : ∀ (k : Str) (v : Tr) (x : List Str × Int), x ∈ Tr.part k v → ∃ q, x.1 = k :: q := by
      intro k v x hx
      rcases List.mem_append.1 hx with hx | hx
      · obtain ⟨s, _, rfl⟩ := List.mem_map.1 hx; exact ⟨_, rfl⟩
      · obtain ⟨q, _, rfl⟩ := List.mem_map.1 hx; exact ⟨_, rfl⟩
    constructor
    · intro L hL
      obtain ⟨⟨k, v⟩, hm, rfl⟩ := List.mem_map.1 hL
      obtain ⟨i, hi⟩ := List.getElem?_of_mem hm
      obtain ⟨hk, hv⟩ := List.getElem?_zip_eq_some.1 hi
      have hOk := h7 i k v hk hv
      unfold Tr.part
      rw [List.pairwise_append]
      refine ⟨?_, ?_, ?_⟩
      · rw [List.pairwise_map]
        exact hOk.s.imp fun {a b} hab => by simp [ltQ, hab]
      · rw [List.pairwise_map]
        refine (ih i k v hk hv).imp fun {a b} hab => ?_
        simp only [ltQ, ltP, lo_str.irr, Bool.false_or, decide_true, Bool.true_and] at hab ⊢
        simpa using hab
      · intro a ha b hb
        obtain ⟨x, _, rfl⟩ := List.mem_map.1 ha
        obtain ⟨⟨q, y⟩, hq, rfl⟩ := List.mem_map.1 hb
        have hne := ((toldP_mem hOk q y).1 hq).1
        cases q with
        | nil => exact absurd rfl hne
        | cons c q => simp [ltQ, ltP]
    · rw [List.pairwise_map]
      have hz : ((ks.zip vs).map fun p => p.1) = ks := by rw [List.map_fst_zip (by omega)]
      have hs : (ks.zip vs).Pairwise fun a b => ltS a.1 b.1 = true := by
        have := h3; unfold Sorted at this; rw [← hz, List.pairwise_map] at this; exact this
      refine hs.imp fun {a b} hab x hx y hy => ?_
      obtain ⟨q, e1⟩ := head _ _ _ hx
      obtain ⟨r, e2⟩ := head _ _ _ hy
      simp [ltQ, e1, e2, ltP, hab]
/-- What is told behind a put. -/
theorem toldP_put (h : t.Ok n m) {ls : List Str} (hne : ls ≠ []) (hw : wgt ls ≤ m) (s : Int) : (t.put ls s).toldP = putK ltQ t.toldP (ls, s) := by
  refine sorted_ext lo_Q _ _ (toldP_sorted (h.put s ls hw)) (putK_sorted lo_Q (toldP_sorted h) _) fun x => ?_
  obtain ⟨p, y⟩ := x
  rw [toldP_mem (h.put s ls hw), putK_mem lo_Q (toldP_sorted h), toldP_mem h, at_put s ls h]
  constructor
  · rintro ⟨h1, ⟨rfl, rfl⟩ | h2⟩
    · exact .inl rfl
    · exact .inr ⟨h1, h2⟩
  · rintro (h1 | ⟨h1, h2⟩)
    · cases h1; exact ⟨hne, .inl ⟨rfl, rfl⟩⟩
    · exact ⟨h1, .inr h2⟩
/-- The pairs below a node, as texts behind a begin. -/
def Tr.told (ahead : Str) (t : Tr) : List (Str × Int) := t.toldP.map fun q => (ahead ++ joinB 47 q.1, q.2)
theorem told_eq (h : t.Ok n m) (ahead : Str) : t.told ahead = ((t.keys.zip t.vals).map fun p => (p.2.subs.map fun s => (ahead ++ p.1, s)) ++ p.2.told (ahead ++ p.1 ++ [47])).flatten := by
  unfold Tr.told
  rw [toldP_eq, List.map_flatten, List.map_map]
  congr 1
  refine List.map_congr_left fun p hp => ?_
  obtain ⟨k, v⟩ := p
  obtain ⟨i, hi⟩ := List.getElem?_of_mem hp
  obtain ⟨hk, hv⟩ := List.getElem?_zip_eq_some.1 hi
  have hOk := h.at hk hv
  simp only [Function.comp, Tr.part, List.map_append, List.map_map]
  congr 1
  refine List.map_congr_left fun q hq => ?_
  have hne := ((toldP_mem hOk q.1 q.2).1 hq).1
  simp only [Function.comp]
  rw [joinB_cons _ _ hne]; simp
end Go.Proofs.YtaddeakfojpdoaaGreatDoorC

/- An element of several cells of a call's own slice is written over. -/
set_option linter.unusedVariables false
set_option linter.unusedSimpArgs false
namespace Go.Proofs.YtaddeakfojpdoaaGreatDoorC
open Go.RowKit
variable {ro : Option Nat} {P : Program} {n : Nat} {Q : Post} {σ : Env} {D : List Deferred} {w : World} {dst : Option Nat} {ty : TypeId} {pos : String} {af : Array Edge} {g : Option (Nat × Bool)}
variable {ops rest : List Oper} {K : Ops}
/-- A part of a box is written: several cells. -/
theorem wl_storeP {t : TypeId} {x y : Operand} {b i k : Nat} {cs vs : List Value} (hT : structT P t k) (hx : ev σ x = .pointer (some ⟨b, i, none⟩)) (hy : ev σ y = .agg vs.toArray) (hk : vs.length = k) (h1 : ∀ u ∈ vs, u.oneCell' = true) (hb : IsBox w b cs) (hl : i + k ≤ cs.length)
    (kk : ∀ w', Ext (fun j => j = b) w w' → IsBox w' b (patch cs i vs) → w'.heap.size = w.heap.size → wl P ops rest K σ w') : wl P ops (⟨none, .store t x y, ty, pos, af, none⟩ :: rest) K σ w := by
  obtain ⟨w', h2, h3, h4, h5⟩ := rs_store (dst := none) (ty := ty) (pos := pos) (af := af) (g := none) (by simp [Value.cells, hk]; simpa using hT.2) hx hy (by simpa [Value.cells] using h1) hb (by simp [Value.cells]; omega)
  refine wl_do h2 (kk w' h3 ?_ h5)
  have : (Value.agg vs.toArray).cells.toList = vs := by simp [Value.cells]
  rw [this] at h4
  exact h4
end Go.Proofs.YtaddeakfojpdoaaGreatDoorC

/- The types of this translation, in the calculus of YtaddeakfojpdoaaGreatDoorCoreA: each fact off the tables, by the kernel. -/
set_option linter.unusedVariables false
namespace Go.Proofs.YtaddeakfojpdoaaGreatDoorC
open Go.RowKit
theorem mixed : Tryz.prog.follows .mixedOrders = true := by kernel_rfl
theorem p_3 : plainT Tryz.prog 3 := ⟨by kernel_rfl, by kernel_rfl⟩
theorem z_3 : zeroT Tryz.prog 3 [.int .i64 0] := by unfold zeroT; kernel_rfl
theorem ui_3 : Tryz.prog.underlying 3 = some (.int .i64) := by kernel_rfl
theorem p_4 : plainT Tryz.prog 4 := ⟨by kernel_rfl, by kernel_rfl⟩
theorem z_4 : zeroT Tryz.prog 4 [.bool false] := by unfold zeroT; kernel_rfl
theorem p_9 : plainT Tryz.prog 9 := ⟨by kernel_rfl, by kernel_rfl⟩
theorem z_9 : zeroT Tryz.prog 9 [.string ⟨#[]⟩] := by unfold zeroT; kernel_rfl
theorem us_9 : Tryz.prog.underlying 9 = some .string := by kernel_rfl
theorem p_22 : plainT Tryz.prog 22 := ⟨by kernel_rfl, by kernel_rfl⟩
theorem z_22 : zeroT Tryz.prog 22 [.slice none 0 0] := by unfold zeroT; kernel_rfl
theorem sl_22 : SliceT Tryz.prog 22 9 1 16 [.string ⟨#[]⟩] := ⟨by kernel_rfl, by kernel_rfl⟩
theorem p_23 : plainT Tryz.prog 23 := ⟨by kernel_rfl, by kernel_rfl⟩
theorem z_23 : zeroT Tryz.prog 23 [.slice none 0 0] := by unfold zeroT; kernel_rfl
theorem sl_23 : SliceT Tryz.prog 23 3 1 8 [.int .i64 0] := ⟨by kernel_rfl, by kernel_rfl⟩
theorem p_26 : plainT Tryz.prog 26 := ⟨by kernel_rfl, by kernel_rfl⟩
theorem z_26 : zeroT Tryz.prog 26 [.pointer none] := by unfold zeroT; kernel_rfl
theorem uf_31 : (match Tryz.prog.underlying 31 with | some (.func ..) => true | _ => false) = true := by kernel_rfl
theorem p_37 : plainT Tryz.prog 37 := ⟨by kernel_rfl, by kernel_rfl⟩
theorem p_70 : plainT Tryz.prog 70 := ⟨by kernel_rfl, by kernel_rfl⟩
theorem p_94 : plainT Tryz.prog 94 := ⟨by kernel_rfl, by kernel_rfl⟩
theorem sl_94 : SliceT Tryz.prog 94 158 0 0 [] := ⟨by kernel_rfl, by kernel_rfl⟩
theorem s_96 : structT Tryz.prog 96 2 := ⟨by kernel_rfl, by kernel_rfl⟩
theorem z_96 : zeroT Tryz.prog 96 [.slice none 0 0, .slice none 0 0] := by unfold zeroT; kernel_rfl
theorem b_96 : BuildT Tryz.prog 96 [(0, 1), (1, 1)] [.slice none 0 0, .slice none 0 0] := ⟨by kernel_rfl, by kernel_rfl, by kernel_rfl, by kernel_rfl⟩
theorem s_98 : structT Tryz.prog 98 2 := ⟨by kernel_rfl, by kernel_rfl⟩
theorem z_98 : zeroT Tryz.prog 98 [.slice none 0 0, .slice none 0 0] := by unfold zeroT; kernel_rfl
theorem b_98 : BuildT Tryz.prog 98 [(0, 2)] [.slice none 0 0, .slice none 0 0] := ⟨by kernel_rfl, by kernel_rfl, by kernel_rfl, by kernel_rfl⟩
theorem p_132 : plainT Tryz.prog 132 := ⟨by kernel_rfl, by kernel_rfl⟩
theorem sl_132 : SliceT Tryz.prog 132 26 1 8 [.pointer none] := ⟨by kernel_rfl, by kernel_rfl⟩
theorem s_134 : structT Tryz.prog 134 2 := ⟨by kernel_rfl, by kernel_rfl⟩
theorem z_134 : zeroT Tryz.prog 134 [.slice none 0 0, .slice none 0 0] := by unfold zeroT; kernel_rfl
theorem b_134 : BuildT Tryz.prog 134 [(0, 1), (1, 1)] [.slice none 0 0, .slice none 0 0] := ⟨by kernel_rfl, by kernel_rfl, by kernel_rfl, by kernel_rfl⟩
theorem s_136 : structT Tryz.prog 136 4 := ⟨by kernel_rfl, by kernel_rfl⟩
theorem z_136 : zeroT Tryz.prog 136 [.slice none 0 0, .slice none 0 0, .slice none 0 0, .slice none 0 0] := by unfold zeroT; kernel_rfl
theorem b_136 : BuildT Tryz.prog 136 [(0, 2), (2, 2)] [.slice none 0 0, .slice none 0 0, .slice none 0 0, .slice none 0 0] := ⟨by kernel_rfl, by kernel_rfl, by kernel_rfl, by kernel_rfl⟩
theorem p_144 : plainT Tryz.prog 144 := ⟨by kernel_rfl, by kernel_rfl⟩
theorem s_158 : structT Tryz.prog 158 0 := ⟨by kernel_rfl, by kernel_rfl⟩
theorem b_158 : BuildT Tryz.prog 158 [] [] := ⟨by kernel_rfl, by kernel_rfl, by kernel_rfl, by kernel_rfl⟩
theorem ui_183 : Tryz.prog.underlying 183 = some (.int .u64) := by kernel_rfl
theorem f_96_0 : FieldT Tryz.prog 96 0 0 23 1 := ⟨by kernel_rfl, by kernel_rfl, by kernel_rfl⟩
theorem f_96_1 : FieldT Tryz.prog 96 1 1 94 1 := ⟨by kernel_rfl, by kernel_rfl, by kernel_rfl⟩
theorem f_98_0 : FieldT Tryz.prog 98 0 0 96 2 := ⟨by kernel_rfl, by kernel_rfl, by kernel_rfl⟩
theorem f_134_0 : FieldT Tryz.prog 134 0 0 22 1 := ⟨by kernel_rfl, by kernel_rfl, by kernel_rfl⟩
theorem f_134_1 : FieldT Tryz.prog 134 1 1 132 1 := ⟨by kernel_rfl, by kernel_rfl, by kernel_rfl⟩
theorem f_136_0 : FieldT Tryz.prog 136 0 0 98 2 := ⟨by kernel_rfl, by kernel_rfl, by kernel_rfl⟩
theorem f_136_1 : FieldT Tryz.prog 136 1 2 134 2 := ⟨by kernel_rfl, by kernel_rfl, by kernel_rfl⟩
theorem e_6 : entersB Tryz.prog 6 = true := by kernel_rfl
theorem e_7 : entersB Tryz.prog 7 = true := by kernel_rfl
theorem e_8 : entersB Tryz.prog 8 = true := by kernel_rfl
theorem e_9 : entersB Tryz.prog 9 = true := by kernel_rfl
theorem e_10 : entersB Tryz.prog 10 = true := by kernel_rfl
theorem e_11 : entersB Tryz.prog 11 = true := by kernel_rfl
theorem e_12 : entersB Tryz.prog 12 = true := by kernel_rfl
theorem e_13 : entersB Tryz.prog 13 = true := by kernel_rfl
theorem e_14 : entersB Tryz.prog 14 = true := by kernel_rfl
theorem e_15 : entersB Tryz.prog 15 = true := by kernel_rfl
theorem e_16 : entersB Tryz.prog 16 = true := by kernel_rfl
theorem e_17 : entersB Tryz.prog 17 = true := by kernel_rfl
theorem e_21 : entersB Tryz.prog 21 = true := by kernel_rfl
theorem e_22 : entersB Tryz.prog 22 = true := by kernel_rfl
theorem e_23 : entersB Tryz.prog 23 = true := by kernel_rfl
theorem e_24 : entersB Tryz.prog 24 = true := by kernel_rfl
theorem e_25 : entersB Tryz.prog 25 = true := by kernel_rfl
theorem e_26 : entersB Tryz.prog 26 = true := by kernel_rfl
theorem e_27 : entersB Tryz.prog 27 = true := by kernel_rfl
theorem e_28 : entersB Tryz.prog 28 = true := by kernel_rfl
theorem e_29 : entersB Tryz.prog 29 = true := by kernel_rfl
theorem e_30 : entersB Tryz.prog 30 = true := by kernel_rfl
theorem e_39 : entersB Tryz.prog 39 = true := by kernel_rfl
theorem e_40 : entersB Tryz.prog 40 = true := by kernel_rfl
theorem e_41 : entersB Tryz.prog 41 = true := by kernel_rfl
theorem e_42 : entersB Tryz.prog 42 = true := by kernel_rfl
theorem e_43 : entersB Tryz.prog 43 = true := by kernel_rfl
theorem e_44 : entersB Tryz.prog 44 = true := by kernel_rfl
theorem e_45 : entersB Tryz.prog 45 = true := by kernel_rfl
theorem e_46 : entersB Tryz.prog 46 = true := by kernel_rfl
theorem e_47 : entersB Tryz.prog 47 = true := by kernel_rfl
theorem e_48 : entersB Tryz.prog 48 = true := by kernel_rfl
theorem e_49 : entersB Tryz.prog 49 = true := by kernel_rfl
theorem e_64 : entersB Tryz.prog 64 = true := by kernel_rfl
theorem e_65 : entersB Tryz.prog 65 = true := by kernel_rfl
theorem e_66 : entersB Tryz.prog 66 = true := by kernel_rfl
theorem e_67 : entersB Tryz.prog 67 = true := by kernel_rfl
theorem e_68 : entersB Tryz.prog 68 = true := by kernel_rfl
theorem e_69 : entersB Tryz.prog 69 = true := by kernel_rfl
theorem e_70 : entersB Tryz.prog 70 = true := by kernel_rfl
theorem e_71 : entersB Tryz.prog 71 = true := by kernel_rfl
theorem e_72 : entersB Tryz.prog 72 = true := by kernel_rfl
theorem e_74 : entersB Tryz.prog 74 = true := by kernel_rfl
theorem e_75 : entersB Tryz.prog 75 = true := by kernel_rfl
theorem e_76 : entersB Tryz.prog 76 = true := by kernel_rfl
theorem e_77 : entersB Tryz.prog 77 = true := by kernel_rfl
theorem e_87 : entersB Tryz.prog 87 = true := by kernel_rfl
theorem e_88 : entersB Tryz.prog 88 = true := by kernel_rfl
theorem e_98 : entersB Tryz.prog 98 = true := by kernel_rfl
theorem e_99 : entersB Tryz.prog 99 = true := by kernel_rfl
theorem e_100 : entersB Tryz.prog 100 = true := by kernel_rfl
theorem e_101 : entersB Tryz.prog 101 = true := by kernel_rfl
theorem e_102 : entersB Tryz.prog 102 = true := by kernel_rfl
theorem e_103 : entersB Tryz.prog 103 = true := by kernel_rfl
theorem e_104 : entersB Tryz.prog 104 = true := by kernel_rfl
theorem e_105 : entersB Tryz.prog 105 = true := by kernel_rfl
theorem e_106 : entersB Tryz.prog 106 = true := by kernel_rfl
theorem e_107 : entersB Tryz.prog 107 = true := by kernel_rfl
theorem e_108 : entersB Tryz.prog 108 = true := by kernel_rfl
theorem e_113 : entersB Tryz.prog 113 = true := by kernel_rfl
theorem e_114 : entersB Tryz.prog 114 = true := by kernel_rfl
theorem e_115 : entersB Tryz.prog 115 = true := by kernel_rfl
theorem e_124 : entersB Tryz.prog 124 = true := by kernel_rfl
theorem e_125 : entersB Tryz.prog 125 = true := by kernel_rfl
theorem e_126 : entersB Tryz.prog 126 = true := by kernel_rfl
theorem e_138 : entersB Tryz.prog 138 = true := by kernel_rfl
theorem e_139 : entersB Tryz.prog 139 = true := by kernel_rfl
theorem e_140 : entersB Tryz.prog 140 = true := by kernel_rfl
theorem e_141 : entersB Tryz.prog 141 = true := by kernel_rfl
theorem e_142 : entersB Tryz.prog 142 = true := by kernel_rfl
theorem e_143 : entersB Tryz.prog 143 = true := by kernel_rfl
theorem e_144 : entersB Tryz.prog 144 = true := by kernel_rfl
theorem e_145 : entersB Tryz.prog 145 = true := by kernel_rfl
theorem e_146 : entersB Tryz.prog 146 = true := by kernel_rfl
theorem e_147 : entersB Tryz.prog 147 = true := by kernel_rfl
theorem e_148 : entersB Tryz.prog 148 = true := by kernel_rfl
theorem e_149 : entersB Tryz.prog 149 = true := by kernel_rfl
theorem e_154 : entersB Tryz.prog 154 = true := by kernel_rfl
theorem e_163 : entersB Tryz.prog 163 = true := by kernel_rfl
theorem e_166 : entersB Tryz.prog 166 = true := by kernel_rfl
theorem e_167 : entersB Tryz.prog 167 = true := by kernel_rfl
theorem e_168 : entersB Tryz.prog 168 = true := by kernel_rfl
theorem e_169 : entersB Tryz.prog 169 = true := by kernel_rfl
end Go.Proofs.YtaddeakfojpdoaaGreatDoorC
