/- Writing into slices of one's own, making and copying slices, contracts of functions that write, in the calculus; each rule holds of whatever program. -/
import Derived.Test.YtaddeakfojpdoaaGreatDoorBunM2
import Derived.Laws.Cover3
import Derived.Test.YtaddeakfojpdoaaGreatDoorProg
set_option linter.unusedVariables false
set_option linter.unusedSimpArgs false
namespace Go.Proofs.YtaddeakfojpdoaaGreatDoorC
open Go.RowKit
variable {ro : Option Nat} {P : Program} {n : Nat} {Q : Post} {σ : Env} {D : List Deferred} {w : World} {dst : Option Nat} {ty : TypeId} {pos : String} {af : Array Edge} {g : Option (Nat × Bool)}
variable {ops rest : List Oper} {K : Ops}

/-! ### contracts of functions that write -/
def FnM (P : Program) (M : Nat → Prop) (f : FuncId) (args : Array Value) (w : World) (R : Value → World → Prop) : Prop :=
  Calls P f args w fun e w' => ∃ v, e = .returned v ∧ Ext M w w' ∧ R v w'
theorem fnM_of_W {M : Nat → Prop} {f : FuncId} {fn : Func} {c : Code} {args : List Value} {R : Value → World → Prop} (hf : P.funcs[f]? = some fn) (hb : fn.body = some c) (hk : okc fn.ntmps c = true) (hl' : Nat.ble args.length fn.ntmps = true)
    (h : W none P fn.ntmps c (RetQ P fn.results.toList (fun v w' => Ext M w w' ∧ R v w')) (env0 args) [] w) : FnM P M f args.toArray w R :=
  calls_of_W hf hb hk hl' h
theorem wl_callM {M : Nat → Prop} {f : FuncId} {ags : List Operand} {ts : Array TypeId} {args : List Value} {R : Value → World → Prop} (hf : entersB P f = true) (ha : ags.map (ev σ) = args) (h : FnM P M f args.toArray w R)
    (k : ∀ v w', Ext M w w' → R v w' → wl P ops rest K (put σ dst v) w') : wl P ops (⟨dst, .call ⟨.value (.func f), ags.toArray, ts⟩, ty, pos, af, none⟩ :: rest) K σ w := by
  show step1 P ops _ σ w _
  rw [step1_none]; unfold op1
  have e : (execOp (ev σ) ⟨dst, .call ⟨.value (.func f), ags.toArray, ts⟩, ty, pos, af, none⟩).run P w = .ok (.enter f args.toArray) w := by
    simp [execOp, resolve, ev, ha, Deferred.ofValue, invoke, run_enters hf]
  rw [e]
  exact Calls.mono h fun e w' hx => by obtain ⟨v, h1, h2, h3⟩ := hx; exact ⟨v, h1, k v w' h2 h3⟩

/-! ### rows -/
def patchR (rows : List (List Value)) (l : Nat) (rs : List (List Value)) : List (List Value) := rows.take l ++ rs ++ rows.drop (l + rs.length)
theorem patchR_length {rows : List (List Value)} {l : Nat} {rs : List (List Value)} (h : l + rs.length ≤ rows.length) : (patchR rows l rs).length = rows.length := by simp [patchR]; omega
theorem flat_take {k : Nat} {rows : List (List Value)} (h : ∀ r ∈ rows, r.length = k) (l : Nat) (hl : l ≤ rows.length) : rows.flatten.take (l * k) = (rows.take l).flatten := by
  conv => lhs; rw [← List.take_append_drop l rows, List.flatten_append]
  have e : (rows.take l).flatten.length = l * k := by rw [flat_len (fun r hr => h r (List.mem_of_mem_take hr)), List.length_take, Nat.min_eq_left hl]
  rw [List.take_append_of_le_length (by omega), List.take_of_length_le (by omega)]
theorem flat_drop {k : Nat} {rows : List (List Value)} (h : ∀ r ∈ rows, r.length = k) (l : Nat) (hl : l ≤ rows.length) : rows.flatten.drop (l * k) = (rows.drop l).flatten := by
  conv => lhs; rw [← List.take_append_drop l rows, List.flatten_append]
  have e : (rows.take l).flatten.length = l * k := by rw [flat_len (fun r hr => h r (List.mem_of_mem_take hr)), List.length_take, Nat.min_eq_left hl]
  rw [List.drop_append_of_le_length (by omega), List.drop_of_length_le (by omega), List.nil_append]
theorem flat_patch {k : Nat} {rows rs : List (List Value)} (h : ∀ r ∈ rows, r.length = k) (h2 : ∀ r ∈ rs, r.length = k) (l : Nat) (hl : l + rs.length ≤ rows.length) (sp : List Value) : patch (rows.flatten ++ sp) (l * k) rs.flatten = (patchR rows l rs).flatten ++ sp := by
  have e1 : rows.flatten.length = rows.length * k := flat_len h
  have e2 : rs.flatten.length = rs.length * k := flat_len h2
  have e3 : l * k + rs.length * k ≤ rows.length * k := by rw [← Nat.add_mul]; exact Nat.mul_le_mul_right _ hl
  unfold patch patchR
  rw [List.take_append_of_le_length (by omega), flat_take h l (by omega), e2, ← Nat.add_mul, List.drop_append_of_le_length (by rw [e1]; exact Nat.mul_le_mul_right _ hl), flat_drop h _ hl]
  simp
/-- A call's own slice, its elements from number l on written over. -/
theorem Ow.write {v : Value} {b k : Nat} {rows : List (List Value)} {spare : List Value} (h : Ow w v b k rows spare) {rs : List (List Value)} (hr : ∀ r ∈ rs, r.length = k) (h1 : ∀ r ∈ rs, ∀ u ∈ r, u.oneCell' = true) (l : Nat) (hl : l + rs.length ≤ rows.length) :
    ∃ w', (storeCells ⟨b, l * k, none⟩ rs.flatten).run P w = .ok () w' ∧ Ext (fun i => i = b) w w' ∧ Ow w' v b k (patchR rows l rs) spare ∧ w'.heap.size = w.heap.size := by
  obtain ⟨⟨c, hv, hc1, hc2, hc3⟩, ⟨T, hbox⟩, heach⟩ := h
  have e1 := flat_len heach
  have e2 := flat_len hr
  obtain ⟨w', h2, h3, h4, h5⟩ := run_storeBox (P := P) b T rs.flatten (l * k) 0 (rows.flatten ++ spare) w hbox (fun u hu => by obtain ⟨r, hr', hu⟩ := List.mem_flatten.1 hu; exact h1 r hr' u hu)
    (by simp only [List.length_append]; rw [e1, e2, Nat.add_zero, ← Nat.add_mul]; exact Nat.le_trans (Nat.mul_le_mul_right _ hl) (Nat.le_add_right _ _))
  rw [Nat.add_zero, flat_patch heach hr l hl] at h4
  refine ⟨w', h2, h3, ⟨⟨c, by rw [patchR_length hl]; exact hv, by rw [patchR_length hl]; exact hc1, hc2, by rw [patchR_length hl]; exact hc3⟩, ⟨T, h4⟩, fun r hr' => ?_⟩, h5⟩
  simp only [patchR, List.append_assoc, List.mem_append] at hr'
  rcases hr' with hr' | hr' | hr'
  · exact heach r (List.mem_of_mem_take hr')
  · exact hr r hr'
  · exact heach r (List.mem_of_mem_drop hr')

/-! ### make, copy, append, clear -/
theorem zeros_flat {z : List Value} {k n : Nat} {zc : Array Value} (hz : z.length = k) (hzc : zc.toList = z) : (Builtin.zeroCells zc n).toList = (List.replicate n z).flatten := by
  have hs : zc.size = k := by rw [← hz, ← hzc]; simp
  apply List.ext_getElem
  · simp [Builtin.zeroCells, hz, hs]
  · intro i h1 h2
    simp only [List.length_flatten, List.map_replicate, hz, List.sum_replicate_nat] at h2
    have hk0 : 0 < k := Nat.pos_of_ne_zero (fun e => by simp [e] at h2)
    have hik : i / k < n := Nat.div_lt_of_lt_mul (by rw [Nat.mul_comm]; exact h2)
    have e1 : (List.replicate n z).flatten[i / k * k + i % k]? = ((List.replicate n z)[i / k]'(by simpa using hik))[i % k]? := flat_at (k := k) (fun r hr => by rw [List.eq_of_mem_replicate hr, hz]) (i / k) (i % k) (by simpa using hik) (Nat.mod_lt _ hk0)
    rw [Nat.div_add_mod' i k] at e1
    have e2 : (List.replicate n z).flatten[i]? = some (z[i % k]'(by rw [hz]; exact Nat.mod_lt _ hk0)) := by rw [e1]; simp
    obtain ⟨_, e3⟩ := List.getElem?_eq_some_iff.1 e2
    rw [e3]
    have hlt : i % zc.size < zc.size := Nat.mod_lt _ (by omega)
    simp only [Builtin.zeroCells, Array.getElem_toList, Array.getElem_map, Array.getElem_range]
    have e5 : zc[i % zc.size]! = zc[i % zc.size]'hlt := by simp [hlt]
    rw [e5]
    subst hzc
    simp [hs]
section
variable {t e : TypeId} {k bytes : Nat} {z : List Value}
/-- make([]T, m) -/
theorem wl_make (hT : SliceT P t e k bytes z) (hz : z.length = k) {l c : Operand} {m d : Nat} (hl : ev σ l = .int .i64 m) (hc : ev σ c = .int .i64 m) (hb : m * bytes ≤ 140737488355328) (hm : m ≤ big)
    (kk : ∀ w' b, w.heap.size ≤ b → Ext Non w w' → Ow w' (.slice (some ⟨b, 0, none⟩) m m) b k (List.replicate m z) [] → wl P ops rest K (upd σ d (.slice (some ⟨b, 0, none⟩) m m)) w') : wl P ops (⟨some d, .makeSlice t l c, ty, pos, af, none⟩ :: rest) K σ w := by
  obtain ⟨inf, v0, i1, i2, i3, i4, i5⟩ := hT.inf
  have hcells : ∀ zr : Array Value, (m * k = 0 → zr = #[]) → (¬ m * k = 0 → zr = v0.cells) → ((Array.range (m * k)).map (zr[· % zr.size]!)).toList = (List.replicate m z).flatten := by
    intro zr h0 h1
    by_cases hmk : m * k = 0
    · rw [h0 hmk, hmk]
      have : (List.replicate m z).flatten.length = 0 := by simp [hz, hmk]
      rw [List.length_eq_zero_iff.1 this]; simp
    · rw [h1 hmk]
      have := zeros_flat (n := m) hz i5
      have hs : v0.cells.size = k := by rw [← hz, ← i5]; simp
      rw [← this, Builtin.zeroCells, hs]
  refine wl_new (w' := w.alloc (.cells ((Array.range (m * k)).map ((if m * k = 0 then #[] else v0.cells)[· % (if m * k = 0 then #[] else v0.cells).size]!)) e)) (v := .slice (some ⟨w.heap.size, 0, none⟩) m m) ?_
    (kk _ _ (Nat.le_refl _) (Ext.alloc _ _) ⟨⟨m, by simp, by simp, hm, by simp⟩, ?_, fun r hr => by rw [List.eq_of_mem_replicate hr, hz]⟩)
  · show (execOp (ev σ) _).run P w = _
    have hw : IntKind.i64.wrap (m : Int) = m := wrap_id (by simp only [big] at hm; omega)
    have hmax : ¬ ((bytes : Int) * (m : Int) > 2 ^ 48) := by
      have : ((bytes * m : Nat) : Int) ≤ 140737488355328 := by rw [Nat.mul_comm]; omega
      rw [Int.natCast_mul] at this; omega
    have hneg : ¬ ((m : Int) < 0) := by omega
    have hai : ∀ w', (asInt (.int .i64 (m : Int))).run P w' = .ok (m : Int) w' := fun w' => by simp [asInt, asIntOf]
    have hmax' : ¬ ((281474976710656 : Int) < (bytes : Int) * (m : Int)) := by omega
    by_cases h0 : m * k = 0
    · simp [execOp, Instr.makeSlice, hl, hc, hai, run_underlying hT.under, typeInfo, i1, hw, i3, hmax', hneg, run_sizeOf' i1, i2, h0, newRow]
    · simp [execOp, Instr.makeSlice, hl, hc, hai, run_underlying hT.under, typeInfo, i1, hw, i3, hmax', hneg, run_sizeOf' i1, i2, h0, newRow, zeroValue, i4]
  · have := box_alloc w ((Array.range (m * k)).map ((if m * k = 0 then #[] else v0.cells)[· % (if m * k = 0 then #[] else v0.cells).size]!)) e
    rw [hcells _ (fun h => by rw [if_pos h]) (fun h => by rw [if_neg h])] at this
    rw [List.append_nil]; exact this
/-- append(s, x...), s without room. -/
theorem wl_grow (hT : SliceT P t e k bytes z) (hz : z.length = k) {M M' : Nat → Prop} {s x : Operand} {d : Nat} {a a2 : Option Addr} {m c m2 c2 : Nat} {rows rows2 : List (List Value)} (hsv : ev σ s = .slice a m c) (hxv : ev σ x = .slice a2 m2 c2)
    (hs : Sl M w (.slice a m c) k rows) (hx : Sl M' w (.slice a2 m2 c2) k rows2) (hg : c < rows.length + rows2.length) (hb : (rows.length + rows2.length) * bytes ≤ 140737488355328) (h63 : rows.length + rows2.length ≤ big)
    (kk : ∀ v' w' b spare, w.heap.size ≤ b → Ext Non w w' → Ow w' v' b k (rows ++ rows2) spare → wl P ops rest K (upd σ d v') w') : wl P ops (⟨some d, .call ⟨.builtin .append, #[s, x], #[t, t]⟩, ty, pos, af, none⟩ :: rest) K σ w := by
  obtain ⟨v', w', sp, h2, h3, h4⟩ := run_append_grow' hT hz hs hx hg hb h63 ty
  refine wl_new (w' := w') (v := v') ?_ (kk v' w' _ sp (Nat.le_refl _) h3 h4)
  show (execOp (ev σ) _).run P w = _
  simp [execOp, resolve, invoke, builtin, hsv, hxv, h2]
/-- append(s, make([]T, x)...), s without room. -/
theorem wl_zeros (hT : SliceT P t e k bytes z) (hz : z.length = k) {ti : TypeId} {ki : IntKind} (hti : P.underlying ti = some (.int ki)) {M : Nat → Prop} {s x : Operand} {d : Nat} {a : Option Addr} {m c q : Nat} {rows : List (List Value)} (hsv : ev σ s = .slice a m c) (hxv : ev σ x = .int .i64 q)
    (hs : Sl M w (.slice a m c) k rows) (hg : c < rows.length + q) (hb : (rows.length + q) * bytes ≤ 140737488355328) (h63 : rows.length + q ≤ big)
    (kk : ∀ v' w' b spare, w.heap.size ≤ b → Ext Non w w' → Ow w' v' b k (rows ++ List.replicate q z) spare → wl P ops rest K (upd σ d v') w') : wl P ops (⟨some d, .call ⟨.builtin .append, #[s, x], #[t, ti]⟩, ty, pos, af, none⟩ :: rest) K σ w := by
  obtain ⟨inf, v0, h1, h2, h3, h4, h5⟩ := hT.inf
  have hm : m = rows.length := by obtain ⟨⟨_, _, h, _⟩, _⟩ := hs; simp only [Value.slice.injEq] at h; exact h.2.1
  subst hm
  have hgrow := growslice_fits hg hb
  have hq : ¬ (281474976710656 < Builtin.nextslicecap (rows.length + q) c * inf.bytes) := by rw [h3]; omega
  have hb63 : ¬ ((9223372036854775807 : Int) < (rows.length : Int) + (q : Int)) := by simp only [big] at h63; omega
  have hroom : ¬ (rows.length + q ≤ c) := by omega
  have hqw : IntKind.i64.wrap (q : Int) = q := wrap_id (by simp only [big] at h63; omega)
  have hqb : ¬ ((281474976710656 : Int) < (q : Int) * (inf.bytes : Int)) := by
    rw [h3]
    have : q * bytes ≤ 140737488355328 := Nat.le_trans (Nat.mul_le_mul_right _ (by omega)) hb
    have h' : ((q * bytes : Nat) : Int) ≤ 140737488355328 := by omega
    rw [Int.natCast_mul] at h'; omega
  have hqn : ¬ ((q : Int) < 0) := by omega
  have hf1 : (Builtin.firstCells k rows.length (.slice a rows.length c)).run P w.drew = .ok rows.flatten.toArray w.drew := Sl.first (w := w.drew) ⟨hs.ex, hs.each⟩
  have hcap := grownCap_ge w (rows.length + q) c e
  have hcap2 := grownCap_le_maxLen w (rows.length + q) c e (by simp only [maxLen, big] at *; omega)
  have hzf := zeros_flat (n := q) hz h5
  have hk0 : q * k = 0 → Builtin.zeroCells v0.cells q = #[] := fun h0 => by
    have : v0.cells.size = k := by rw [← hz, ← h5]; simp
    simp [Builtin.zeroCells, this, h0]
  let W' := ({ w with drawn := w.drawn + 1 } : World).alloc (.cells (rows.flatten.toArray ++ Builtin.zeroCells v0.cells q ++ Builtin.zeroCells v0.cells (grownCap w (rows.length + q) c e - (rows.length + q))) e)
  refine wl_new (w' := W') (v := .slice (some ⟨w.heap.size, 0, none⟩) (rows.length + q) (grownCap w (rows.length + q) c e)) ?_
    (kk _ _ w.heap.size (Builtin.zeroCells v0.cells (grownCap w (rows.length + q) c e - (rows.length + q))).toList (Nat.le_refl _) ?_ ⟨⟨grownCap w (rows.length + q) c e, by simp, by simpa using hcap, by simp only [maxLen, big] at *; omega, ?_⟩, ?_, ?_⟩)
  · show (execOp (ev σ) _).run P w = _
    simp only [execOp, resolve, invoke, builtin]
    have hmax : IntKind.i64.max = 9223372036854775807 := by decide
    have key : (Builtin.append_ #[t, ti] ty #[.slice a rows.length c, .int .i64 (q : Int)]).run P w = .ok (.slice (some ⟨w.heap.size, 0, none⟩) (rows.length + q) (grownCap w (rows.length + q) c e)) W' := by
      have hai : ∀ w', (asInt (.int .i64 (q : Int))).run P w' = .ok (q : Int) w' := fun w' => by simp [asInt, asIntOf]
      simp only [Builtin.append_]
      by_cases h0 : q * k = 0
      · have hz0 := hk0 h0
        simp [run_underlying hT.under, run_underlying hti, run_sizeOf' h1, h2, hai, hqw, hqn, hqb, hroom, typeInfo, h1, hq, hmax, hb63, hf1, h0, zeroValue, h4, newRow, grownCap, Question.forced, W', hz0]
      · simp [run_underlying hT.under, run_underlying hti, run_sizeOf' h1, h2, hai, hqw, hqn, hqb, hroom, typeInfo, h1, hq, hmax, hb63, hf1, h0, zeroValue, h4, newRow, grownCap, Question.forced, W']
    simp [hsv, hxv, key]
  · exact (Ext.alloc { w with drawn := w.drawn + 1 } _).trans (Ext.refl _ _) |> fun h => ⟨h.os, h.tape, h.output, h.size, h.block⟩
  · have : v0.cells.size = k := by rw [← hz, ← h5]; simp
    simp [zero_len, this]
  · have := box_alloc { w with drawn := w.drawn + 1 } (rows.flatten.toArray ++ Builtin.zeroCells v0.cells q ++ Builtin.zeroCells v0.cells (grownCap w (rows.length + q) c e - (rows.length + q))) e
    simp only [Array.toList_append, hzf] at this
    simpa [W'] using this
  · intro r hr
    rcases List.mem_append.1 hr with hr | hr
    · exact hs.each r hr
    · rw [List.eq_of_mem_replicate hr, hz]
/-- copy(d, s), d a part of the call's own slice. -/
theorem wl_copy (hT : SliceT P t e k bytes z) {ts : TypeId} {M' : Nat → Prop} {x y : Operand} {v : Value} {b l dl dc : Nat} {vy : Value} {rows rows2 : List (List Value)} {spare : List Value}
    (hx : ev σ x = .slice (some ⟨b, l * k, none⟩) dl dc) (hy : ev σ y = vy) (hs : Ow w v b k rows spare) (h2 : Sl M' w vy k rows2) (h1 : ∀ r ∈ rows2, ∀ u ∈ r, u.oneCell' = true) (hl : l + min rows2.length dl ≤ rows.length)
    (kk : ∀ w', Ext (fun i => i = b) w w' → Ow w' v b k (patchR rows l (rows2.take dl)) spare → w'.heap.size = w.heap.size → wl P ops rest K (put σ dst (.int .i64 (min rows2.length dl : Nat))) w') : wl P ops (⟨dst, .call ⟨.builtin .copy, #[x, y], #[t, ts]⟩, ty, pos, af, none⟩ :: rest) K σ w := by
  obtain ⟨inf, v0, i1, i2, i3, i4, i5⟩ := hT.inf
  obtain ⟨a2, c2, rfl, _⟩ := h2.len
  have hlen : (rows2.take dl).length = min rows2.length dl := by simp [Nat.min_comm]
  have heach : ∀ r ∈ rows2.take dl, r.length = k := fun r hr => h2.each r (List.mem_of_mem_take hr)
  obtain ⟨w', e1, e2, e3, e4⟩ := hs.write (P := P) heach (fun r hr => h1 r (List.mem_of_mem_take hr)) l (by rw [hlen]; exact hl)
  have hfc : (Builtin.firstCells k (min rows2.length dl) (.slice a2 rows2.length c2)).run P w = .ok (rows2.take dl).flatten.toArray w := by
    have hsl : Sl M' w (.slice a2 (rows2.take dl).length c2) k (rows2.take dl) := by
      obtain ⟨⟨a', c', f1, f2, f3, f4⟩, f5⟩ := h2
      simp only [Value.slice.injEq] at f1
      obtain ⟨rfl, _, rfl⟩ := f1
      refine ⟨⟨a2, c2, rfl, by rw [hlen]; omega, f3, ?_⟩, heach⟩
      rcases f4 with f4 | ⟨bb, o, ha, hb, hn, hc⟩
      · exact .inl (by simp [f4])
      · refine .inr ⟨bb, o, ha, hb, hn, fun j hj => ?_⟩
        have hsplit : rows2.flatten = (rows2.take dl).flatten ++ (rows2.drop dl).flatten := by rw [← List.flatten_append, List.take_append_drop]
        rw [hc j (by rw [hsplit, List.length_append]; omega), hsplit, List.getElem?_append_left hj]
    have := hsl.first (P := P)
    rw [hlen] at this
    cases a2 <;> simpa [Builtin.firstCells] using this
  refine wl_new (w' := w') (v := .int .i64 (min rows2.length dl : Nat)) ?_ (kk w' e2 e3 e4)
  show (execOp (ev σ) _).run P w = _
  have hst : (storeCells ⟨b, l * k, none⟩ (rows2.take dl).flatten).run P w = .ok () w' := e1
  have key : (Builtin.copy_ #[t, ts] ty #[.slice (some ⟨b, l * k, none⟩) dl dc, .slice a2 rows2.length c2]).run P w = .ok (.int .i64 (min rows2.length dl : Nat)) w' := by
    simp only [Builtin.copy_]
    simp [run_underlying hT.under, Builtin.lenOf, run_sizeOf' i1, i2, hfc, hst, goInt]
  simp [execOp, resolve, invoke, builtin, hx, hy, key]
/-- clear of a part of what is spare. -/
theorem wl_clear (hT : SliceT P t e k bytes z) (hz : z.length = k) (hz1 : ∀ u ∈ z, u.oneCell' = true) {x : Operand} {v : Value} {b m c : Nat} {a : Option Addr} {rows : List (List Value)} {spare : List Value}
    (hx : ev σ x = .slice a m c) (hs : Ow w v b k rows spare) (ha : m = 0 ∨ (a = some ⟨b, rows.length * k, none⟩ ∧ m * k ≤ spare.length))
    (kk : ∀ w' spare', Ext (fun i => i = b) w w' → Ow w' v b k rows spare' → wl P ops rest K (put σ dst (.tuple #[])) w') : wl P ops (⟨dst, .call ⟨.builtin .clear, #[x], #[t]⟩, ty, pos, af, none⟩ :: rest) K σ w := by
  obtain ⟨inf, v0, i1, i2, i3, i4, i5⟩ := hT.inf
  by_cases hm : m = 0
  · subst hm
    refine wl_new (w' := w) (v := .tuple #[]) ?_ (kk w spare (Ext.refl _ _) hs)
    show (execOp (ev σ) _).run P w = _
    have key : (Builtin.clear_ #[t] ty #[.slice a 0 c]).run P w = .ok (.tuple #[]) w := by
      simp only [Builtin.clear_]
      cases a <;> simp [run_underlying hT.under]
    simp [execOp, resolve, invoke, builtin, hx, key]
  · rcases ha with ha | ⟨rfl, hsp⟩
    · exact absurd ha hm
    · obtain ⟨⟨cc, hv, hc1, hc2, hc3⟩, ⟨T, hbox⟩, heach⟩ := hs
      have hzf := zeros_flat (n := m) hz i5
      have hzl : (List.replicate m z).flatten.length = m * k := by simp [hz]
      obtain ⟨w', h2, h3, h4, h5⟩ := run_storeBox (P := P) b T (List.replicate m z).flatten (rows.length * k) 0 (rows.flatten ++ spare) w hbox (fun u hu => by
          obtain ⟨r, hr, hu⟩ := List.mem_flatten.1 hu
          rw [List.eq_of_mem_replicate hr] at hu; exact hz1 u hu)
        (by rw [hzl, List.length_append, flat_len heach]; omega)
      rw [Nat.add_zero, ← flat_len heach, show patch (rows.flatten ++ spare) rows.flatten.length (List.replicate m z).flatten = rows.flatten ++ ((List.replicate m z).flatten ++ spare.drop (m * k)) from by rw [patch_room (by rw [hzl]; exact hsp), hzl, List.append_assoc]] at h4
      refine wl_new (w' := w') (v := .tuple #[]) ?_ (kk w' _ h3 ⟨⟨cc, hv, hc1, hc2, ?_⟩, ⟨T, h4⟩, heach⟩)
      · show (execOp (ev σ) _).run P w = _
        have hst : (storeCells ⟨b, rows.length * k, none⟩ (List.replicate m z).flatten).run P w = .ok () w' := h2
        have key : (Builtin.clear_ #[t] ty #[.slice (some ⟨b, rows.length * k, none⟩) m c]).run P w = .ok (.tuple #[]) w' := by
          simp only [Builtin.clear_]
          obtain ⟨m', rfl⟩ : ∃ m', m = m' + 1 := ⟨m - 1, by omega⟩
          simp [run_underlying hT.under, zeroValue, typeInfo, i1, i4, hzf, hst]
        simp [execOp, resolve, invoke, builtin, hx, key]
      · rw [List.length_append, hzl, List.length_drop, hc3]
        have : m * k ≤ (cc - rows.length) * k := by rw [← hc3]; exact hsp
        omega
/-- The length of a slice that is compared with nil. -/
theorem rn_slice_eqnil (hT : SliceT P t e k bytes z) {x y : Operand} {a : Option Addr} {m c : Nat} {u : TypeId} (hx : ev σ x = .slice a m c) (hy : ev σ y = .slice none 0 0) : Rn P σ w ⟨dst, .binOp .eql t x y u, ty, pos, af, g⟩ (.bool a.isNone) := by
  show (execOp (ev σ) _).run P w = _
  have h1 := run_equal_slice_nil (P := P) w t e a m c hT.under
  have h2 : (binOp .eql t (.slice a m c) (.slice none 0 0)).run P w = .ok (.bool a.isNone) w := by
    show (do pure (Value.bool (← Op.equal t (.slice a m c) (.slice none 0 0)))).run P w = _
    rw [Sem.run_bind, h1]; rfl
  have h3 : (eqGuard .eql t x y (.slice a m c) (.slice none 0 0)).run P w = .ok () w := rfl
  simp only [execOp, hx, hy]
  rw [Sem.run_bind, Sem.run_bind, h3, Result.andThen_ok, h2]
  rfl
end
theorem wrap_u64 {a : Int} (h : 0 ≤ a ∧ a ≤ 18446744073709551615) : IntKind.u64.wrap a = a := by
  have h1 := h.1
  have h2 := h.2
  simp only [IntKind.wrap, IntKind.signed, IntKind.bits]
  simp
  omega
theorem rn_shr1 {t u : TypeId} {x y : Operand} {a : Int} (hx : ev σ x = .int .u64 a) (hy : ev σ y = .int .u64 1) : Rn P σ w ⟨dst, .binOp .shr t x y u, ty, pos, af, g⟩ (.int .u64 (a.fdiv 2)) := by
  show (execOp (ev σ) _).run P w = _
  simp [execOp, hx, hy, eqGuard, binOp, Op.shift, IntKind.bits]
/-- An element of one's own slice written over: an element of one cell. -/
theorem wl_storeE {t : TypeId} (hT : plainT P t) {x y : Operand} {v u : Value} {b i : Nat} {rows : List (List Value)} {spare : List Value} (hx : ev σ x = .pointer (some ((⟨b, 0, none⟩ : Addr).add (i * 1)))) (hy : ev σ y = u) (h1 : u.oneCell' = true) (hc : u.cells = #[u]) (hs : Ow w v b 1 rows spare) (hi : i < rows.length)
    (kk : ∀ w', Ext (fun i => i = b) w w' → Ow w' v b 1 (rows.set i [u]) spare → wl P ops rest K σ w') : wl P ops (⟨none, .store t x y, ty, pos, af, none⟩ :: rest) K σ w := by
  obtain ⟨w', e1, e2, e3, e4⟩ := hs.write (P := P) (rs := [[u]]) (by simp) (by simpa using h1) i (by simp; omega)
  have hp : patchR rows i [[u]] = rows.set i [u] := by
    unfold patchR
    rw [List.set_eq_take_append_cons_drop, if_pos hi]; simp
  rw [hp] at e3
  refine wl_do (w' := w') ?_ (kk w' e2 e3)
  show (execOp (ev σ) _).run P w = _
  rw [add_at, Nat.zero_add] at hx
  have e1' : (storeCells ⟨b, i * 1, none⟩ [u]).run P w = .ok () w' := by simpa using e1
  have e7 : (storeCells ⟨b, i, none⟩ [u]).run P w = .ok () w' := by rw [Nat.mul_one] at e1'; exact e1'
  have e8 : ev σ x = .pointer (some ⟨b, i, none⟩) := by rw [hx, Nat.mul_one]
  simp [execOp, e8, hy, Instr.storeAt, Instr.sureAddr, storeVar, run_size hT.2, hc, e7]
theorem one1 {v : Value} (h : v.oneCell' = true) : ∀ u ∈ [v], u.oneCell' = true := by intro u hu; rw [List.mem_singleton] at hu; rw [hu]; exact h
theorem oneR {r : List Value} (h : ∀ u ∈ r, u.oneCell' = true) : ∀ x ∈ [r], ∀ u ∈ x, u.oneCell' = true := by intro x hx; rw [List.mem_singleton] at hx; rw [hx]; exact h
/-- append(s, x...), s the call's own, with room. -/
theorem wl_appR {t e : TypeId} {k bytes : Nat} {z : List Value} (hT : SliceT P t e k bytes z) {M' : Nat → Prop} {s x : Operand} {d : Nat} {b m c : Nat} {a2 : Option Addr} {m2 c2 : Nat} {rows rows2 : List (List Value)} {spare : List Value}
    (hsv : ev σ s = .slice (some ⟨b, 0, none⟩) m c) (hxv : ev σ x = .slice a2 m2 c2) (hs : Ow w (.slice (some ⟨b, 0, none⟩) m c) b k rows spare) (hx : Sl M' w (.slice a2 m2 c2) k rows2) (h1 : ∀ r ∈ rows2, ∀ u ∈ r, u.oneCell' = true) (hg : rows.length + rows2.length ≤ c)
    (kk : ∀ w' spare', Ext (fun i => i = b) w w' → Ow w' (.slice (some ⟨b, 0, none⟩) (rows.length + rows2.length) c) b k (rows ++ rows2) spare' → wl P ops rest K (upd σ d (.slice (some ⟨b, 0, none⟩) (rows.length + rows2.length) c)) w') : wl P ops (⟨some d, .call ⟨.builtin .append, #[s, x], #[t, t]⟩, ty, pos, af, none⟩ :: rest) K σ w := by
  obtain ⟨inf, v0, i1, i2, i3, i4, i5⟩ := hT.inf
  obtain ⟨⟨c', hv, hc1, hc2, hc3⟩, hbox, heach⟩ := hs
  simp only [Value.slice.injEq, true_and] at hv
  obtain ⟨rfl, rfl⟩ := hv
  have hm2 : m2 = rows2.length := by obtain ⟨⟨_, _, h, _⟩, _⟩ := hx; simp only [Value.slice.injEq] at h; exact h.2.1
  subst hm2
  have hf2 := hx.first (P := P) (w := w)
  have hfl := flat_len heach
  have hfl2 := flat_len hx.each
  obtain ⟨T, hbox⟩ := hbox
  have hsp : rows2.flatten.length ≤ spare.length := by rw [hfl2, hc3]; exact Nat.mul_le_mul_right _ (by omega)
  obtain ⟨w', h2, h3, h4, h5⟩ := run_storeBox (P := P) b T rows2.flatten (rows.length * k) 0 (rows.flatten ++ spare) w hbox (fun u hu => by obtain ⟨r, hr, hu⟩ := List.mem_flatten.1 hu; exact h1 r hr u hu)
    (by simp only [List.length_append]; omega)
  rw [Nat.add_zero, ← hfl, patch_room hsp] at h4
  refine wl_new (w' := w') (v := .slice (some ⟨b, 0, none⟩) (rows.length + rows2.length) c) ?_ (kk w' (spare.drop rows2.flatten.length) h3 ⟨⟨c, by simp, by simpa using hg, hc2, ?_⟩, ⟨T, by simpa using h4⟩, ?_⟩)
  · show (execOp (ev σ) _).run P w = _
    have e : ((⟨b, 0, none⟩ : Addr).add (rows.length * k)) = ⟨b, rows.length * k, none⟩ := by rw [add_at, Nat.zero_add]
    have key : (Builtin.append_ #[t, t] ty #[.slice (some ⟨b, 0, none⟩) rows.length c, .slice a2 rows2.length c2]).run P w = .ok (.slice (some ⟨b, 0, none⟩) (rows.length + rows2.length) c) w' := by
      simp [Builtin.append_, run_underlying hT.under, run_sizeOf' i1, i2, Builtin.lenOf, hg, hf2, e, h2]
    simp [execOp, resolve, invoke, builtin, hsv, hxv, key]
  · rw [List.length_drop, hc3, hfl2, List.length_append, ← Nat.sub_mul]; congr 1; omega
  · intro r hr
    rcases List.mem_append.1 hr with hr | hr
    · exact heach r hr
    · exact hx.each r hr
theorem Sl.cut0 {M : Nat → Prop} {a : Option Addr} {len cap k : Nat} {rows : List (List Value)} (hs : Sl M w (.slice a len cap) k rows) {h m : Nat} (h2 : h ≤ len) (h2' : h ≤ m) (h3 : m ≤ cap) : Sl M w (.slice a h m) k (rows.take h) := by
  have := hs.cut (Nat.zero_le h) h2 h2' h3
  rw [show (if m = 0 then a else a.map (·.add (0 * k))) = a from by split; rfl; cases a <;> simp [add_zero']] at this
  simpa using this
/-- A region whose order is drawn, in which blocks of F's are written. -/
theorem W_drawF (F : Nat → Prop) {id : Nat} {l : List Oper} (hm : P.follows .mixedOrders = true)
    (h : ∀ w1, Ext Non w w1 → wd P l (fun A => Ext F w1 A) (fun σ' w' => Q .normal σ' D w') l.length (Array.replicate l.length false) σ w1) : W ro P n (.region id l.toArray true) Q σ D w :=
  W_draw _ hm (h _ (Ext.refl _ _).drew)
/-- A slice of one's own slice, from its l-th element on. -/
theorem rn_sliceO {t e : TypeId} {k bytes : Nat} {z : List Value} (hT : SliceT P t e k bytes z) {x : Operand} {lo hi mx : Option Operand} {b len cap l h m : Nat} (hx : ev σ x = .slice (some ⟨b, 0, none⟩) len cap)
    (hlo : Bd σ lo 0 l) (hhi : Bd σ hi len h) (hmx : Bd σ mx cap m) (hm : mx.isSome = true → hi.isSome = true) (h1 : l ≤ h) (h2 : h ≤ m) (h3 : m ≤ cap) (hlm : l ≠ m) :
    Rn P σ w ⟨dst, .slice t x lo hi mx, ty, pos, af, g⟩ (.slice (some ⟨b, l * k, none⟩) (h - l) (m - l)) := by
  have := rn_slice (P := P) (w := w) (dst := dst) (ty := ty) (pos := pos) (af := af) (g := g) hT hx hlo hhi hmx hm h1 h2 h3
  rw [if_neg (fun e => hlm e.symm)] at this
  simpa [add_at] using this
theorem wl_store0 {t : TypeId} (hT : structT P t 0) {x y : Operand} {a : Addr} (hx : ev σ x = .pointer (some a)) (hy : ev σ y = .agg #[]) (kk : wl P ops rest K σ w) : wl P ops (⟨none, .store t x y, ty, pos, af, none⟩ :: rest) K σ w := by
  refine wl_do (w' := w) ?_ kk
  show (execOp (ev σ) _).run P w = _
  simp [execOp, hx, hy, Instr.storeAt, Instr.sureAddr, storeVar, run_size hT.2, Value.cells, storeCells]
theorem Ow.set0 {v : Value} {b : Nat} {rows : List (List Value)} {spare : List Value} (h : Ow w v b 0 rows spare) (i : Nat) : Ow w v b 0 (rows.set i []) spare := by
  have e : rows.set i [] = rows := by
    by_cases hi : i < rows.length
    · apply List.ext_getElem?
      intro j
      by_cases hj : i = j
      · subst hj
        have := List.length_eq_zero_iff.1 (h.each _ (List.getElem_mem hi))
        simp [hi, this]
      · simp [List.getElem?_set_ne hj]
    · exact List.set_eq_of_length_le (by omega)
  rw [e]; exact h
/-- The call's own slice, of a block that is none of N's and not older than lo. -/
def OwX (lo : Nat) (N : Nat → Prop) (A : World) (v : Value) (o : Option Nat) (k : Nat) (rows : List (List Value)) : Prop := OwO A v o k rows ∧ ∀ i, o = some i → ¬ N i ∧ lo ≤ i
theorem Stab.owx {n0 : Nat} (lo : Nat) (v : Value) (o : Option Nat) (k : Nat) (rows : List (List Value)) : Stab n0 (fun N A => OwX lo N A v o k rows) := fun N A B hN hA h hE =>
  ⟨h.1.ext hE (fun i hi => (h.2 i hi).1), fun i hi => ⟨not_grow (h.2 i hi).1 (h.1.lt hi), (h.2 i hi).2⟩⟩
theorem OwX.ext {lo : Nat} {N : Nat → Prop} {A B : World} {v : Value} {o : Option Nat} {k : Nat} {rows : List (List Value)} (h : OwX lo N A v o k rows) {M : Nat → Prop} (hE : Ext M A B) (hm : ∀ i, o = some i → ¬ M i) : OwX lo N B v o k rows := ⟨h.1.ext hE hm, h.2⟩
theorem Stab.slB {n0 : Nat} (F : Nat → Prop) (v : Value) (k : Nat) (rows : List (List Value)) : Stab n0 (fun N A => Sl (fun i => N i ∨ F i) A v k rows) := fun N A B hN hA h hE =>
  (h.sub (M' := fun i => grow N A B i ∨ F i) (fun i hi hlt => by rcases hi with (hi | ⟨hi, _⟩) | hi; exact .inl hi; omega; exact .inr hi)).ext hE (fun i h => .inl (.inl h))
theorem ins_rows {rows : List (List Value)} {i : Nat} {r : List Value} {zs : List (List Value)} (hi : i ≤ rows.length) (hz : zs.length = rows.length + 1 - i) : patchR (patchR (rows.take i ++ zs) i [r]) (i + 1) (rows.drop i) = rows.take i ++ r :: rows.drop i := by
  have h1 : (rows.take i).length = i := by rw [List.length_take, Nat.min_eq_left hi]
  have e1 : patchR (rows.take i ++ zs) i [r] = rows.take i ++ r :: zs.drop 1 := by
    unfold patchR
    rw [List.take_append_of_le_length (by omega), List.take_of_length_le (by omega), List.length_singleton, List.drop_append, List.drop_of_length_le (by omega), h1]
    simp
  rw [e1]
  unfold patchR
  have e2 : (rows.take i ++ r :: zs.drop 1).take (i + 1) = rows.take i ++ [r] := by
    rw [List.take_append, List.take_of_length_le (by omega), h1, show i + 1 - i = 1 from by omega]; simp
  have e3 : (rows.take i ++ r :: zs.drop 1).drop (i + 1 + (rows.drop i).length) = [] := List.drop_of_length_le (by rw [List.length_append, h1, List.length_cons, List.length_drop, List.length_drop]; omega)
  rw [e2, e3]
  simp
end Go.Proofs.YtaddeakfojpdoaaGreatDoorC

/- An element of several cells of a call's own slice is written over. -/
set_option linter.unusedVariables false
set_option linter.unusedSimpArgs false
namespace Go.Proofs.YtaddeakfojpdoaaGreatDoorC
open Go.RowKit
variable {ro : Option Nat} {P : Program} {n : Nat} {Q : Post} {σ : Env} {D : List Deferred} {w : World} {dst : Option Nat} {ty : TypeId} {pos : String} {af : Array Edge} {g : Option (Nat × Bool)}
variable {ops rest : List Oper} {K : Ops}
theorem two1' {u v : Value} (h1 : u.oneCell' = true) (h2 : v.oneCell' = true) : ∀ x ∈ [u, v], x.oneCell' = true := by
  intro x hx
  simp only [List.mem_cons, List.not_mem_nil, or_false] at hx
  rcases hx with rfl | rfl
  · exact h1
  · exact h2
theorem wl_storeES {t : TypeId} {k : Nat} (hT : structT P t k) {x y : Operand} {v : Value} {us : List Value} {b i : Nat} {rows : List (List Value)} {spare : List Value} (hx : ev σ x = .pointer (some ((⟨b, 0, none⟩ : Addr).add (i * k)))) (hy : ev σ y = .agg us.toArray) (hk : us.length = k) (h1 : ∀ u ∈ us, u.oneCell' = true) (hs : Ow w v b k rows spare) (hi : i < rows.length)
    (kk : ∀ w', Ext (fun i => i = b) w w' → Ow w' v b k (rows.set i us) spare → wl P ops rest K σ w') : wl P ops (⟨none, .store t x y, ty, pos, af, none⟩ :: rest) K σ w := by
  obtain ⟨w', e1, e2, e3, e4⟩ := hs.write (P := P) (rs := [us]) (by simpa using hk) (by simpa using h1) i (by simp; omega)
  have hp : patchR rows i [us] = rows.set i us := by
    unfold patchR
    rw [List.set_eq_take_append_cons_drop, if_pos hi]; simp
  rw [hp] at e3
  refine wl_do (w' := w') ?_ (kk w' e2 e3)
  show (execOp (ev σ) _).run P w = _
  rw [add_at, Nat.zero_add] at hx
  have e7 : (storeCells ⟨b, i * k, none⟩ us).run P w = .ok () w' := by simpa using e1
  have hsz : (Value.agg us.toArray).cells.size = k := by simp [Value.cells, hk]
  simp [execOp, hx, hy, Instr.storeAt, Instr.sureAddr, storeVar, run_size hT.2, Value.cells, hk, e7]
/-- A part of a box is written: several cells. -/
theorem wl_storeP {t : TypeId} {x y : Operand} {b i k : Nat} {cs vs : List Value} (hT : structT P t k) (hx : ev σ x = .pointer (some ⟨b, i, none⟩)) (hy : ev σ y = .agg vs.toArray) (hk : vs.length = k) (h1 : ∀ u ∈ vs, u.oneCell' = true) (hb : IsBox w b cs) (hl : i + k ≤ cs.length)
    (kk : ∀ w', Ext (fun j => j = b) w w' → IsBox w' b (patch cs i vs) → w'.heap.size = w.heap.size → wl P ops rest K σ w') : wl P ops (⟨none, .store t x y, ty, pos, af, none⟩ :: rest) K σ w := by
  obtain ⟨w', h2, h3, h4, h5⟩ := rs_store (dst := none) (ty := ty) (pos := pos) (af := af) (g := none) (by simp [Value.cells, hk]; simpa using hT.2) hx hy (by simpa [Value.cells] using h1) hb (by simp [Value.cells]; omega)
  refine wl_do h2 (kk w' h3 ?_ h5)
  have : (Value.agg vs.toArray).cells.toList = vs := by simp [Value.cells]
  rw [this] at h4
  exact h4
theorem three1 {u v x : Value} (h1 : u.oneCell' = true) (h2 : v.oneCell' = true) (h3 : x.oneCell' = true) : ∀ y ∈ [u, v, x], y.oneCell' = true := by
  intro y hy
  simp only [List.mem_cons, List.not_mem_nil, or_false] at hy
  rcases hy with rfl | rfl | rfl
  · exact h1
  · exact h2
  · exact h3
end Go.Proofs.YtaddeakfojpdoaaGreatDoorC

/- The types of this translation, in the calculus of YtaddeakfojpdoaaGreatDoorCoreA: each fact off the tables, by the kernel. -/
set_option linter.unusedVariables false
namespace Go.Proofs.YtaddeakfojpdoaaGreatDoorC
open Go.RowKit
theorem mixed : Tryz.prog.follows .mixedOrders = true := by kernel_rfl
theorem p_3 : plainT Tryz.prog 3 := ⟨by kernel_rfl, by kernel_rfl⟩
theorem z_3 : zeroT Tryz.prog 3 [.int .i64 0] := by unfold zeroT; kernel_rfl
theorem ui_3 : Tryz.prog.underlying 3 = some (.int .i64) := by kernel_rfl
theorem p_4 : plainT Tryz.prog 4 := ⟨by kernel_rfl, by kernel_rfl⟩
theorem z_4 : zeroT Tryz.prog 4 [.bool false] := by unfold zeroT; kernel_rfl
theorem ub_4 : Tryz.prog.underlying 4 = some .bool := by kernel_rfl
theorem ui_5 : Tryz.prog.underlying 5 = some (.int .u8) := by kernel_rfl
theorem p_9 : plainT Tryz.prog 9 := ⟨by kernel_rfl, by kernel_rfl⟩
theorem us_9 : Tryz.prog.underlying 9 = some .string := by kernel_rfl
theorem ui_21 : Tryz.prog.underlying 21 = some (.int .i32) := by kernel_rfl
theorem p_22 : plainT Tryz.prog 22 := ⟨by kernel_rfl, by kernel_rfl⟩
theorem z_22 : zeroT Tryz.prog 22 [.slice none 0 0] := by unfold zeroT; kernel_rfl
theorem sl_22 : SliceT Tryz.prog 22 9 1 16 [.string ⟨#[]⟩] := ⟨by kernel_rfl, by kernel_rfl⟩
theorem p_23 : plainT Tryz.prog 23 := ⟨by kernel_rfl, by kernel_rfl⟩
theorem sl_23 : SliceT Tryz.prog 23 3 1 8 [.int .i64 0] := ⟨by kernel_rfl, by kernel_rfl⟩
theorem p_26 : plainT Tryz.prog 26 := ⟨by kernel_rfl, by kernel_rfl⟩
theorem p_37 : plainT Tryz.prog 37 := ⟨by kernel_rfl, by kernel_rfl⟩
theorem s_44 : structT Tryz.prog 44 2 := ⟨by kernel_rfl, by kernel_rfl⟩
theorem z_44 : zeroT Tryz.prog 44 [.pointer none, .int .i64 0] := by unfold zeroT; kernel_rfl
theorem b_44 : BuildT Tryz.prog 44 [(0, 1), (1, 1)] [.pointer none, .int .i64 0] := ⟨by kernel_rfl, by kernel_rfl, by kernel_rfl, by kernel_rfl⟩
theorem p_45 : plainT Tryz.prog 45 := ⟨by kernel_rfl, by kernel_rfl⟩
theorem sl_45 : SliceT Tryz.prog 45 120 2 48 [.slice none 0 0, .slice none 0 0] := ⟨by kernel_rfl, by kernel_rfl⟩
theorem s_47 : structT Tryz.prog 47 2 := ⟨by kernel_rfl, by kernel_rfl⟩
theorem z_47 : zeroT Tryz.prog 47 [.slice none 0 0, .slice none 0 0] := by unfold zeroT; kernel_rfl
theorem b_47 : BuildT Tryz.prog 47 [(0, 1), (1, 1)] [.slice none 0 0, .slice none 0 0] := ⟨by kernel_rfl, by kernel_rfl, by kernel_rfl, by kernel_rfl⟩
theorem s_49 : structT Tryz.prog 49 5 := ⟨by kernel_rfl, by kernel_rfl⟩
theorem z_49 : zeroT Tryz.prog 49 [.int .i64 0, .pointer none, .int .i64 0, .slice none 0 0, .slice none 0 0] := by unfold zeroT; kernel_rfl
theorem b_49 : BuildT Tryz.prog 49 [(0, 1), (1, 2), (3, 2)] [.int .i64 0, .pointer none, .int .i64 0, .slice none 0 0, .slice none 0 0] := ⟨by kernel_rfl, by kernel_rfl, by kernel_rfl, by kernel_rfl⟩
theorem p_50 : plainT Tryz.prog 50 := ⟨by kernel_rfl, by kernel_rfl⟩
theorem sl_50 : SliceT Tryz.prog 50 87 2 32 [.slice none 0 0, .int .i64 0] := ⟨by kernel_rfl, by kernel_rfl⟩
theorem s_52 : structT Tryz.prog 52 2 := ⟨by kernel_rfl, by kernel_rfl⟩
theorem z_52 : zeroT Tryz.prog 52 [.slice none 0 0, .slice none 0 0] := by unfold zeroT; kernel_rfl
theorem b_52 : BuildT Tryz.prog 52 [(0, 1), (1, 1)] [.slice none 0 0, .slice none 0 0] := ⟨by kernel_rfl, by kernel_rfl, by kernel_rfl, by kernel_rfl⟩
theorem p_53 : plainT Tryz.prog 53 := ⟨by kernel_rfl, by kernel_rfl⟩
theorem sl_53 : SliceT Tryz.prog 53 161 2 24 [.string ⟨#[]⟩, .int .i64 0] := ⟨by kernel_rfl, by kernel_rfl⟩
theorem s_55 : structT Tryz.prog 55 2 := ⟨by kernel_rfl, by kernel_rfl⟩
theorem z_55 : zeroT Tryz.prog 55 [.slice none 0 0, .slice none 0 0] := by unfold zeroT; kernel_rfl
theorem b_55 : BuildT Tryz.prog 55 [(0, 1), (1, 1)] [.slice none 0 0, .slice none 0 0] := ⟨by kernel_rfl, by kernel_rfl, by kernel_rfl, by kernel_rfl⟩
theorem s_57 : structT Tryz.prog 57 3 := ⟨by kernel_rfl, by kernel_rfl⟩
theorem z_57 : zeroT Tryz.prog 57 [.slice none 0 0, .slice none 0 0, .int .i64 0] := by unfold zeroT; kernel_rfl
theorem s_59 : structT Tryz.prog 59 11 := ⟨by kernel_rfl, by kernel_rfl⟩
theorem z_59 : zeroT Tryz.prog 59 [.int .i64 0, .pointer none, .int .i64 0, .slice none 0 0, .slice none 0 0, .int .i64 0, .slice none 0 0, .slice none 0 0, .slice none 0 0, .slice none 0 0, .int .i64 0] := by unfold zeroT; kernel_rfl
theorem b_59 : BuildT Tryz.prog 59 [(0, 5), (5, 1), (6, 2), (8, 3)] [.int .i64 0, .pointer none, .int .i64 0, .slice none 0 0, .slice none 0 0, .int .i64 0, .slice none 0 0, .slice none 0 0, .slice none 0 0, .slice none 0 0, .int .i64 0] := ⟨by kernel_rfl, by kernel_rfl, by kernel_rfl, by kernel_rfl⟩
theorem p_60 : plainT Tryz.prog 60 := ⟨by kernel_rfl, by kernel_rfl⟩
theorem ui_60 : Tryz.prog.underlying 60 = some (.int .i64) := by kernel_rfl
theorem s_62 : structT Tryz.prog 62 3 := ⟨by kernel_rfl, by kernel_rfl⟩
theorem z_62 : zeroT Tryz.prog 62 [.string ⟨#[]⟩, .string ⟨#[]⟩, .bool false] := by unfold zeroT; kernel_rfl
theorem eg_62 : Tryz.prog.eqGuardType Tryz.prog.depth 62 = false := by kernel_rfl
theorem sh_62 : Tryz.prog.stoodInHeld 62 = false := by kernel_rfl
theorem fs_62 : fieldsT Tryz.prog 62 = [("Topic", 9, 0), ("Payload", 9, 1), ("Kept", 4, 2)] := by kernel_rfl
theorem b_62 : BuildT Tryz.prog 62 [(0, 1), (1, 1), (2, 1)] [.string ⟨#[]⟩, .string ⟨#[]⟩, .bool false] := ⟨by kernel_rfl, by kernel_rfl, by kernel_rfl, by kernel_rfl⟩
theorem s_64 : structT Tryz.prog 64 6 := ⟨by kernel_rfl, by kernel_rfl⟩
theorem z_64 : zeroT Tryz.prog 64 [.int .i64 0, .int .i64 0, .int .i64 0, .string ⟨#[]⟩, .string ⟨#[]⟩, .bool false] := by unfold zeroT; kernel_rfl
theorem eg_64 : Tryz.prog.eqGuardType Tryz.prog.depth 64 = false := by kernel_rfl
theorem sh_64 : Tryz.prog.stoodInHeld 64 = false := by kernel_rfl
theorem fs_64 : fieldsT Tryz.prog 64 = [("Error", 60, 0), ("A", 3, 1), ("B", 3, 2), ("Msg", 62, 3)] := by kernel_rfl
theorem b_64 : BuildT Tryz.prog 64 [(0, 1), (1, 1), (2, 1), (3, 3)] [.int .i64 0, .int .i64 0, .int .i64 0, .string ⟨#[]⟩, .string ⟨#[]⟩, .bool false] := ⟨by kernel_rfl, by kernel_rfl, by kernel_rfl, by kernel_rfl⟩
theorem s_69 : structT Tryz.prog 69 5 := ⟨by kernel_rfl, by kernel_rfl⟩
theorem z_69 : zeroT Tryz.prog 69 [.int .i64 0, .int .i64 0, .string ⟨#[]⟩, .string ⟨#[]⟩, .bool false] := by unfold zeroT; kernel_rfl
theorem b_69 : BuildT Tryz.prog 69 [(0, 1), (1, 1), (2, 1), (3, 1), (4, 1)] [.int .i64 0, .int .i64 0, .string ⟨#[]⟩, .string ⟨#[]⟩, .bool false] := ⟨by kernel_rfl, by kernel_rfl, by kernel_rfl, by kernel_rfl⟩
theorem sl_76 : SliceT Tryz.prog 76 64 6 64 [.int .i64 0, .int .i64 0, .int .i64 0, .string ⟨#[]⟩, .string ⟨#[]⟩, .bool false] := ⟨by kernel_rfl, by kernel_rfl⟩
theorem sl_79 : SliceT Tryz.prog 79 69 5 56 [.int .i64 0, .int .i64 0, .string ⟨#[]⟩, .string ⟨#[]⟩, .bool false] := ⟨by kernel_rfl, by kernel_rfl⟩
theorem p_85 : plainT Tryz.prog 85 := ⟨by kernel_rfl, by kernel_rfl⟩
theorem sl_85 : SliceT Tryz.prog 85 62 3 40 [.string ⟨#[]⟩, .string ⟨#[]⟩, .bool false] := ⟨by kernel_rfl, by kernel_rfl⟩
theorem s_87 : structT Tryz.prog 87 2 := ⟨by kernel_rfl, by kernel_rfl⟩
theorem z_87 : zeroT Tryz.prog 87 [.slice none 0 0, .int .i64 0] := by unfold zeroT; kernel_rfl
theorem p_94 : plainT Tryz.prog 94 := ⟨by kernel_rfl, by kernel_rfl⟩
theorem sl_94 : SliceT Tryz.prog 94 158 0 0 [] := ⟨by kernel_rfl, by kernel_rfl⟩
theorem s_96 : structT Tryz.prog 96 2 := ⟨by kernel_rfl, by kernel_rfl⟩
theorem z_96 : zeroT Tryz.prog 96 [.slice none 0 0, .slice none 0 0] := by unfold zeroT; kernel_rfl
theorem b_96 : BuildT Tryz.prog 96 [(0, 1), (1, 1)] [.slice none 0 0, .slice none 0 0] := ⟨by kernel_rfl, by kernel_rfl, by kernel_rfl, by kernel_rfl⟩
theorem s_98 : structT Tryz.prog 98 2 := ⟨by kernel_rfl, by kernel_rfl⟩
theorem z_98 : zeroT Tryz.prog 98 [.slice none 0 0, .slice none 0 0] := by unfold zeroT; kernel_rfl
theorem b_98 : BuildT Tryz.prog 98 [(0, 2)] [.slice none 0 0, .slice none 0 0] := ⟨by kernel_rfl, by kernel_rfl, by kernel_rfl, by kernel_rfl⟩
theorem s_118 : structT Tryz.prog 118 2 := ⟨by kernel_rfl, by kernel_rfl⟩
theorem z_118 : zeroT Tryz.prog 118 [.slice none 0 0, .slice none 0 0] := by unfold zeroT; kernel_rfl
theorem b_118 : BuildT Tryz.prog 118 [(0, 1), (1, 1)] [.slice none 0 0, .slice none 0 0] := ⟨by kernel_rfl, by kernel_rfl, by kernel_rfl, by kernel_rfl⟩
theorem s_120 : structT Tryz.prog 120 2 := ⟨by kernel_rfl, by kernel_rfl⟩
theorem z_120 : zeroT Tryz.prog 120 [.slice none 0 0, .slice none 0 0] := by unfold zeroT; kernel_rfl
theorem b_120 : BuildT Tryz.prog 120 [(0, 2)] [.slice none 0 0, .slice none 0 0] := ⟨by kernel_rfl, by kernel_rfl, by kernel_rfl, by kernel_rfl⟩
theorem p_132 : plainT Tryz.prog 132 := ⟨by kernel_rfl, by kernel_rfl⟩
theorem sl_132 : SliceT Tryz.prog 132 26 1 8 [.pointer none] := ⟨by kernel_rfl, by kernel_rfl⟩
theorem s_134 : structT Tryz.prog 134 2 := ⟨by kernel_rfl, by kernel_rfl⟩
theorem z_134 : zeroT Tryz.prog 134 [.slice none 0 0, .slice none 0 0] := by unfold zeroT; kernel_rfl
theorem b_134 : BuildT Tryz.prog 134 [(0, 1), (1, 1)] [.slice none 0 0, .slice none 0 0] := ⟨by kernel_rfl, by kernel_rfl, by kernel_rfl, by kernel_rfl⟩
theorem s_136 : structT Tryz.prog 136 4 := ⟨by kernel_rfl, by kernel_rfl⟩
theorem z_136 : zeroT Tryz.prog 136 [.slice none 0 0, .slice none 0 0, .slice none 0 0, .slice none 0 0] := by unfold zeroT; kernel_rfl
theorem b_136 : BuildT Tryz.prog 136 [(0, 2), (2, 2)] [.slice none 0 0, .slice none 0 0, .slice none 0 0, .slice none 0 0] := ⟨by kernel_rfl, by kernel_rfl, by kernel_rfl, by kernel_rfl⟩
theorem p_144 : plainT Tryz.prog 144 := ⟨by kernel_rfl, by kernel_rfl⟩
theorem s_158 : structT Tryz.prog 158 0 := ⟨by kernel_rfl, by kernel_rfl⟩
theorem z_158 : zeroT Tryz.prog 158 [] := by unfold zeroT; kernel_rfl
theorem b_158 : BuildT Tryz.prog 158 [] [] := ⟨by kernel_rfl, by kernel_rfl, by kernel_rfl, by kernel_rfl⟩
theorem s_161 : structT Tryz.prog 161 2 := ⟨by kernel_rfl, by kernel_rfl⟩
theorem z_161 : zeroT Tryz.prog 161 [.string ⟨#[]⟩, .int .i64 0] := by unfold zeroT; kernel_rfl
theorem b_161 : BuildT Tryz.prog 161 [(0, 1), (1, 1)] [.string ⟨#[]⟩, .int .i64 0] := ⟨by kernel_rfl, by kernel_rfl, by kernel_rfl, by kernel_rfl⟩
theorem p_178 : plainT Tryz.prog 178 := ⟨by kernel_rfl, by kernel_rfl⟩
theorem ui_183 : Tryz.prog.underlying 183 = some (.int .u64) := by kernel_rfl
theorem p_193 : plainT Tryz.prog 193 := ⟨by kernel_rfl, by kernel_rfl⟩
theorem z_193 : zeroT Tryz.prog 193 [.nilFunc] := by unfold zeroT; kernel_rfl
theorem f_44_0 : FieldT Tryz.prog 44 0 0 26 1 := ⟨by kernel_rfl, by kernel_rfl, by kernel_rfl⟩
theorem f_44_1 : FieldT Tryz.prog 44 1 1 3 1 := ⟨by kernel_rfl, by kernel_rfl, by kernel_rfl⟩
theorem f_47_0 : FieldT Tryz.prog 47 0 0 23 1 := ⟨by kernel_rfl, by kernel_rfl, by kernel_rfl⟩
theorem f_47_1 : FieldT Tryz.prog 47 1 1 45 1 := ⟨by kernel_rfl, by kernel_rfl, by kernel_rfl⟩
theorem f_49_0 : FieldT Tryz.prog 49 0 0 3 1 := ⟨by kernel_rfl, by kernel_rfl, by kernel_rfl⟩
theorem f_49_1 : FieldT Tryz.prog 49 1 1 44 2 := ⟨by kernel_rfl, by kernel_rfl, by kernel_rfl⟩
theorem f_49_2 : FieldT Tryz.prog 49 2 3 47 2 := ⟨by kernel_rfl, by kernel_rfl, by kernel_rfl⟩
theorem f_52_0 : FieldT Tryz.prog 52 0 0 23 1 := ⟨by kernel_rfl, by kernel_rfl, by kernel_rfl⟩
theorem f_52_1 : FieldT Tryz.prog 52 1 1 50 1 := ⟨by kernel_rfl, by kernel_rfl, by kernel_rfl⟩
theorem f_55_0 : FieldT Tryz.prog 55 0 0 22 1 := ⟨by kernel_rfl, by kernel_rfl, by kernel_rfl⟩
theorem f_55_1 : FieldT Tryz.prog 55 1 1 53 1 := ⟨by kernel_rfl, by kernel_rfl, by kernel_rfl⟩
theorem f_57_0 : FieldT Tryz.prog 57 0 0 55 2 := ⟨by kernel_rfl, by kernel_rfl, by kernel_rfl⟩
theorem f_57_1 : FieldT Tryz.prog 57 1 2 3 1 := ⟨by kernel_rfl, by kernel_rfl, by kernel_rfl⟩
theorem f_59_0 : FieldT Tryz.prog 59 0 0 49 5 := ⟨by kernel_rfl, by kernel_rfl, by kernel_rfl⟩
theorem f_59_1 : FieldT Tryz.prog 59 1 5 3 1 := ⟨by kernel_rfl, by kernel_rfl, by kernel_rfl⟩
theorem f_59_2 : FieldT Tryz.prog 59 2 6 52 2 := ⟨by kernel_rfl, by kernel_rfl, by kernel_rfl⟩
theorem f_59_3 : FieldT Tryz.prog 59 3 8 57 3 := ⟨by kernel_rfl, by kernel_rfl, by kernel_rfl⟩
theorem f_64_0 : FieldT Tryz.prog 64 0 0 60 1 := ⟨by kernel_rfl, by kernel_rfl, by kernel_rfl⟩
theorem f_64_1 : FieldT Tryz.prog 64 1 1 3 1 := ⟨by kernel_rfl, by kernel_rfl, by kernel_rfl⟩
theorem f_64_2 : FieldT Tryz.prog 64 2 2 3 1 := ⟨by kernel_rfl, by kernel_rfl, by kernel_rfl⟩
theorem f_64_3 : FieldT Tryz.prog 64 3 3 62 3 := ⟨by kernel_rfl, by kernel_rfl, by kernel_rfl⟩
theorem f_69_0 : FieldT Tryz.prog 69 0 0 3 1 := ⟨by kernel_rfl, by kernel_rfl, by kernel_rfl⟩
theorem f_69_1 : FieldT Tryz.prog 69 1 1 3 1 := ⟨by kernel_rfl, by kernel_rfl, by kernel_rfl⟩
theorem f_69_2 : FieldT Tryz.prog 69 2 2 9 1 := ⟨by kernel_rfl, by kernel_rfl, by kernel_rfl⟩
theorem f_69_3 : FieldT Tryz.prog 69 3 3 9 1 := ⟨by kernel_rfl, by kernel_rfl, by kernel_rfl⟩
theorem f_69_4 : FieldT Tryz.prog 69 4 4 4 1 := ⟨by kernel_rfl, by kernel_rfl, by kernel_rfl⟩
theorem f_87_0 : FieldT Tryz.prog 87 0 0 85 1 := ⟨by kernel_rfl, by kernel_rfl, by kernel_rfl⟩
theorem f_87_1 : FieldT Tryz.prog 87 1 1 3 1 := ⟨by kernel_rfl, by kernel_rfl, by kernel_rfl⟩
theorem f_96_0 : FieldT Tryz.prog 96 0 0 23 1 := ⟨by kernel_rfl, by kernel_rfl, by kernel_rfl⟩
theorem f_96_1 : FieldT Tryz.prog 96 1 1 94 1 := ⟨by kernel_rfl, by kernel_rfl, by kernel_rfl⟩
theorem f_98_0 : FieldT Tryz.prog 98 0 0 96 2 := ⟨by kernel_rfl, by kernel_rfl, by kernel_rfl⟩
theorem f_118_0 : FieldT Tryz.prog 118 0 0 22 1 := ⟨by kernel_rfl, by kernel_rfl, by kernel_rfl⟩
theorem f_118_1 : FieldT Tryz.prog 118 1 1 94 1 := ⟨by kernel_rfl, by kernel_rfl, by kernel_rfl⟩
theorem f_120_0 : FieldT Tryz.prog 120 0 0 118 2 := ⟨by kernel_rfl, by kernel_rfl, by kernel_rfl⟩
theorem f_134_0 : FieldT Tryz.prog 134 0 0 22 1 := ⟨by kernel_rfl, by kernel_rfl, by kernel_rfl⟩
theorem f_134_1 : FieldT Tryz.prog 134 1 1 132 1 := ⟨by kernel_rfl, by kernel_rfl, by kernel_rfl⟩
theorem f_136_0 : FieldT Tryz.prog 136 0 0 98 2 := ⟨by kernel_rfl, by kernel_rfl, by kernel_rfl⟩
theorem f_136_1 : FieldT Tryz.prog 136 1 2 134 2 := ⟨by kernel_rfl, by kernel_rfl, by kernel_rfl⟩
theorem f_161_0 : FieldT Tryz.prog 161 0 0 9 1 := ⟨by kernel_rfl, by kernel_rfl, by kernel_rfl⟩
theorem e_14 : entersB Tryz.prog 14 = true := by kernel_rfl
theorem e_18 : entersB Tryz.prog 18 = true := by kernel_rfl
theorem e_19 : entersB Tryz.prog 19 = true := by kernel_rfl
theorem e_20 : entersB Tryz.prog 20 = true := by kernel_rfl
theorem e_26 : entersB Tryz.prog 26 = true := by kernel_rfl
theorem e_31 : entersB Tryz.prog 31 = true := by kernel_rfl
theorem e_32 : entersB Tryz.prog 32 = true := by kernel_rfl
theorem e_33 : entersB Tryz.prog 33 = true := by kernel_rfl
theorem e_35 : entersB Tryz.prog 35 = true := by kernel_rfl
theorem e_36 : entersB Tryz.prog 36 = true := by kernel_rfl
theorem e_37 : entersB Tryz.prog 37 = true := by kernel_rfl
theorem e_38 : entersB Tryz.prog 38 = true := by kernel_rfl
theorem e_42 : entersB Tryz.prog 42 = true := by kernel_rfl
theorem e_43 : entersB Tryz.prog 43 = true := by kernel_rfl
theorem e_44 : entersB Tryz.prog 44 = true := by kernel_rfl
theorem e_45 : entersB Tryz.prog 45 = true := by kernel_rfl
theorem e_46 : entersB Tryz.prog 46 = true := by kernel_rfl
theorem e_47 : entersB Tryz.prog 47 = true := by kernel_rfl
theorem e_50 : entersB Tryz.prog 50 = true := by kernel_rfl
theorem e_51 : entersB Tryz.prog 51 = true := by kernel_rfl
theorem e_52 : entersB Tryz.prog 52 = true := by kernel_rfl
theorem e_53 : entersB Tryz.prog 53 = true := by kernel_rfl
theorem e_55 : entersB Tryz.prog 55 = true := by kernel_rfl
theorem e_56 : entersB Tryz.prog 56 = true := by kernel_rfl
theorem e_58 : entersB Tryz.prog 58 = true := by kernel_rfl
theorem e_59 : entersB Tryz.prog 59 = true := by kernel_rfl
theorem e_60 : entersB Tryz.prog 60 = true := by kernel_rfl
theorem e_61 : entersB Tryz.prog 61 = true := by kernel_rfl
theorem e_62 : entersB Tryz.prog 62 = true := by kernel_rfl
theorem e_63 : entersB Tryz.prog 63 = true := by kernel_rfl
theorem e_64 : entersB Tryz.prog 64 = true := by kernel_rfl
theorem e_65 : entersB Tryz.prog 65 = true := by kernel_rfl
theorem e_66 : entersB Tryz.prog 66 = true := by kernel_rfl
theorem e_68 : entersB Tryz.prog 68 = true := by kernel_rfl
theorem e_70 : entersB Tryz.prog 70 = true := by kernel_rfl
theorem e_71 : entersB Tryz.prog 71 = true := by kernel_rfl
theorem e_72 : entersB Tryz.prog 72 = true := by kernel_rfl
theorem e_74 : entersB Tryz.prog 74 = true := by kernel_rfl
theorem e_75 : entersB Tryz.prog 75 = true := by kernel_rfl
theorem e_76 : entersB Tryz.prog 76 = true := by kernel_rfl
theorem e_77 : entersB Tryz.prog 77 = true := by kernel_rfl
theorem e_78 : entersB Tryz.prog 78 = true := by kernel_rfl
theorem e_79 : entersB Tryz.prog 79 = true := by kernel_rfl
theorem e_80 : entersB Tryz.prog 80 = true := by kernel_rfl
theorem e_81 : entersB Tryz.prog 81 = true := by kernel_rfl
theorem e_82 : entersB Tryz.prog 82 = true := by kernel_rfl
theorem e_83 : entersB Tryz.prog 83 = true := by kernel_rfl
theorem e_84 : entersB Tryz.prog 84 = true := by kernel_rfl
theorem e_87 : entersB Tryz.prog 87 = true := by kernel_rfl
theorem e_88 : entersB Tryz.prog 88 = true := by kernel_rfl
theorem e_89 : entersB Tryz.prog 89 = true := by kernel_rfl
theorem e_90 : entersB Tryz.prog 90 = true := by kernel_rfl
theorem e_92 : entersB Tryz.prog 92 = true := by kernel_rfl
theorem e_93 : entersB Tryz.prog 93 = true := by kernel_rfl
theorem e_94 : entersB Tryz.prog 94 = true := by kernel_rfl
theorem e_95 : entersB Tryz.prog 95 = true := by kernel_rfl
theorem e_96 : entersB Tryz.prog 96 = true := by kernel_rfl
theorem e_97 : entersB Tryz.prog 97 = true := by kernel_rfl
theorem e_98 : entersB Tryz.prog 98 = true := by kernel_rfl
theorem e_99 : entersB Tryz.prog 99 = true := by kernel_rfl
theorem e_100 : entersB Tryz.prog 100 = true := by kernel_rfl
theorem e_101 : entersB Tryz.prog 101 = true := by kernel_rfl
theorem e_102 : entersB Tryz.prog 102 = true := by kernel_rfl
theorem e_104 : entersB Tryz.prog 104 = true := by kernel_rfl
theorem e_105 : entersB Tryz.prog 105 = true := by kernel_rfl
theorem e_106 : entersB Tryz.prog 106 = true := by kernel_rfl
theorem e_107 : entersB Tryz.prog 107 = true := by kernel_rfl
theorem e_108 : entersB Tryz.prog 108 = true := by kernel_rfl
theorem e_109 : entersB Tryz.prog 109 = true := by kernel_rfl
theorem e_110 : entersB Tryz.prog 110 = true := by kernel_rfl
theorem e_113 : entersB Tryz.prog 113 = true := by kernel_rfl
theorem e_114 : entersB Tryz.prog 114 = true := by kernel_rfl
theorem e_115 : entersB Tryz.prog 115 = true := by kernel_rfl
theorem e_116 : entersB Tryz.prog 116 = true := by kernel_rfl
theorem e_117 : entersB Tryz.prog 117 = true := by kernel_rfl
theorem e_118 : entersB Tryz.prog 118 = true := by kernel_rfl
theorem e_119 : entersB Tryz.prog 119 = true := by kernel_rfl
theorem e_120 : entersB Tryz.prog 120 = true := by kernel_rfl
theorem e_121 : entersB Tryz.prog 121 = true := by kernel_rfl
theorem e_122 : entersB Tryz.prog 122 = true := by kernel_rfl
theorem e_124 : entersB Tryz.prog 124 = true := by kernel_rfl
theorem e_125 : entersB Tryz.prog 125 = true := by kernel_rfl
theorem e_126 : entersB Tryz.prog 126 = true := by kernel_rfl
theorem e_127 : entersB Tryz.prog 127 = true := by kernel_rfl
theorem e_130 : entersB Tryz.prog 130 = true := by kernel_rfl
theorem e_131 : entersB Tryz.prog 131 = true := by kernel_rfl
theorem e_132 : entersB Tryz.prog 132 = true := by kernel_rfl
theorem e_133 : entersB Tryz.prog 133 = true := by kernel_rfl
theorem e_134 : entersB Tryz.prog 134 = true := by kernel_rfl
theorem e_135 : entersB Tryz.prog 135 = true := by kernel_rfl
theorem e_136 : entersB Tryz.prog 136 = true := by kernel_rfl
theorem e_137 : entersB Tryz.prog 137 = true := by kernel_rfl
theorem e_138 : entersB Tryz.prog 138 = true := by kernel_rfl
theorem e_139 : entersB Tryz.prog 139 = true := by kernel_rfl
theorem e_140 : entersB Tryz.prog 140 = true := by kernel_rfl
theorem e_141 : entersB Tryz.prog 141 = true := by kernel_rfl
theorem e_142 : entersB Tryz.prog 142 = true := by kernel_rfl
theorem e_143 : entersB Tryz.prog 143 = true := by kernel_rfl
theorem e_144 : entersB Tryz.prog 144 = true := by kernel_rfl
theorem e_145 : entersB Tryz.prog 145 = true := by kernel_rfl
theorem e_146 : entersB Tryz.prog 146 = true := by kernel_rfl
theorem e_147 : entersB Tryz.prog 147 = true := by kernel_rfl
theorem e_148 : entersB Tryz.prog 148 = true := by kernel_rfl
theorem e_149 : entersB Tryz.prog 149 = true := by kernel_rfl
theorem e_151 : entersB Tryz.prog 151 = true := by kernel_rfl
theorem e_152 : entersB Tryz.prog 152 = true := by kernel_rfl
theorem e_154 : entersB Tryz.prog 154 = true := by kernel_rfl
theorem e_159 : entersB Tryz.prog 159 = true := by kernel_rfl
theorem e_160 : entersB Tryz.prog 160 = true := by kernel_rfl
theorem e_163 : entersB Tryz.prog 163 = true := by kernel_rfl
theorem e_166 : entersB Tryz.prog 166 = true := by kernel_rfl
theorem e_167 : entersB Tryz.prog 167 = true := by kernel_rfl
theorem e_168 : entersB Tryz.prog 168 = true := by kernel_rfl
theorem e_169 : entersB Tryz.prog 169 = true := by kernel_rfl
theorem e_179 : entersB Tryz.prog 179 = true := by kernel_rfl
theorem e_180 : entersB Tryz.prog 180 = true := by kernel_rfl
theorem e_196 : entersB Tryz.prog 196 = true := by kernel_rfl
end Go.Proofs.YtaddeakfojpdoaaGreatDoorC
