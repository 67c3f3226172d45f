/- Writing into slices of one's own, making and copying slices, contracts of functions that write, in the calculus; each rule holds of whatever program. -/
import Derived.Test.YtjklgohpminefaaGreatDoorBunQ2
import Derived.Laws.Cover3
import Derived.Laws.Externs
import Derived.Lib.Bytealg
import Derived.Laws.IdiomStrings

set_option linter.unusedVariables false
set_option linter.unusedSimpArgs false
set_option maxRecDepth 1000000
namespace Go.Proofs.YtjklgohpminefaaGreatDoorC
open Go.RowKit
section
variable {ro : Option Nat} {P : Program} {n : Nat} {Q : QH} {σ : Env} {D : List Deferred} {w : World} {dst : Option Nat} {ty : TypeId} {pos : String} {af : Array Edge} {g : Option (Nat × Bool)}
variable {ops rest : List Oper} {K : Ops}
def FnM (P : Program) (M : Nat → Prop) (f : FuncId) (args : Array Value) (w : World) (R : Value → World → Prop) : Prop :=
 Calls P f args w fun e w' => ∃ v, e = .returned v ∧ Ext M w w' ∧ R v w'
theorem fnM_of_W {M : Nat → Prop} {f : FuncId} {fn : Func} {c : Code} {args : List Value} {R : Value → World → Prop} (hf : P.funcs[f]? = some fn) (hb : fn.body = some c) (hk : okc fn.ntmps c = true) (hl' : Nat.ble args.length fn.ntmps = true)
  (h : W none P fn.ntmps c (RetQ P fn.results.toList (fun v w' => Ext M w w' ∧ R v w')) (env0 args) [] w) : FnM P M f args.toArray w R :=
 Q2 hf hb hk hl' h
theorem ZI {M : Nat → Prop} {f : FuncId} {ags : List Operand} {ts : Array TypeId} {args : List Value} {R : Value → World → Prop} (hf : Xa P f = true) (ha : ags.map (ev σ) = args) (h : FnM P M f args.toArray w R)
  (k : ∀ v w', Ext M w w' → R v w' → wl P ops rest K (put σ dst v) w') : wl P ops (⟨dst, .call ⟨.value (.func f), ags.toArray, ts⟩, ty, pos, af, none⟩ :: rest) K σ w := by
 show XR P ops _ σ w _
 rw [Qn]; unfold op1
 have e : (execOp (ev σ) ⟨dst, .call ⟨.value (.func f), ags.toArray, ts⟩, ty, pos, af, none⟩).run P w = .ok (.enter f args.toArray) w := by
  simp [execOp, resolve, ev, ha, Deferred.ofValue, invoke, QY hf]
 rw [e]
 exact Calls.mono h fun e w' hx => by obtain ⟨v, h1, h2, h3⟩ := hx; exact ⟨v, h1, k v w' h2 h3⟩
def XX (rows : List (List Value)) (l : Nat) (rs : List (List Value)) : List (List Value) := rows.take l ++ rs ++ rows.drop (l + rs.length)
theorem X4 {rows : List (List Value)} {l : Nat} {rs : List (List Value)} (h : l + rs.length ≤ rows.length) : (XX rows l rs).length = rows.length := by simp [XX]; omega
theorem flat_take {k : Nat} {rows : List (List Value)} (h : ∀ r ∈ rows, r.length = k) (l : Nat) (hl : l ≤ rows.length) : rows.flatten.take (l * k) = (rows.take l).flatten := by
 conv => lhs; rw [← List.take_append_drop l rows, List.flatten_append]
 have e : (rows.take l).flatten.length = l * k := by rw [XN (fun r hr => h r (List.mem_of_mem_take hr)), List.length_take, Nat.min_eq_left hl]
 rw [List.take_append_of_le_length (by omega), List.take_of_length_le (by omega)]
theorem flat_drop {k : Nat} {rows : List (List Value)} (h : ∀ r ∈ rows, r.length = k) (l : Nat) (hl : l ≤ rows.length) : rows.flatten.drop (l * k) = (rows.drop l).flatten := by
 conv => lhs; rw [← List.take_append_drop l rows, List.flatten_append]
 have e : (rows.take l).flatten.length = l * k := by rw [XN (fun r hr => h r (List.mem_of_mem_take hr)), List.length_take, Nat.min_eq_left hl]
 rw [List.drop_append_of_le_length (by omega), List.drop_of_length_le (by omega), List.nil_append]
theorem flat_patch {k : Nat} {rows rs : List (List Value)} (h : ∀ r ∈ rows, r.length = k) (h2 : ∀ r ∈ rs, r.length = k) (l : Nat) (hl : l + rs.length ≤ rows.length) (sp : List Value) : XZ (rows.flatten ++ sp) (l * k) rs.flatten = (XX rows l rs).flatten ++ sp := by
 have e1 : rows.flatten.length = rows.length * k := XN h
 have e2 : rs.flatten.length = rs.length * k := XN h2
 have e3 : l * k + rs.length * k ≤ rows.length * k := by rw [← Nat.add_mul]; exact Nat.mul_le_mul_right _ hl
 unfold XZ XX
 rw [List.take_append_of_le_length (by omega), flat_take h l (by omega), e2, ← Nat.add_mul, List.drop_append_of_le_length (by rw [e1]; exact Nat.mul_le_mul_right _ hl), flat_drop h _ hl]
 simp
theorem Ow.write {v : Value} {b k : Nat} {rows : List (List Value)} {spare : List Value} (h : Ow w v b k rows spare) {rs : List (List Value)} (hr : ∀ r ∈ rs, r.length = k) (h1 : ∀ r ∈ rs, ∀ u ∈ r, u.oneCell' = true) (l : Nat) (hl : l + rs.length ≤ rows.length) :
  ∃ w', (storeCells ⟨b, l * k, none⟩ rs.flatten).run P w = .ok () w' ∧ Ext (fun i => i = b) w w' ∧ Ow w' v b k (XX rows l rs) spare ∧ w'.heap.size = w.heap.size := by
 obtain ⟨⟨c, hv, hc1, hc2, hc3⟩, ⟨T, hbox⟩, heach⟩ := h
 have e1 := XN heach
 have e2 := XN hr
 obtain ⟨w', h2, h3, h4, h5⟩ := QO (P := P) b T rs.flatten (l * k) 0 (rows.flatten ++ spare) w hbox (fun u hu => by obtain ⟨r, hr', hu⟩ := List.mem_flatten.1 hu; exact h1 r hr' u hu)
  (by simp only [List.length_append]; rw [e1, e2, Nat.add_zero, ← Nat.add_mul]; exact Zle (Nat.mul_le_mul_right _ hl) (Nat.le_add_right _ _))
 rw [Nat.add_zero, flat_patch heach hr l hl] at h4
 refine ⟨w', h2, h3, ⟨⟨c, by rw [X4 hl]; exact hv, by rw [X4 hl]; exact hc1, hc2, by rw [X4 hl]; exact hc3⟩, ⟨T, h4⟩, fun r hr' => ?_⟩, h5⟩
 simp only [XX, List.append_assoc, List.mem_append] at hr'
 rcases hr' with hr' | hr' | hr'
 ·exact heach r (List.mem_of_mem_take hr')
 ·exact hr r hr'
 ·exact heach r (List.mem_of_mem_drop hr')
theorem zeros_flat {z : List Value} {k n : Nat} {zc : Array Value} (hz : z.length = k) (hzc : zc.toList = z) : (Builtin.zeroCells zc n).toList = (List.replicate n z).flatten := by
 have hs : zc.size = k := by rw [← hz, ← hzc]; simp
 apply List.ext_getElem
 ·simp [Builtin.zeroCells, hz, hs]
 ·intro i h1 h2
  simp only [List.length_flatten, List.map_replicate, hz, List.sum_replicate_nat] at h2
  have hk0 : 0 < k := Nat.pos_of_ne_zero (fun e => by simp [e] at h2)
  have hik : i / k < n := Nat.div_lt_of_lt_mul (by rw [Nat.mul_comm]; exact h2)
  have e1 : (List.replicate n z).flatten[i / k * k + i % k]? = ((List.replicate n z)[i / k]'(by simpa using hik))[i % k]? := flat_at (k := k) (fun r hr => by rw [List.eq_of_mem_replicate hr, hz]) (i / k) (i % k) (by simpa using hik) (Nat.mod_lt _ hk0)
  rw [Nat.div_add_mod' i k] at e1
  have e2 : (List.replicate n z).flatten[i]? = some (z[i % k]'(by rw [hz]; exact Nat.mod_lt _ hk0)) := by rw [e1]; simp
  obtain ⟨_, e3⟩ := List.getElem?_eq_some_iff.1 e2
  rw [e3]
  have hlt : i % zc.size < zc.size := Nat.mod_lt _ (by omega)
  simp only [Builtin.zeroCells, Array.getElem_toList, Array.getElem_map, Array.getElem_range]
  have e5 : zc[i % zc.size]! = zc[i % zc.size]'hlt := by simp [hlt]
  rw [e5]
  subst hzc
  simp [hs]
section
variable {t e : TypeId} {k bytes : Nat} {z : List Value}
theorem JR (hT : XA P t e k bytes z) (hz : z.length = k) {l c : Operand} {m d : Nat} (hl : ev σ l = .int .i64 m) (hc : ev σ c = .int .i64 m) (hb : m * bytes ≤ 140737488355328) (hm : m ≤ big)
  (kk : ∀ w' b, w.heap.size ≤ b → Ext Non w w' → Ow w' (.slice (some ⟨b, 0, none⟩) m m) b k (List.replicate m z) [] → wl P ops rest K (upd σ d (.slice (some ⟨b, 0, none⟩) m m)) w') : wl P ops (⟨some d, .makeSlice t l c, ty, pos, af, none⟩ :: rest) K σ w := by
 obtain ⟨inf, v0, i1, i2, i3, i4, i5⟩ := hT.inf
 have hcells : ∀ zr : Array Value, (m * k = 0 → zr = #[]) → (¬ m * k = 0 → zr = v0.cells) → ((Array.range (m * k)).map (zr[· % zr.size]!)).toList = (List.replicate m z).flatten := by
  intro zr h0 h1
  by_cases hmk : m * k = 0
  ·rw [h0 hmk, hmk]
   have : (List.replicate m z).flatten.length = 0 := by simp [hz, hmk]
   rw [List.length_eq_zero_iff.1 this]; simp
  ·rw [h1 hmk]
   have := zeros_flat (n := m) hz i5
   have hs : v0.cells.size = k := by rw [← hz, ← i5]; simp
   rw [← this, Builtin.zeroCells, hs]
 refine QR (w' := w.alloc (.cells ((Array.range (m * k)).map ((if m * k = 0 then #[] else v0.cells)[· % (if m * k = 0 then #[] else v0.cells).size]!)) e)) (v := .slice (some ⟨w.heap.size, 0, none⟩) m m) ?_
  (kk _ _ (Nat.le_refl _) (Ext.alloc _ _) ⟨⟨m, by simp, by simp, hm, by simp⟩, ?_, fun r hr => by rw [List.eq_of_mem_replicate hr, hz]⟩)
 ·show (execOp (ev σ) _).run P w = _
  have hw : IntKind.i64.wrap (m : Int) = m := QE (by simp only [big] at hm; omega)
  have hmax : ¬ ((bytes : Int) * (m : Int) > 2 ^ 48) := by
   have : ((bytes * m : Nat) : Int) ≤ 140737488355328 := by rw [Nat.mul_comm]; omega
   rw [Int.natCast_mul] at this; omega
  have hneg : ¬ ((m : Int) < 0) := by omega
  have hai : ∀ w', (asInt (.int .i64 (m : Int))).run P w' = .ok (m : Int) w' := fun w' => by simp [asInt, asIntOf]
  have hmax' : ¬ ((281474976710656 : Int) < (bytes : Int) * (m : Int)) := by omega
  by_cases h0 : m * k = 0
  ·simp [execOp, Instr.makeSlice, hl, hc, hai, run_underlying hT.under, typeInfo, i1, hw, i3, hmax', hneg, XB i1, i2, h0, newRow]
  ·simp [execOp, Instr.makeSlice, hl, hc, hai, run_underlying hT.under, typeInfo, i1, hw, i3, hmax', hneg, XB i1, i2, h0, newRow, zeroValue, i4]
 ·have := JD w ((Array.range (m * k)).map ((if m * k = 0 then #[] else v0.cells)[· % (if m * k = 0 then #[] else v0.cells).size]!)) e
  rw [hcells _ (fun h => by rw [if_pos h]) (fun h => by rw [if_neg h])] at this
  rw [List.append_nil]; exact this
theorem wl_grow (hT : XA P t e k bytes z) (hz : z.length = k) {M M' : Nat → Prop} {s x : Operand} {d : Nat} {a a2 : Option Addr} {m c m2 c2 : Nat} {rows rows2 : List (List Value)} (hsv : ev σ s = .slice a m c) (hxv : ev σ x = .slice a2 m2 c2)
  (hs : Sl M w (.slice a m c) k rows) (hx : Sl M' w (.slice a2 m2 c2) k rows2) (hg : c < rows.length + rows2.length) (hb : (rows.length + rows2.length) * bytes ≤ 140737488355328) (h63 : rows.length + rows2.length ≤ big)
  (kk : ∀ v' w' b spare, w.heap.size ≤ b → Ext Non w w' → Ow w' v' b k (rows ++ rows2) spare → wl P ops rest K (upd σ d v') w') : wl P ops (⟨some d, .call ⟨.builtin .append, #[s, x], #[t, t]⟩, ty, pos, af, none⟩ :: rest) K σ w := by
 obtain ⟨v', w', sp, h2, h3, h4⟩ := QP hT hz hs hx hg hb h63 ty
 refine QR (w' := w') (v := v') ?_ (kk v' w' _ sp (Nat.le_refl _) h3 h4)
 show (execOp (ev σ) _).run P w = _
 simp [execOp, resolve, invoke, builtin, hsv, hxv, h2]
theorem wl_zeros (hT : XA P t e k bytes z) (hz : z.length = k) {ti : TypeId} {ki : IntKind} (hti : P.underlying ti = some (.int ki)) {M : Nat → Prop} {s x : Operand} {d : Nat} {a : Option Addr} {m c q : Nat} {rows : List (List Value)} (hsv : ev σ s = .slice a m c) (hxv : ev σ x = .int .i64 q)
  (hs : Sl M w (.slice a m c) k rows) (hg : c < rows.length + q) (hb : (rows.length + q) * bytes ≤ 140737488355328) (h63 : rows.length + q ≤ big)
  (kk : ∀ v' w' b spare, w.heap.size ≤ b → Ext Non w w' → Ow w' v' b k (rows ++ List.replicate q z) spare → wl P ops rest K (upd σ d v') w') : wl P ops (⟨some d, .call ⟨.builtin .append, #[s, x], #[t, ti]⟩, ty, pos, af, none⟩ :: rest) K σ w := by
 obtain ⟨inf, v0, h1, h2, h3, h4, h5⟩ := hT.inf
 have hm : m = rows.length := by obtain ⟨⟨_, _, h, _⟩, _⟩ := hs; simp only [Value.slice.injEq] at h; exact h.2.1
 subst hm
 have hgrow := growslice_fits hg hb
 have hq : ¬ (281474976710656 < Builtin.nextslicecap (rows.length + q) c * inf.bytes) := by rw [h3]; omega
 have hb63 : ¬ ((9223372036854775807 : Int) < (rows.length : Int) + (q : Int)) := by simp only [big] at h63; omega
 have hroom : ¬ (rows.length + q ≤ c) := by omega
 have hqw : IntKind.i64.wrap (q : Int) = q := QE (by simp only [big] at h63; omega)
 have hqb : ¬ ((281474976710656 : Int) < (q : Int) * (inf.bytes : Int)) := by
  rw [h3]
  have : q * bytes ≤ 140737488355328 := Zle (Nat.mul_le_mul_right _ (by omega)) hb
  have h' : ((q * bytes : Nat) : Int) ≤ 140737488355328 := by omega
  rw [Int.natCast_mul] at h'; omega
 have hqn : ¬ ((q : Int) < 0) := by omega
 have hf1 : (Builtin.firstCells k rows.length (.slice a rows.length c)).run P w.drew = .ok rows.flatten.toArray w.drew := Sl.first (w := w.drew) ⟨hs.ex, hs.each⟩
 have hcap := grownCap_ge w (rows.length + q) c e
 have hcap2 := grownCap_le_maxLen w (rows.length + q) c e (by simp only [maxLen, big] at *; omega)
 have hzf := zeros_flat (n := q) hz h5
 have hk0 : q * k = 0 → Builtin.zeroCells v0.cells q = #[] := fun h0 => by
  have : v0.cells.size = k := by rw [← hz, ← h5]; simp
  simp [Builtin.zeroCells, this, h0]
 let W' := ({ w with drawn := w.drawn + 1 } : World).alloc (.cells (rows.flatten.toArray ++ Builtin.zeroCells v0.cells q ++ Builtin.zeroCells v0.cells (grownCap w (rows.length + q) c e - (rows.length + q))) e)
 refine QR (w' := W') (v := .slice (some ⟨w.heap.size, 0, none⟩) (rows.length + q) (grownCap w (rows.length + q) c e)) ?_
  (kk _ _ w.heap.size (Builtin.zeroCells v0.cells (grownCap w (rows.length + q) c e - (rows.length + q))).toList (Nat.le_refl _) ?_ ⟨⟨grownCap w (rows.length + q) c e, by simp, by simpa using hcap, by simp only [maxLen, big] at *; omega, ?_⟩, ?_, ?_⟩)
 ·show (execOp (ev σ) _).run P w = _
  simp only [execOp, resolve, invoke, builtin]
  have hmax : IntKind.i64.max = 9223372036854775807 := by decide
  have key : (Builtin.append_ #[t, ti] ty #[.slice a rows.length c, .int .i64 (q : Int)]).run P w = .ok (.slice (some ⟨w.heap.size, 0, none⟩) (rows.length + q) (grownCap w (rows.length + q) c e)) W' := by
   have hai : ∀ w', (asInt (.int .i64 (q : Int))).run P w' = .ok (q : Int) w' := fun w' => by simp [asInt, asIntOf]
   simp only [Builtin.append_]
   by_cases h0 : q * k = 0
   ·have hz0 := hk0 h0
    simp [run_underlying hT.under, run_underlying hti, XB h1, h2, hai, hqw, hqn, hqb, hroom, typeInfo, h1, hq, hmax, hb63, hf1, h0, zeroValue, h4, newRow, grownCap, Question.forced, W', hz0]
   ·simp [run_underlying hT.under, run_underlying hti, XB h1, h2, hai, hqw, hqn, hqb, hroom, typeInfo, h1, hq, hmax, hb63, hf1, h0, zeroValue, h4, newRow, grownCap, Question.forced, W']
  simp [hsv, hxv, key]
 ·exact (Ext.alloc { w with drawn := w.drawn + 1 } _).trans (Ext.refl _ _) |> fun h => ⟨h.os, h.tape, h.output, h.size, h.block⟩
 ·have : v0.cells.size = k := by rw [← hz, ← h5]; simp
  simp [zero_len, this]
 ·have := JD { w with drawn := w.drawn + 1 } (rows.flatten.toArray ++ Builtin.zeroCells v0.cells q ++ Builtin.zeroCells v0.cells (grownCap w (rows.length + q) c e - (rows.length + q))) e
  simp only [Array.toList_append, hzf] at this
  simpa [W'] using this
 ·intro r hr
  rcases List.mem_append.1 hr with hr | hr
  ·exact hs.each r hr
  ·rw [List.eq_of_mem_replicate hr, hz]
theorem Ql (hT : XA P t e k bytes z) {ts : TypeId} {M' : Nat → Prop} {x y : Operand} {v : Value} {b l dl dc : Nat} {vy : Value} {rows rows2 : List (List Value)} {spare : List Value}
  (hx : ev σ x = .slice (some ⟨b, l * k, none⟩) dl dc) (hy : ev σ y = vy) (hs : Ow w v b k rows spare) (h2 : Sl M' w vy k rows2) (h1 : ∀ r ∈ rows2, ∀ u ∈ r, u.oneCell' = true) (hl : l + min rows2.length dl ≤ rows.length)
  (kk : ∀ w', Ext (fun i => i = b) w w' → Ow w' v b k (XX rows l (rows2.take dl)) spare → w'.heap.size = w.heap.size → wl P ops rest K (put σ dst (.int .i64 (min rows2.length dl : Nat))) w') : wl P ops (⟨dst, .call ⟨.builtin .copy, #[x, y], #[t, ts]⟩, ty, pos, af, none⟩ :: rest) K σ w := by
 obtain ⟨inf, v0, i1, i2, i3, i4, i5⟩ := hT.inf
 obtain ⟨a2, c2, rfl, _⟩ := h2.len
 have hlen : (rows2.take dl).length = min rows2.length dl := by simp [Nat.min_comm]
 have heach : ∀ r ∈ rows2.take dl, r.length = k := fun r hr => h2.each r (List.mem_of_mem_take hr)
 obtain ⟨w', e1, e2, e3, e4⟩ := hs.write (P := P) heach (fun r hr => h1 r (List.mem_of_mem_take hr)) l (by rw [hlen]; exact hl)
 have hfc : (Builtin.firstCells k (min rows2.length dl) (.slice a2 rows2.length c2)).run P w = .ok (rows2.take dl).flatten.toArray w := by
  have hsl : Sl M' w (.slice a2 (rows2.take dl).length c2) k (rows2.take dl) := by
   obtain ⟨⟨a', c', f1, f2, f3, f4⟩, f5⟩ := h2
   simp only [Value.slice.injEq] at f1
   obtain ⟨rfl, _, rfl⟩ := f1
   refine ⟨⟨a2, c2, rfl, by rw [hlen]; omega, f3, ?_⟩, heach⟩
   rcases f4 with f4 | ⟨bb, o, ha, hb, hn, hc⟩
   ·exact .inl (by simp [f4])
   ·refine .inr ⟨bb, o, ha, hb, hn, fun j hj => ?_⟩
    have hsplit : rows2.flatten = (rows2.take dl).flatten ++ (rows2.drop dl).flatten := by rw [← List.flatten_append, List.take_append_drop]
    rw [hc j (by rw [hsplit, List.length_append]; omega), hsplit, List.getElem?_append_left hj]
  have := hsl.first (P := P)
  rw [hlen] at this
  cases a2 <;> simpa [Builtin.firstCells] using this
 refine QR (w' := w') (v := .int .i64 (min rows2.length dl : Nat)) ?_ (kk w' e2 e3 e4)
 show (execOp (ev σ) _).run P w = _
 have hst : (storeCells ⟨b, l * k, none⟩ (rows2.take dl).flatten).run P w = .ok () w' := e1
 have key : (Builtin.copy_ #[t, ts] ty #[.slice (some ⟨b, l * k, none⟩) dl dc, .slice a2 rows2.length c2]).run P w = .ok (.int .i64 (min rows2.length dl : Nat)) w' := by
  simp only [Builtin.copy_]
  simp [run_underlying hT.under, Builtin.lenOf, XB i1, i2, hfc, hst, goInt]
 simp [execOp, resolve, invoke, builtin, hx, hy, key]
theorem wl_clear (hT : XA P t e k bytes z) (hz : z.length = k) (hz1 : ∀ u ∈ z, u.oneCell' = true) {x : Operand} {v : Value} {b m c : Nat} {a : Option Addr} {rows : List (List Value)} {spare : List Value}
  (hx : ev σ x = .slice a m c) (hs : Ow w v b k rows spare) (ha : m = 0 ∨ (a = some ⟨b, rows.length * k, none⟩ ∧ m * k ≤ spare.length))
  (kk : ∀ w' spare', Ext (fun i => i = b) w w' → Ow w' v b k rows spare' → wl P ops rest K (put σ dst (.tuple #[])) w') : wl P ops (⟨dst, .call ⟨.builtin .clear, #[x], #[t]⟩, ty, pos, af, none⟩ :: rest) K σ w := by
 obtain ⟨inf, v0, i1, i2, i3, i4, i5⟩ := hT.inf
 by_cases hm : m = 0
 ·subst hm
  refine QR (w' := w) (v := .tuple #[]) ?_ (kk w spare (Ext.refl _ _) hs)
  show (execOp (ev σ) _).run P w = _
  have key : (Builtin.clear_ #[t] ty #[.slice a 0 c]).run P w = .ok (.tuple #[]) w := by
   simp only [Builtin.clear_]
   cases a <;> simp [run_underlying hT.under]
  simp [execOp, resolve, invoke, builtin, hx, key]
 ·rcases ha with ha | ⟨rfl, hsp⟩
  ·exact absurd ha hm
  ·obtain ⟨⟨cc, hv, hc1, hc2, hc3⟩, ⟨T, hbox⟩, heach⟩ := hs
   have hzf := zeros_flat (n := m) hz i5
   have hzl : (List.replicate m z).flatten.length = m * k := by simp [hz]
   obtain ⟨w', h2, h3, h4, h5⟩ := QO (P := P) b T (List.replicate m z).flatten (rows.length * k) 0 (rows.flatten ++ spare) w hbox (fun u hu => by
     obtain ⟨r, hr, hu⟩ := List.mem_flatten.1 hu
     rw [List.eq_of_mem_replicate hr] at hu; exact hz1 u hu)
    (by rw [hzl, List.length_append, XN heach]; omega)
   rw [Nat.add_zero, ← XN heach, show XZ (rows.flatten ++ spare) rows.flatten.length (List.replicate m z).flatten = rows.flatten ++ ((List.replicate m z).flatten ++ spare.drop (m * k)) from by rw [patch_room (by rw [hzl]; exact hsp), hzl, List.append_assoc]] at h4
   refine QR (w' := w') (v := .tuple #[]) ?_ (kk w' _ h3 ⟨⟨cc, hv, hc1, hc2, ?_⟩, ⟨T, h4⟩, heach⟩)
   ·show (execOp (ev σ) _).run P w = _
    have hst : (storeCells ⟨b, rows.length * k, none⟩ (List.replicate m z).flatten).run P w = .ok () w' := h2
    have key : (Builtin.clear_ #[t] ty #[.slice (some ⟨b, rows.length * k, none⟩) m c]).run P w = .ok (.tuple #[]) w' := by
     simp only [Builtin.clear_]
     obtain ⟨m', rfl⟩ : ∃ m', m = m' + 1 := ⟨m - 1, by omega⟩
     simp [run_underlying hT.under, zeroValue, typeInfo, i1, i4, hzf, hst]
    simp [execOp, resolve, invoke, builtin, hx, key]
   ·rw [List.length_append, hzl, List.length_drop, hc3]
    have : m * k ≤ (cc - rows.length) * k := by rw [← hc3]; exact hsp
    omega
theorem Q9 (hT : XA P t e k bytes z) {x y : Operand} {a : Option Addr} {m c : Nat} {u : TypeId} (hx : ev σ x = .slice a m c) (hy : ev σ y = .slice none 0 0) : Rn P σ w ⟨dst, .binOp .eql t x y u, ty, pos, af, g⟩ (.bool a.isNone) := by
 show (execOp (ev σ) _).run P w = _
 have h1 := run_equal_slice_nil (P := P) w t e a m c hT.under
 have h2 : (binOp .eql t (.slice a m c) (.slice none 0 0)).run P w = .ok (.bool a.isNone) w := by
  show (do pure (Value.bool (← Op.equal t (.slice a m c) (.slice none 0 0)))).run P w = _
  rw [Sem.run_bind, h1]; rfl
 have h3 : (eqGuard .eql t x y (.slice a m c) (.slice none 0 0)).run P w = .ok () w := rfl
 simp only [execOp, hx, hy]
 rw [Sem.run_bind, Sem.run_bind, h3, Result.andThen_ok, h2]
 rfl
end
theorem wrap_u64 {a : Int} (h : 0 ≤ a ∧ a ≤ 18446744073709551615) : IntKind.u64.wrap a = a := by
 have h1 := h.1
 have h2 := h.2
 simp only [IntKind.wrap, IntKind.signed, IntKind.bits]
 simp
 omega
theorem rn_shr1 {t u : TypeId} {x y : Operand} {a : Int} (hx : ev σ x = .int .u64 a) (hy : ev σ y = .int .u64 1) : Rn P σ w ⟨dst, .binOp .shr t x y u, ty, pos, af, g⟩ (.int .u64 (a.fdiv 2)) := by
 show (execOp (ev σ) _).run P w = _
 simp [execOp, hx, hy, eqGuard, binOp, Op.shift, IntKind.bits]
theorem JA {t : TypeId} (hT : Xg P t) {x y : Operand} {v u : Value} {b i : Nat} {rows : List (List Value)} {spare : List Value} (hx : ev σ x = .pointer (some ((⟨b, 0, none⟩ : Addr).add (i * 1)))) (hy : ev σ y = u) (h1 : u.oneCell' = true) (hc : u.cells = #[u]) (hs : Ow w v b 1 rows spare) (hi : i < rows.length)
  (kk : ∀ w', Ext (fun i => i = b) w w' → Ow w' v b 1 (rows.set i [u]) spare → wl P ops rest K σ w') : wl P ops (⟨none, .store t x y, ty, pos, af, none⟩ :: rest) K σ w := by
 obtain ⟨w', e1, e2, e3, e4⟩ := hs.write (P := P) (rs := [[u]]) (by simp) (by simpa using h1) i (by simp; omega)
 have hp : XX rows i [[u]] = rows.set i [u] := by
  unfold XX
  rw [List.set_eq_take_append_cons_drop, if_pos hi]; simp
 rw [hp] at e3
 refine wl_do (w' := w') ?_ (kk w' e2 e3)
 show (execOp (ev σ) _).run P w = _
 rw [XF, Nat.zero_add] at hx
 have e1' : (storeCells ⟨b, i * 1, none⟩ [u]).run P w = .ok () w' := by simpa using e1
 have e7 : (storeCells ⟨b, i, none⟩ [u]).run P w = .ok () w' := by rw [Nat.mul_one] at e1'; exact e1'
 have e8 : ev σ x = .pointer (some ⟨b, i, none⟩) := by rw [hx, Nat.mul_one]
 simp [execOp, e8, hy, Instr.storeAt, Instr.sureAddr, storeVar, Jn hT.2, hc, e7]
theorem J1 {v : Value} (h : v.oneCell' = true) : ∀ u ∈ [v], u.oneCell' = true := by intro u hu; rw [List.mem_singleton] at hu; rw [hu]; exact h
theorem oneR {r : List Value} (h : ∀ u ∈ r, u.oneCell' = true) : ∀ x ∈ [r], ∀ u ∈ x, u.oneCell' = true := by intro x hx; rw [List.mem_singleton] at hx; rw [hx]; exact h
theorem wl_appR {t e : TypeId} {k bytes : Nat} {z : List Value} (hT : XA P t e k bytes z) {M' : Nat → Prop} {s x : Operand} {d : Nat} {b m c : Nat} {a2 : Option Addr} {m2 c2 : Nat} {rows rows2 : List (List Value)} {spare : List Value}
  (hsv : ev σ s = .slice (some ⟨b, 0, none⟩) m c) (hxv : ev σ x = .slice a2 m2 c2) (hs : Ow w (.slice (some ⟨b, 0, none⟩) m c) b k rows spare) (hx : Sl M' w (.slice a2 m2 c2) k rows2) (h1 : ∀ r ∈ rows2, ∀ u ∈ r, u.oneCell' = true) (hg : rows.length + rows2.length ≤ c)
  (kk : ∀ w' spare', Ext (fun i => i = b) w w' → Ow w' (.slice (some ⟨b, 0, none⟩) (rows.length + rows2.length) c) b k (rows ++ rows2) spare' → wl P ops rest K (upd σ d (.slice (some ⟨b, 0, none⟩) (rows.length + rows2.length) c)) w') : wl P ops (⟨some d, .call ⟨.builtin .append, #[s, x], #[t, t]⟩, ty, pos, af, none⟩ :: rest) K σ w := by
 obtain ⟨inf, v0, i1, i2, i3, i4, i5⟩ := hT.inf
 obtain ⟨⟨c', hv, hc1, hc2, hc3⟩, hbox, heach⟩ := hs
 simp only [Value.slice.injEq, true_and] at hv
 obtain ⟨rfl, rfl⟩ := hv
 have hm2 : m2 = rows2.length := by obtain ⟨⟨_, _, h, _⟩, _⟩ := hx; simp only [Value.slice.injEq] at h; exact h.2.1
 subst hm2
 have hf2 := hx.first (P := P) (w := w)
 have hfl := XN heach
 have hfl2 := XN hx.each
 obtain ⟨T, hbox⟩ := hbox
 have hsp : rows2.flatten.length ≤ spare.length := by rw [hfl2, hc3]; exact Nat.mul_le_mul_right _ (by omega)
 obtain ⟨w', h2, h3, h4, h5⟩ := QO (P := P) b T rows2.flatten (rows.length * k) 0 (rows.flatten ++ spare) w hbox (fun u hu => by obtain ⟨r, hr, hu⟩ := List.mem_flatten.1 hu; exact h1 r hr u hu)
  (by simp only [List.length_append]; omega)
 rw [Nat.add_zero, ← hfl, patch_room hsp] at h4
 refine QR (w' := w') (v := .slice (some ⟨b, 0, none⟩) (rows.length + rows2.length) c) ?_ (kk w' (spare.drop rows2.flatten.length) h3 ⟨⟨c, by simp, by simpa using hg, hc2, ?_⟩, ⟨T, by simpa using h4⟩, ?_⟩)
 ·show (execOp (ev σ) _).run P w = _
  have e : ((⟨b, 0, none⟩ : Addr).add (rows.length * k)) = ⟨b, rows.length * k, none⟩ := by rw [XF, Nat.zero_add]
  have key : (Builtin.append_ #[t, t] ty #[.slice (some ⟨b, 0, none⟩) rows.length c, .slice a2 rows2.length c2]).run P w = .ok (.slice (some ⟨b, 0, none⟩) (rows.length + rows2.length) c) w' := by
   simp [Builtin.append_, run_underlying hT.under, XB i1, i2, Builtin.lenOf, hg, hf2, e, h2]
  simp [execOp, resolve, invoke, builtin, hsv, hxv, key]
 ·rw [List.length_drop, hc3, hfl2, List.length_append, ← Nat.sub_mul]; congr 1; omega
 ·intro r hr
  rcases List.mem_append.1 hr with hr | hr
  ·exact heach r hr
  ·exact hx.each r hr
theorem Sl.cut0 {M : Nat → Prop} {a : Option Addr} {len cap k : Nat} {rows : List (List Value)} (hs : Sl M w (.slice a len cap) k rows) {h m : Nat} (h2 : h ≤ len) (h2' : h ≤ m) (h3 : m ≤ cap) : Sl M w (.slice a h m) k (rows.take h) := by
 have := hs.cut (Nat.zero_le h) h2 h2' h3
 rw [show (if m = 0 then a else a.map (·.add (0 * k))) = a from by split; rfl; cases a <;> simp [add_zero']] at this
 simpa using this
theorem QQ (F : Nat → Prop) {id : Nat} {l : List Oper} (hm : P.follows .mixedOrders = true)
  (h : ∀ w1, Ext Non w w1 → wd P l (fun A => Ext F w1 A) (fun σ' w' => Q .normal σ' D w') l.length (Array.replicate l.length false) σ w1) : W ro P n (.region id l.toArray true) Q σ D w :=
 W_draw _ hm (h _ (Ext.refl _ _).drew)
theorem Qy {t e : TypeId} {k bytes : Nat} {z : List Value} (hT : XA P t e k bytes z) {x : Operand} {lo hi mx : Option Operand} {b len cap l h m : Nat} (hx : ev σ x = .slice (some ⟨b, 0, none⟩) len cap)
  (hlo : Bd σ lo 0 l) (hhi : Bd σ hi len h) (hmx : Bd σ mx cap m) (hm : mx.isSome = true → hi.isSome = true) (h1 : l ≤ h) (h2 : h ≤ m) (h3 : m ≤ cap) (hlm : l ≠ m) :
  Rn P σ w ⟨dst, .slice t x lo hi mx, ty, pos, af, g⟩ (.slice (some ⟨b, l * k, none⟩) (h - l) (m - l)) := by
 have := Xs (P := P) (w := w) (dst := dst) (ty := ty) (pos := pos) (af := af) (g := g) hT hx hlo hhi hmx hm h1 h2 h3
 rw [if_neg (fun e => hlm e.symm)] at this
 simpa [XF] using this
theorem wl_store0 {t : TypeId} (hT : XD P t 0) {x y : Operand} {a : Addr} (hx : ev σ x = .pointer (some a)) (hy : ev σ y = .agg #[]) (kk : wl P ops rest K σ w) : wl P ops (⟨none, .store t x y, ty, pos, af, none⟩ :: rest) K σ w := by
 refine wl_do (w' := w) ?_ kk
 show (execOp (ev σ) _).run P w = _
 simp [execOp, hx, hy, Instr.storeAt, Instr.sureAddr, storeVar, Jn hT.2, Value.cells, storeCells]
theorem Ow.set0 {v : Value} {b : Nat} {rows : List (List Value)} {spare : List Value} (h : Ow w v b 0 rows spare) (i : Nat) : Ow w v b 0 (rows.set i []) spare := by
 have e : rows.set i [] = rows := by
  by_cases hi : i < rows.length
  ·apply List.ext_getElem?
   intro j
   by_cases hj : i = j
   ·subst hj
    have := List.length_eq_zero_iff.1 (h.each _ (List.getElem_mem hi))
    simp [hi, this]
   ·simp [List.getElem?_set_ne hj]
  ·exact List.set_eq_of_length_le (by omega)
 rw [e]; exact h
def OwX (lo : Nat) (N : Nat → Prop) (A : World) (v : Value) (o : Option Nat) (k : Nat) (rows : List (List Value)) : Prop := OwO A v o k rows ∧ ∀ i, o = some i → ¬ N i ∧ lo ≤ i
theorem Z6.owx {n0 : Nat} (lo : Nat) (v : Value) (o : Option Nat) (k : Nat) (rows : List (List Value)) : Z6 n0 (fun N A => OwX lo N A v o k rows) := fun N A B hN hA h hE =>
 ⟨h.1.ext hE (fun i hi => (h.2 i hi).1), fun i hi => ⟨not_grow (h.2 i hi).1 (h.1.lt hi), (h.2 i hi).2⟩⟩
theorem OwX.ext {lo : Nat} {N : Nat → Prop} {A B : World} {v : Value} {o : Option Nat} {k : Nat} {rows : List (List Value)} (h : OwX lo N A v o k rows) {M : Nat → Prop} (hE : Ext M A B) (hm : ∀ i, o = some i → ¬ M i) : OwX lo N B v o k rows := ⟨h.1.ext hE hm, h.2⟩
theorem Z6.slB {n0 : Nat} (F : Nat → Prop) (v : Value) (k : Nat) (rows : List (List Value)) : Z6 n0 (fun N A => Sl (fun i => N i ∨ F i) A v k rows) := fun N A B hN hA h hE =>
 (h.sub (M' := fun i => grow N A B i ∨ F i) (fun i hi hlt => by rcases hi with (hi | ⟨hi, _⟩) | hi; exact .inl hi; omega; exact .inr hi)).ext hE (fun i h => .inl (.inl h))
theorem ins_rows {rows : List (List Value)} {i : Nat} {r : List Value} {zs : List (List Value)} (hi : i ≤ rows.length) (hz : zs.length = rows.length + 1 - i) : XX (XX (rows.take i ++ zs) i [r]) (i + 1) (rows.drop i) = rows.take i ++ r :: rows.drop i := by
 have h1 : (rows.take i).length = i := by rw [List.length_take, Nat.min_eq_left hi]
 have e1 : XX (rows.take i ++ zs) i [r] = rows.take i ++ r :: zs.drop 1 := by
  unfold XX
  rw [List.take_append_of_le_length (by omega), List.take_of_length_le (by omega), List.length_singleton, List.drop_append, List.drop_of_length_le (by omega), h1]
  simp
 rw [e1]
 unfold XX
 have e2 : (rows.take i ++ r :: zs.drop 1).take (i + 1) = rows.take i ++ [r] := by
  rw [List.take_append, List.take_of_length_le (by omega), h1, show i + 1 - i = 1 from by omega]; simp
 have e3 : (rows.take i ++ r :: zs.drop 1).drop (i + 1 + (rows.drop i).length) = [] := List.drop_of_length_le (by rw [List.length_append, h1, List.length_cons, List.length_drop, List.length_drop]; omega)
 rw [e2, e3]
 simp
theorem Zfm {P : Program} {w : World} {M : Nat → Prop} {f : FuncId} {fn : Func} {c : Code} {args : List Value} {R : Value → World → Prop} (hf : P.funcs[f]? = some fn) (hb : fn.body = some c) (hl' : Nat.ble args.length fn.ntmps = true) (h : W none P fn.ntmps c (RetQ P fn.results.toList (fun v w' => Ext M w w' ∧ R v w')) (env0 args) [] w) (hk : okc fn.ntmps c = true := by kernel_rfl) : FnM P M f args.toArray w R := fnM_of_W hf hb hk hl' h
end
section
variable {ro : Option Nat} {P : Program} {n : Nat} {Q : QH} {σ : Env} {D : List Deferred} {w : World} {S : World → Prop} {K : Ops} {ex : Nat → Bool}
def wx (P : Program) (ops : List Oper) (ex : Nat → Bool) (S : World → Prop) (K : Ops) : Nat → Array Bool → Env → World → Prop
 | 0, listed, σ, w => Region.ready .any ops.toArray listed = [] ∧ K σ w
 | f + 1, listed, σ, w => (Region.ready .any ops.toArray listed = [] → K σ w) ∧
  ∀ i ∈ Region.ready .any ops.toArray listed, ∀ o, ops[i]? = some o → XR P ops o σ w (fun σ' w' => (ex i = false → S w') ∧ wx P ops ex S K f (listed.setIfInBounds i true) σ' w')
theorem wx_sound {ops : List Oper} (hops : okOps n ops = true) (hnd : noDefer ops = true) : ∀ (f : Nat) (listed : Array Bool) (σ : Env) (a : Act) (w : World), Sim n a σ → wx P ops ex S K f listed σ w →
  wpAnyIn (fz ro) 0 P .any ops.toArray (fun e a' w' => e = .normal ∧ ∃ σ', Sim n a' σ' ∧ a'.defers = a.defers ∧ K σ' w') f listed a w
 | 0, listed, σ, a, w, hs, h => ⟨h.1, rfl, σ, hs, rfl, h.2⟩
 | f + 1, listed, σ, a, w, hs, h => by
  refine ⟨fun h0 => ⟨rfl, σ, hs, rfl, h.1 h0⟩, fun i hi => ?_⟩
  unfold wpOpIn
  cases ho : ops.toArray[i]? with
  | none => obtain ⟨_, o, ho', _⟩ := mem_ready.1 hi; rw [ho] at ho'; cases ho'
  | some o =>
   have ho' : ops[i]? = some o := by simpa using ho
   have hmem := List.mem_of_getElem? ho'
   have hdst : ∀ d, o.dst = some d → d < n := fun d e => by
    have := List.all_eq_true.1 hops o hmem; rw [e] at this; simpa using this
   have hd : ∀ v, (a.put o.dst v).defers = a.defers := fun v => by cases o.dst <;> rfl
   have h1 := h.2 i hi o ho'
   simp only
   rw [wanted_sim hs hops]
   unfold XR at h1
   by_cases hw : XM ops σ o = true
   ·rw [if_pos hw] at h1 ⊢
    refine op1_sound hs hdst (List.all_eq_true.1 hnd o hmem) (fun a' σ' w' hs' hd' hk => ?_) h1
    have := wx_sound hops hnd f _ σ' a' w' hs' hk.2
    rw [hd'] at this; exact this
   ·rw [if_neg hw] at h1 ⊢
    refine ⟨fun f _ => fz_fn ro f, ?_⟩
    have := wx_sound hops hnd f _ _ _ w (hs.put o.dst undef hdst) h1.2
    rw [hd] at this; exact this
theorem W_drawX0 {id : Nat} {l : List Oper} (S : World → Prop) (hm : P.follows .mixedOrders = true)
  (h : wx P l ex S (fun σ' w' => Q .normal σ' D w') l.length (Array.replicate l.length false) σ { w with drawn := w.drawn + 1 }) : W ro P n (.region id l.toArray true) Q σ D w := by
 intro hk a hs hd
 simp only [okc, Bool.and_eq_true] at hk
 refine wpIn_mono (wpIn_region_any hm (by simpa using wx_sound (ro := ro) hk.1 hk.2 _ _ _ a _ hs h)) ?_
 rintro e a' w' ⟨rfl, σ', hs', hd', hk'⟩
 exact ⟨σ', hs', by rw [hd', hd]; exact hk'⟩
structure Beh (ops : List Oper) (ex : Nat → Bool) (i : Nat) (D : List Nat) (listed : Array Bool) : Prop where
 inc : ∀ j oj, ops[j]? = some oj → ex j = true → j ∈ D
 cls : ∀ j oj, ops[j]? = some oj → j ∈ D → ∃ e ∈ oj.after, Region.binds .any e = true ∧ (e.on = i ∨ e.on ∈ D)
 non : ∀ j, j ∈ D → listed.getD j true = false
theorem wx_first {ops : List Oper} {i : Nat} {oi : Oper} {v : Value} {DL : List Nat} (hi : ops[i]? = some oi) (hsel : Region.noSelect ops.toArray = true) : ∀ (f : Nat) (listed : Array Bool) (σ : Env) (w : World),
  Beh ops ex i DL listed →
  (∀ j oj, ops.toArray[j]? = some oj → j ≠ i → listed.getD j true = false → (∀ e ∈ oj.after, Region.binds .any e = true → e.on ≠ i) → oi.apart ops.toArray oj = true) →
  i ∈ Region.ready .any ops.toArray listed → Yd P ops S oi v σ → S w →
  wx P ops ex S K f (listed.setIfInBounds i true) (put σ oi.dst v) w → wx P ops ex S K (f + 1) listed σ w
 | 0, listed, σ, w, _, _, hr, hy, hS, H => by
  refine ⟨fun h => (by rw [h] at hr; cases hr), fun j hj o ho => ?_⟩
  by_cases hji : j = i
  ·subst hji; rw [hi] at ho; cases ho; exact hy.step hS ⟨fun _ => hS, H⟩
  ·have := ready_mono hj hji
   rw [H.1] at this; cases this
 | f + 1, listed, σ, w, hB, hfree, hr, hy, hS, H => by
  refine ⟨fun h => (by rw [h] at hr; cases hr), fun j hj oj hoj => ?_⟩
  by_cases hji : j = i
  ·subst hji; rw [hi] at hoj; cases hoj; exact hy.step hS ⟨fun _ => hS, H⟩
  ·have hoj' : ops.toArray[j]? = some oj := by simpa using hoj
   have h1 := H.2 j (ready_mono hj hji) oj hoj
   obtain ⟨hjun, oj', hoj2, hall⟩ := mem_ready.1 hj
   rw [hoj'] at hoj2; cases hoj2
   have lst : ∀ k, listed.getD k true = false → ∀ e ∈ oj.after, Region.binds .any e = true → e.on ≠ k := fun k h0 e he hb heq => by
    have h1 := hall e he hb
    rw [heq] at h1
    rcases Nat.lt_or_ge k listed.size with h' | h'
    ·simp [h'] at h0 h1; rw [h0] at h1; cases h1
    ·simp [Array.getElem?_eq_none h'] at h1
   have hnot : ∀ e ∈ oj.after, Region.binds .any e = true → e.on ≠ i := lst i (mem_ready.1 hr).1
   have hjD : ¬ j ∈ DL := fun hm => by
    obtain ⟨e, he, hb, h⟩ := hB.cls j oj hoj hm
    rcases h with h | h
    ·exact hnot e he hb h
    ·exact lst e.on (hB.non _ h) e he hb rfl
   have hex : ex j = false := by
    cases hx : ex j with
    | false => rfl
    | true => exact absurd (hB.inc j oj hoj hx) hjD
   have h2 := step1_swap (hfree j oj hoj' hji hjun hnot) (fun cs b => Region.noSelect_spec hsel i oi cs b (by simpa using hi)) (fun cs b => Region.noSelect_spec hsel j oj cs b hoj') hy h1
   have hfree' : ∀ k ok, ops.toArray[k]? = some ok → k ≠ i → (listed.setIfInBounds j true).getD k true = false →
     (∀ e ∈ ok.after, Region.binds .any e = true → e.on ≠ i) → oi.apart ops.toArray ok = true := fun k ok hk hki hun hno => by
    refine hfree k ok hk hki ?_ hno
    by_cases hjk : j = k
    ·subst hjk; exact hjun
    ·rw [getD_set_ne true hjk] at hun; exact hun
   have hB' : Beh ops ex i DL (listed.setIfInBounds j true) := ⟨hB.inc, hB.cls, fun k hk => by rw [getD_set_ne true (show j ≠ k from fun e => hjD (by rw [e]; exact hk))]; exact hB.non k hk⟩
   refine step1_mono (fun σ' w' h3 => ⟨h3.2.1, wx_first hi hsel f (listed.setIfInBounds j true) σ' w' hB' hfree' (ready_mono hr (Ne.symm hji)) h3.1 (h3.2.1 hex) ?_⟩) h2
   rw [Array.setIfInBounds_comm _ _ hji]
   exact h3.2.2
def behB (ops : List Oper) (ex : Nat → Bool) (i : Nat) (D : List Nat) (listed : Array Bool) : Bool :=
 ((List.range ops.length).all fun j => (!ex j || D.contains j) && (!D.contains j || match ops[j]? with | some o => o.after.any (fun e => Region.binds .any e && (e.on == i || D.contains e.on)) | none => true)) && D.all fun j => listed.getD j true == false
theorem Beh.of {ops : List Oper} {i : Nat} {D : List Nat} {listed : Array Bool} (h : behB ops ex i D listed = true) : Beh ops ex i D listed := by
 unfold behB at h
 rw [Bool.and_eq_true, List.all_eq_true, List.all_eq_true] at h
 have key : ∀ j oj, ops[j]? = some oj → ((!ex j || D.contains j) && (!D.contains j || oj.after.any (fun e => Region.binds .any e && (e.on == i || D.contains e.on)))) = true := fun j oj hj => by
  have := h.1 j (List.mem_range.2 (List.getElem?_eq_some_iff.1 hj).1)
  rw [hj] at this; exact this
 refine ⟨fun j oj hj hx => ?_, fun j oj hj hm => ?_, fun j hj => by simpa using h.2 j hj⟩
 ·have := key j oj hj
  rw [hx] at this; simp at this; exact this.1
 ·have := key j oj hj
  have hc : D.contains j = true := by simpa using hm
  rw [hc] at this
  simp only [Bool.and_eq_true, Bool.not_true, Bool.false_or] at this
  obtain ⟨k, hk, h2⟩ := Array.any_eq_true.1 this.2
  rw [Bool.and_eq_true, Bool.or_eq_true] at h2
  exact ⟨_, Array.getElem_mem hk, h2.1, h2.2.imp (fun h => by simpa using h) (fun h => by simpa using h)⟩
theorem wx_take {ops : List Oper} {f : Nat} {listed : Array Bool} (i : Nat) (DL : List Nat) (oi : Oper) (v : Value) (hi : ops[i]? = some oi)
  (side : (Region.noSelect ops.toArray && Region.free .any ops.toArray listed i && (Region.ready .any ops.toArray listed).contains i && behB ops ex i DL listed) = true)
  (hS : S w) (hy : Yd P ops S oi v σ) (h : wx P ops ex S K f (listed.setIfInBounds i true) (put σ oi.dst v) w) : wx P ops ex S K (f + 1) listed σ w := by
 simp only [Bool.and_eq_true] at side
 exact wx_first hi side.1.1.1 f listed σ w (Beh.of side.2) (Region.free_spec (by simpa using hi) side.1.1.2) (by simpa using side.1.2) hy hS h
theorem wx_firstP {ops : List Oper} {i : Nat} {oi : Oper} {v : Value} (hi : ops[i]? = some oi) (hsel : Region.noSelect ops.toArray = true) (hxi : ex i = true) : ∀ (f : Nat) (listed : Array Bool) (σ : Env) (w : World),
  (∀ j oj, ops.toArray[j]? = some oj → j ≠ i → listed.getD j true = false → (∀ e ∈ oj.after, Region.binds .any e = true → e.on ≠ i) → oi.apart ops.toArray oj = true) →
  i ∈ Region.ready .any ops.toArray listed → Yd P ops (fun _ => True) oi v σ →
  wx P ops ex S K f (listed.setIfInBounds i true) (put σ oi.dst v) w → wx P ops ex S K (f + 1) listed σ w
 | 0, listed, σ, w, _, hr, hy, H => by
  refine ⟨fun h => (by rw [h] at hr; cases hr), fun j hj o ho => ?_⟩
  by_cases hji : j = i
  ·subst hji; rw [hi] at ho; cases ho; exact hy.step trivial ⟨fun h => (by rw [hxi] at h; cases h), H⟩
  ·have := ready_mono hj hji
   rw [H.1] at this; cases this
 | f + 1, listed, σ, w, hfree, hr, hy, H => by
  refine ⟨fun h => (by rw [h] at hr; cases hr), fun j hj oj hoj => ?_⟩
  by_cases hji : j = i
  ·subst hji; rw [hi] at hoj; cases hoj; exact hy.step trivial ⟨fun h => (by rw [hxi] at h; cases h), H⟩
  ·have hoj' : ops.toArray[j]? = some oj := by simpa using hoj
   have h1 := H.2 j (ready_mono hj hji) oj hoj
   obtain ⟨hjun, oj', hoj2, hall⟩ := mem_ready.1 hj
   rw [hoj'] at hoj2; cases hoj2
   have lst : ∀ k, listed.getD k true = false → ∀ e ∈ oj.after, Region.binds .any e = true → e.on ≠ k := fun k h0 e he hb heq => by
    have h1 := hall e he hb
    rw [heq] at h1
    rcases Nat.lt_or_ge k listed.size with h' | h'
    ·simp [h'] at h0 h1; rw [h0] at h1; cases h1
    ·simp [Array.getElem?_eq_none h'] at h1
   have hnot : ∀ e ∈ oj.after, Region.binds .any e = true → e.on ≠ i := lst i (mem_ready.1 hr).1
   have h2 := step1_swap (hfree j oj hoj' hji hjun hnot) (fun cs b => Region.noSelect_spec hsel i oi cs b (by simpa using hi)) (fun cs b => Region.noSelect_spec hsel j oj cs b hoj') hy h1
   have hfree' : ∀ k ok, ops.toArray[k]? = some ok → k ≠ i → (listed.setIfInBounds j true).getD k true = false →
     (∀ e ∈ ok.after, Region.binds .any e = true → e.on ≠ i) → oi.apart ops.toArray ok = true := fun k ok hk hki hun hno => by
    refine hfree k ok hk hki ?_ hno
    by_cases hjk : j = k
    ·subst hjk; exact hjun
    ·rw [getD_set_ne true hjk] at hun; exact hun
   refine step1_mono (fun σ' w' h3 => ⟨h3.2.1, wx_firstP hi hsel hxi f (listed.setIfInBounds j true) σ' w' hfree' (ready_mono hr (Ne.symm hji)) h3.1 ?_⟩) h2
   rw [Array.setIfInBounds_comm _ _ hji]
   exact h3.2.2
theorem XK {ops : List Oper} {f : Nat} {listed : Array Bool} (i : Nat) (oi : Oper) (v : Value) (hi : ops[i]? = some oi) (hxi : ex i = true)
  (side : (Region.noSelect ops.toArray && Region.free .any ops.toArray listed i && (Region.ready .any ops.toArray listed).contains i) = true)
  (hy : Yd P ops (fun _ => True) oi v σ) (h : wx P ops ex S K f (listed.setIfInBounds i true) (put σ oi.dst v) w) : wx P ops ex S K (f + 1) listed σ w := by
 simp only [Bool.and_eq_true] at side
 exact wx_firstP hi side.1.1 hxi f listed σ w (Region.free_spec (by simpa using hi) side.1.2) (by simpa using side.2) hy h
theorem wx_only {ops : List Oper} {f : Nat} {listed : Array Bool} (i : Nat) (oi : Oper) (hi : ops[i]? = some oi) (side : (Region.ready .any ops.toArray listed == [i]) = true)
  (h : XR P ops oi σ w (fun σ' w' => (ex i = false → S w') ∧ wx P ops ex S K f (listed.setIfInBounds i true) σ' w')) : wx P ops ex S K (f + 1) listed σ w := by
 have e : Region.ready .any ops.toArray listed = [i] := by simpa using side
 refine ⟨fun h0 => (by rw [e] at h0; cases h0), fun j hj o ho => ?_⟩
 rw [e] at hj
 obtain rfl : j = i := by simpa using hj
 rw [hi] at ho; cases ho
 exact h
theorem ZZ {ops : List Oper} {listed : Array Bool} (side : (Region.ready .any ops.toArray listed == []) = true) (h : K σ w) : ∀ f, wx P ops ex S K f listed σ w
 | 0 => ⟨by simpa using side, h⟩
 | _ + 1 => ⟨fun _ => h, by rw [show Region.ready .any ops.toArray listed = [] by simpa using side]; simp⟩
theorem wx_two {ops : List Oper} {f : Nat} {listed : Array Bool} (i j : Nat) (oi oj : Oper) (hi : ops[i]? = some oi) (hj : ops[j]? = some oj) (side : (Region.ready .any ops.toArray listed == [i, j]) = true)
  (h1 : XR P ops oi σ w (fun σ' w' => (ex i = false → S w') ∧ wx P ops ex S K f (listed.setIfInBounds i true) σ' w')) (h2 : XR P ops oj σ w (fun σ' w' => (ex j = false → S w') ∧ wx P ops ex S K f (listed.setIfInBounds j true) σ' w')) : wx P ops ex S K (f + 1) listed σ w := by
 have e : Region.ready .any ops.toArray listed = [i, j] := by simpa using side
 refine ⟨fun h0 => (by rw [e] at h0; cases h0), fun k hk o ho => ?_⟩
 rw [e] at hk
 have hk2 : k = i ∨ k = j := by simpa using hk
 rcases hk2 with rfl | rfl
 ·rw [hi] at ho; cases ho; exact h1
 ·rw [hj] at ho; cases ho; exact h2
theorem Z5 (ex : Nat → Bool) {id : Nat} {l : List Oper} (hm : P.follows .mixedOrders = true)
  (h : ∀ w1, Ext Non w w1 → wx P l ex (fun A => Ext Non w1 A) (fun σ' w' => Q .normal σ' D w') l.length (Array.replicate l.length false) σ w1) : W ro P n (.region id l.toArray true) Q σ D w :=
 W_drawX0 _ hm (h _ (Ext.refl _ _).drew)
theorem wx_split {ops : List Oper} {f : Nat} {listed : Array Bool} {d : Nat} {b : Bool} (hd : σ d = .bool b) (h1 : b = true → wx P ops ex S K f listed σ w) (h2 : b = false → wx P ops ex S K f listed σ w) : wx P ops ex S K f listed σ w := by
 cases b
 ·exact h2 rfl
 ·exact h1 rfl
theorem Zt {P : Program} {S : World → Prop} {K : Ops} {σ : Env} {w : World} {ex : Nat → Bool} {ops : List Oper} {f : Nat} {listed : Array Bool} (i : Nat) (DL : List Nat) {oi : Oper} {v : Value} (hi : ops[i]? = some oi) (hS : S w) (hy : Yd P ops S oi v σ) (h : wx P ops ex S K f (listed.setIfInBounds i true) (put σ oi.dst v) w)
  (side : (Region.noSelect ops.toArray && Region.free .any ops.toArray listed i && (Region.ready .any ops.toArray listed).contains i && behB ops ex i DL listed) = true := by kernel_rfl) : wx P ops ex S K (f + 1) listed σ w := wx_take i DL oi v hi side hS hy h
theorem Zo {P : Program} {S : World → Prop} {K : Ops} {σ : Env} {w : World} {ex : Nat → Bool} {ops : List Oper} {f : Nat} {listed : Array Bool} (i : Nat) {oi : Oper} (hi : ops[i]? = some oi) (h : XR P ops oi σ w (fun σ' w' => (ex i = false → S w') ∧ wx P ops ex S K f (listed.setIfInBounds i true) σ' w')) (side : (Region.ready .any ops.toArray listed == [i]) = true := by kernel_rfl) : wx P ops ex S K (f + 1) listed σ w := wx_only i oi hi side h
end
section
structure Lo {κ : Type} (lt : κ → κ → Bool) : Prop where
 irr : ∀ a, lt a a = false
 tr : ∀ a b c, lt a b = true → lt b c = true → lt a c = true
 tri : ∀ a b, lt a b = false → lt b a = false → a = b
def ltI (a b : Int) : Bool := decide (a < b)
def ltS (a b : Str) : Bool := Op.bytesLess a b
theorem lo_int : Lo ltI := ⟨fun a => by simp [ltI], fun a b c h k => by simp only [ltI, decide_eq_true_eq] at *; omega, fun a b h k => by simp only [ltI, decide_eq_false_iff_not] at *; omega⟩
theorem JQ (a b : UInt8) (l m : Str) : Op.bytesLess (a :: l) (b :: m) = (decide (a < b) || (decide (a = b) && Op.bytesLess l m)) := by
 simp only [Op.bytesLess]
 by_cases h : a = b
 ·simp [h]
 ·simp [h]
theorem lo_str : Lo ltS := by
 refine ⟨?_, ?_, ?_⟩
 ·intro a
  induction a with
  | nil => rfl
  | cons x a ih => unfold ltS at *; rw [JQ]; simp [ih]
 ·intro a
  induction a with
  | nil => intro b c h k; cases b <;> cases c <;> simp_all [ltS, Op.bytesLess]
  | cons x a ih =>
   intro b c h k
   cases b with
   | nil => simp [ltS, Op.bytesLess] at h
   | cons y b =>
    cases c with
    | nil => simp [ltS, Op.bytesLess] at k
    | cons z c =>
     unfold ltS at *
     rw [JQ] at *
     simp only [Bool.or_eq_true, Bool.and_eq_true, decide_eq_true_eq] at *
     rcases h with h | ⟨rfl, h⟩
     ·rcases k with k | ⟨rfl, k⟩
      ·left; rw [UInt8.lt_iff_toNat_lt] at *; omega
      ·left; exact h
     ·rcases k with k | ⟨rfl, k⟩
      ·left; exact k
      ·right; exact ⟨rfl, ih _ _ h k⟩
 ·intro a
  induction a with
  | nil => intro b h k; cases b <;> simp_all [ltS, Op.bytesLess]
  | cons x a ih =>
   intro b h k
   cases b with
   | nil => simp [ltS, Op.bytesLess] at k
   | cons y b =>
    unfold ltS at *
    rw [JQ] at *
    simp only [Bool.or_eq_false_iff, Bool.and_eq_false_iff, decide_eq_false_iff_not] at *
    have e : x = y := by
     have h1 := h.1; have k1 := k.1
     rw [UInt8.lt_iff_toNat_lt] at h1 k1
     exact UInt8.toNat_inj.1 (by omega)
    subst e
    rw [ih b (by rcases h.2 with h | h; exact absurd rfl h; exact h) (by rcases k.2 with h | h; exact absurd rfl h; exact h)]
section
variable {κ : Type} {lt : κ → κ → Bool}
def Xi (lt : κ → κ → Bool) (l : List κ) : Prop := l.Pairwise fun a b => lt a b = true
theorem Xi.get {l : List κ} (h : Xi lt l) {p q : Nat} {a b : κ} (hp : l[p]? = some a) (hq : l[q]? = some b) (hpq : p < q) : lt a b = true := by
 obtain ⟨h1, rfl⟩ := List.getElem?_eq_some_iff.1 hp
 obtain ⟨h2, rfl⟩ := List.getElem?_eq_some_iff.1 hq
 exact List.pairwise_iff_getElem.1 h p q h1 h2 hpq
def lb (lt : κ → κ → Bool) (l : List κ) (x : κ) : Nat := (l.takeWhile fun y => lt y x).length
theorem lb_le (l : List κ) (x : κ) : lb lt l x ≤ l.length := by unfold lb; induction l with
 | nil => simp
 | cons y l ih => rw [List.takeWhile_cons]; split <;> simp; exact ih
theorem lb_of {l : List κ} {x : κ} {i : Nat} (hi : i ≤ l.length) (h1 : ∀ p y, p < i → l[p]? = some y → lt y x = true) (h2 : ∀ y, l[i]? = some y → lt y x = false) : lb lt l x = i := by
 induction l generalizing i with
 | nil => simp at hi; subst hi; rfl
 | cons y l ih =>
  cases i with
  | zero =>
   have := h2 y rfl
   simp [lb, List.takeWhile_cons, this]
  | succ i =>
   have h3 := h1 0 y (by omega) rfl
   have h4 := ih (i := i) (by simpa using hi) (fun p z hp hz => h1 (p + 1) z (by omega) hz) (fun z hz => h2 z hz)
   simp only [lb] at h4
   simp [lb, List.takeWhile_cons, h3, h4]
theorem lb_lt {l : List κ} {x : κ} {p : Nat} {y : κ} (hp : p < lb lt l x) (hy : l[p]? = some y) : lt y x = true := by
 induction l generalizing p with
 | nil => simp at hy
 | cons z l ih =>
  simp only [lb, List.takeWhile_cons] at hp
  by_cases hz : lt z x = true
  ·rw [if_pos hz] at hp
   cases p with
   | zero => simp at hy; subst hy; exact hz
   | succ p => exact ih (by simp only [lb]; simpa using hp) (by simpa using hy)
  ·rw [if_neg hz] at hp; simp at hp
theorem lb_at {l : List κ} {x y : κ} (hy : l[lb lt l x]? = some y) : lt y x = false := by
 induction l with
 | nil => simp at hy
 | cons z l ih =>
  simp only [lb, List.takeWhile_cons] at hy
  by_cases hz : lt z x = true
  ·rw [if_pos hz] at hy
   exact ih (by simp only [lb]; simpa using hy)
  ·rw [if_neg hz] at hy
   simp at hy; subst hy; simpa using hz
theorem lb_ge (hl : Lo lt) {l : List κ} (hs : Xi lt l) {x : κ} {p : Nat} {y : κ} (hp : lb lt l x ≤ p) (hy : l[p]? = some y) : lt y x = false := by
 have hlt : lb lt l x < l.length := by have := (List.getElem?_eq_some_iff.1 hy).1; omega
 obtain ⟨z, hz⟩ : ∃ z, l[lb lt l x]? = some z := ⟨_, List.getElem?_eq_getElem hlt⟩
 have h1 := lb_at hz
 by_cases hpe : p = lb lt l x
 ·subst hpe; rw [hy] at hz; cases hz; exact h1
 ·have h2 := hs.get hz hy (by omega)
  cases h3 : lt y x with
  | false => rfl
  | true => have := hl.tr _ _ _ h2 h3; rw [this] at h1; cases h1
def XP [DecidableEq κ] (lt : κ → κ → Bool) (l : List κ) (x : κ) : Bool := decide (l[lb lt l x]? = some x)
theorem isAt_iff [DecidableEq κ] (hl : Lo lt) {l : List κ} (hs : Xi lt l) (x : κ) : XP lt l x = true ↔ x ∈ l := by
 simp only [XP, decide_eq_true_eq]
 constructor
 ·exact fun h => List.mem_of_getElem? h
 ·intro h
  obtain ⟨p, hp⟩ := List.mem_iff_getElem?.1 h
  have h1 : ¬ p < lb lt l x := fun h => by have := lb_lt h hp; rw [hl.irr] at this; cases this
  have hlt : lb lt l x < l.length := by have := (List.getElem?_eq_some_iff.1 hp).1; omega
  obtain ⟨z, hz⟩ : ∃ z, l[lb lt l x]? = some z := ⟨_, List.getElem?_eq_getElem hlt⟩
  by_cases hpe : p = lb lt l x
  ·rw [hpe] at hp; exact hp
  ·have h2 := hs.get hz hp (by omega)
   have h3 := lb_at hz
   rw [h2] at h3; cases h3
def XS [DecidableEq κ] (lt : κ → κ → Bool) (l : List κ) (x : κ) : List κ := if XP lt l x = true then l else l.take (lb lt l x) ++ x :: l.drop (lb lt l x)
theorem putK_mem [DecidableEq κ] (hl : Lo lt) {l : List κ} (hs : Xi lt l) (x y : κ) : y ∈ XS lt l x ↔ y = x ∨ y ∈ l := by
 unfold XS
 split
 ·rename_i h
  have := (isAt_iff hl hs x).1 h
  constructor
  ·exact fun h => .inr h
  ·rintro (rfl | h); exact this; exact h
 ·conv => rhs; rw [← List.take_append_drop (lb lt l x) l]
  simp only [List.mem_append, List.mem_cons]
  constructor
  ·rintro (h | h | h); exact .inr (.inl h); exact .inl h; exact .inr (.inr h)
  ·rintro (h | h | h); exact .inr (.inl h); exact .inl h; exact .inr (.inr h)
theorem JS [DecidableEq κ] (hl : Lo lt) {l : List κ} (hs : Xi lt l) (x : κ) : Xi lt (XS lt l x) := by
 unfold XS
 split
 ·exact hs
 ·rename_i hn
  have hsplit : Xi lt (l.take (lb lt l x) ++ l.drop (lb lt l x)) := by rw [List.take_append_drop]; exact hs
  unfold Xi at *
  rw [List.pairwise_append] at hsplit ⊢
  obtain ⟨h1, h2, h3⟩ := hsplit
  refine ⟨h1, ?_, ?_⟩
  ·rw [List.pairwise_cons]
   refine ⟨fun y hy => ?_, h2⟩
   obtain ⟨p, hp⟩ := List.mem_iff_getElem?.1 hy
   rw [List.getElem?_drop] at hp
   have h4 := lb_ge hl (by unfold Xi; exact hs) (Nat.le_add_right _ p) hp
   cases h5 : lt x y with
   | true => rfl
   | false =>
    have := hl.tri _ _ h4 h5
    subst this
    exact absurd ((isAt_iff hl hs y).2 (List.mem_of_getElem? hp)) hn
  ·intro a ha b hb
   rcases List.mem_cons.1 hb with rfl | hb
   ·obtain ⟨p, hp⟩ := List.mem_iff_getElem?.1 ha
    have hp1 := (List.getElem?_eq_some_iff.1 hp).1
    rw [List.length_take] at hp1
    rw [List.getElem?_take_of_lt (by omega)] at hp
    exact lb_lt (by omega) hp
   ·exact h3 a ha b hb
theorem putK_len [DecidableEq κ] (l : List κ) (x : κ) : (XS lt l x).length ≤ l.length + 1 := by
 unfold XS; split
 ·omega
 ·have := lb_le (lt := lt) l x; simp; omega
def putV [DecidableEq κ] (lt : κ → κ → Bool) (l : List κ) (x : κ) (vs : List (List Value)) (r : List Value) : List (List Value) := if XP lt l x = true then vs.set (lb lt l x) r else vs.take (lb lt l x) ++ r :: vs.drop (lb lt l x)
theorem putV_len [DecidableEq κ] {l : List κ} {x : κ} {vs : List (List Value)} {r : List Value} (h : vs.length = l.length) : (putV lt l x vs r).length = (XS lt l x).length := by
 have := lb_le (lt := lt) l x
 unfold putV XS; split <;> simp [h]
end
theorem X3 {κ : Type} [DecidableEq κ] {lt : κ → κ → Bool} {l : List κ} {x : κ} (h : XP lt l x = true) : lb lt l x < l.length := by
 simp only [XP, decide_eq_true_eq] at h
 exact (List.getElem?_eq_some_iff.1 h).1
theorem putK_map {κ : Type} [DecidableEq κ] {lt : κ → κ → Bool} (e : κ → List Value) (l : List κ) (x : κ) : (if XP lt l x = true then (l.map e).set (lb lt l x) (e x) else (l.map e).take (lb lt l x) ++ e x :: (l.map e).drop (lb lt l x)) = (XS lt l x).map e := by
 unfold XS
 by_cases h : XP lt l x = true
 ·rw [if_pos h, if_pos h]
  have h1 := X3 h
  simp only [XP, decide_eq_true_eq] at h
  apply List.ext_getElem?
  intro j
  by_cases hj : lb lt l x = j
  ·subst hj; rw [List.getElem?_set_self (by simpa using h1)]; simp [h]
  ·rw [List.getElem?_set_ne hj]
 ·rw [if_neg h, if_neg h]; simp
theorem Ow.shape {w : World} {v : Value} {b k : Nat} {rows : List (List Value)} {spare : List Value} (h : Ow w v b k rows spare) : ∃ a l c, v = .slice a l c := by obtain ⟨c, e, _⟩ := h.val; exact ⟨_, _, _, e⟩
theorem Qc {v u : Value} (h : v.oneCell' = true) (k : u.oneCell' = true) : ∀ x ∈ [v, u], x.oneCell' = true := by intro x hx; simp only [List.mem_cons, List.not_mem_nil, or_false] at hx; rcases hx with rfl | rfl <;> assumption
theorem Sl.shape {M : Nat → Prop} {w : World} {v : Value} {k : Nat} {rows : List (List Value)} (h : Sl M w v k rows) : ∃ a l c, v = .slice a l c := by obtain ⟨a, c, e, _⟩ := h.len; exact ⟨_, _, _, e⟩
theorem fdiv2 (a b : Nat) : Int.fdiv ((a : Int) + (b : Int)) 2 = (((a + b) / 2 : Nat) : Int) := by rw [← Int.natCast_add]; exact (Int.ofNat_fdiv (a + b) 2).symm
theorem Rn.cast {P : Program} {σ : Env} {w : World} {o : Oper} {v v' : Value} (h : Rn P σ w o v) (e : v = v') : Rn P σ w o v' := e ▸ h
structure Qs {κ : Type} (M : Nat → Prop) (w : World) (ek : κ → List Value) (k : Nat) (v1 v2 : Value) (ks : List κ) (vs : List (List Value)) : Prop where
 keys : Sl M w v1 1 (ks.map ek)
 vals : Sl M w v2 k vs
 len : vs.length = ks.length
theorem Qs.ext {κ : Type} {M M' : Nat → Prop} {w w' : World} {ek : κ → List Value} {k : Nat} {v1 v2 : Value} {ks : List κ} {vs : List (List Value)} (h : Qs M w ek k v1 v2 ks vs) (hE : Ext M' w w') (hm : ∀ i, M' i → M i) : Qs M w' ek k v1 v2 ks vs :=
 ⟨h.keys.ext hE hm, h.vals.ext hE hm, h.len⟩
theorem Qs.sub {κ : Type} {M M' : Nat → Prop} {w : World} {ek : κ → List Value} {k : Nat} {v1 v2 : Value} {ks : List κ} {vs : List (List Value)} (h : Qs M w ek k v1 v2 ks vs) (hm : ∀ i, M' i → i < w.heap.size → M i) : Qs M' w ek k v1 v2 ks vs :=
 ⟨h.keys.sub hm, h.vals.sub hm, h.len⟩
theorem Z6.mapB {κ : Type} {n0 : Nat} (F : Nat → Prop) (ek : κ → List Value) (k : Nat) (v1 v2 : Value) (ks : List κ) (vs : List (List Value)) : Z6 n0 (fun N A => Qs (fun i => N i ∨ F i) A ek k v1 v2 ks vs) := fun N A B hN hA h hE =>
 ⟨Z6.slB F v1 1 (ks.map ek) N A B hN hA h.keys hE, Z6.slB F v2 k vs N A B hN hA h.vals hE, h.len⟩
abbrev Old (w : World) : Nat → Prop := fun i => i < w.heap.size
end
section
variable {P : Program} {σ : Env} {w : World} {dst : Option Nat} {ty : TypeId} {pos : String} {af : Array Edge} {g : Option (Nat × Bool)}
theorem rn_max2 {t u : TypeId} {x y : Operand} {k : IntKind} {a b : Int} (hx : ev σ x = .int k a) (hy : ev σ y = .int k b) : Rn P σ w ⟨dst, .call ⟨.builtin .max, #[x, y], #[t, u]⟩, ty, pos, af, g⟩ (.int k (if b > a then b else a)) := by
 show (execOp (ev σ) _).run P w = _
 simp [execOp, resolve, invoke, builtin, hx, hy, Builtin.max_, Builtin.max2]
theorem rn_rem {t u : TypeId} {x y : Operand} {a b : Nat} (hx : ev σ x = .int .i64 (a : Int)) (hy : ev σ y = .int .i64 (b : Int)) (hb : 0 < b) (hr : a ≤ 9223372036854775807) : Rn P σ w ⟨dst, .binOp .rem t x y u, ty, pos, af, g⟩ (.int .i64 ((a % b : Nat) : Int)) := by
 show (execOp (ev σ) _).run P w = _
 have h1 : ¬ ((b : Int) = 0) := by omega
 have h2 : Int.tmod (a : Int) (b : Int) = ((a % b : Nat) : Int) := by rw [Int.ofNat_tmod]
 have h5 : Op.intDiv .rem .i64 (a : Int) (b : Int) = pure (.int .i64 ((a % b : Nat) : Int)) := by unfold Op.intDiv; rw [if_neg h1]; simp only [h2]
 simp [execOp, hx, hy, eqGuard, binOp, h5]
end
section
variable {ro : Option Nat} {P : Program} {n : Nat} {Q : QH} {σ : Env} {D : List Deferred} {w : World} {dst : Option Nat} {ty : TypeId} {pos : String} {af : Array Edge} {g : Option (Nat × Bool)}
variable {ops rest : List Oper} {K : Ops} {S : World → Prop} {ex : Nat → Bool}
theorem W_cut {T : Type} {x y : Code} (ls : List Nat) (f : T → List Value) (I : T → World → Prop) (h1 : W ro P n x (Then (fun σ' D' w' => D' = D ∧ ∃ s, Holds ls (f s) σ' ∧ I s w') Q) σ D w)
  (h2 : ∀ τ s A, I s A → W ro P n y Q (updN τ ls (f s)) D A) : W ro P n (.seq x y) Q σ D w := by
 refine ZC (h1.mono fun e σ' D' A h => ?_)
 cases e with
 | normal =>
  obtain ⟨rfl, s, h3, h4⟩ := h
  have := h2 σ' s A h4
  rw [updN_self ls (f s) σ' h3] at this
  exact this
 | _ => exact h
theorem rn_makeFuncF {f : Go.Fn} {fi : List Operand} {vs : List Value} (h : fi.map (ev σ) = vs) : Rn P σ w ⟨dst, .makeFunc f fi.toArray #[], ty, pos, af, g⟩ (.func f vs.toArray #[]) := by
 subst h
 show (execOp (ev σ) _).run P w = _
 simp [execOp, Instr.makeFunc, Sem.run_bind, Result.andThen, Sem.run]
theorem XW {f : FuncId} {x : Operand} {fi cap : Array Value} {ags : List Operand} {ts : Array TypeId} {args : List Value} {R : Value → World → Prop} {M : Nat → Prop} (hx : ev σ x = .func (.func f) fi cap) (hf : Xa P f = true) (ha : ags.map (ev σ) = args)
  (h : FnM P M f (fi ++ args.toArray ++ cap) w R) (k : ∀ v w', Ext M w w' → R v w' → wl P ops rest K (put σ dst v) w') : wl P ops (⟨dst, .call ⟨.value x, ags.toArray, ts⟩, ty, pos, af, none⟩ :: rest) K σ w := by
 show XR P ops _ σ w _
 rw [Qn]; unfold op1
 have e : (execOp (ev σ) ⟨dst, .call ⟨.value x, ags.toArray, ts⟩, ty, pos, af, none⟩).run P w = .ok (.enter f (fi ++ args.toArray ++ cap)) w := by
  simp [execOp, resolve, hx, ha, Deferred.ofValue, invoke, QY hf]
 rw [e]
 exact Calls.mono h fun e w' hx => by obtain ⟨v, h1, h2, h3⟩ := hx; exact ⟨v, h1, k v w' h2 h3⟩
section
variable {x y : Operand} {t u : TypeId} {a b : Int}
theorem rn_tmod (hx : ev σ x = .int .i64 a) (hy : ev σ y = .int .i64 b) (hb : b ≠ 0) : Rn P σ w ⟨dst, .binOp .rem t x y u, ty, pos, af, g⟩ (.int .i64 (a.tmod b)) := by
 show (execOp (ev σ) _).run P w = _
 have h5 : Op.intDiv .rem .i64 a b = pure (.int .i64 (a.tmod b)) := by unfold Op.intDiv; rw [if_neg hb]
 simp [execOp, hx, hy, eqGuard, binOp, h5, Sem.run_bind, Result.andThen, Sem.run]
end
theorem W_drawXF (F : Nat → Prop) (ex : Nat → Bool) {id : Nat} {l : List Oper} (hm : P.follows .mixedOrders = true)
  (h : ∀ w1, Ext Non w w1 → wx P l ex (fun A => Ext F w1 A) (fun σ' w' => Q .normal σ' D w') l.length (Array.replicate l.length false) σ w1) : W ro P n (.region id l.toArray true) Q σ D w :=
 W_drawX0 _ hm (h _ (Ext.refl _ _).drew)
theorem FnM.mono {M : Nat → Prop} {f : FuncId} {args : Array Value} {R R' : Value → World → Prop} (h : FnM P M f args w R) (hr : ∀ v w', Ext M w w' → R v w' → R' v w') : FnM P M f args w R' :=
 Calls.mono h fun e w' hx => by obtain ⟨v, h1, h2, h3⟩ := hx; exact ⟨v, h1, h2, hr _ _ h2 h3⟩
theorem FnM.sub {M M' : Nat → Prop} {f : FuncId} {args : Array Value} {R : Value → World → Prop} (h : FnM P M f args w R) (hm : ∀ i, M i → M' i) : FnM P M' f args w R :=
 Calls.mono h fun e w' hx => by obtain ⟨v, h1, h2, h3⟩ := hx; exact ⟨v, h1, h2.mono hm, h3⟩
theorem rn_nofunc_eql {t u : TypeId} (ht : (match P.underlying t with | some (.func ..) => true | _ => false) = true) {x y : Operand} (hx : ev σ x = .nilFunc) (hy : ev σ y = .nilFunc) :
  Rn P σ w ⟨dst, .binOp .eql t x y u, ty, pos, af, g⟩ (.bool true) := by
 show (execOp (ev σ) _).run P w = _
 have h1' : ∀ d, (Op.equalIn (d + 1) t .nilFunc .nilFunc).run P w = .ok true w := by
  intro d
  cases hu : P.underlying t with
  | none => simp [hu] at ht
  | some d => cases d <;> simp [hu] at ht; simp only [Op.equalIn, Sem.run_bind, run_underlying hu, Result.andThen_ok, Sem.run_pure]
 have h1 := h1' 9999
 have h2 : (binOp .eql t .nilFunc .nilFunc).run P w = .ok (.bool true) w := by
  show (do pure (Value.bool (← Op.equal t .nilFunc .nilFunc))).run P w = _
  rw [Sem.run_bind]
  rw [show Op.equal t .nilFunc .nilFunc = Op.equalIn (9999 + 1) t .nilFunc .nilFunc from rfl, h1]
  rfl
 have h3 : (eqGuard .eql t x y .nilFunc .nilFunc).run P w = .ok () w := rfl
 simp only [execOp, hx, hy]
 rw [Sem.run_bind, Sem.run_bind, h3, Result.andThen_ok, h2]
 rfl
theorem Ext.own2 {F F' : Nat → Prop} {A B : World} (h : Ext F w A) (k : Ext F' A B) (hF : ∀ i, F' i → Xo F w i) : Ext F w B :=
 ⟨k.os.trans h.os, k.tape.trans h.tape, k.output.trans h.output, Zle h.size k.size, fun i hi hn => (k.block i (Zlt hi h.size) fun h' => by rcases hF i h' with q | q; exact hn q; omega).trans (h.block i hi hn)⟩
end
section
abbrev Tg := Nat → Nat
structure ZV (T : Nat → Prop) (G : Tg) (w : World) (G' : Tg) (w' : World) : Prop where
 ext : Ext (fun i => ¬ T (G i)) w w'
 tag : ∀ i, i < w.heap.size → G' i = G i
section
variable {T T' : Nat → Prop} {G G' G'' : Tg} {w w' w'' : World}
theorem ZV.trans (h : ZV T G w G' w') (k : ZV T G' w' G'' w'') : ZV T G w G'' w'' :=
 ⟨⟨k.ext.os.trans h.ext.os, k.ext.tape.trans h.ext.tape, k.ext.output.trans h.ext.output, Zle h.ext.size k.ext.size, fun i hi hm => (k.ext.block i (Zlt hi h.ext.size) (by rw [h.tag i hi]; exact hm)).trans (h.ext.block i hi hm)⟩,
  fun i hi => (k.tag i (Zlt hi h.ext.size)).trans (h.tag i hi)⟩
theorem ZV.mono (h : ZV T G w G' w') (hT : ∀ t, T' t → T t) : ZV T' G w G' w' := ⟨h.ext.mono fun i hi ht => hi (hT _ ht), h.tag⟩
theorem ZV.of_non (h : Ext Non w w') (ht : ∀ i, i < w.heap.size → G' i = G i) : ZV T G w G' w' := ⟨h.of_non, ht⟩
theorem ZV.box (h : ZV T G w G' w') {b : Nat} {cs : List Value} (hb : Zj w b cs) (ht : T (G b)) : Zj w' b cs := hb.ext h.ext fun hn => hn ht
theorem ZV.sl (h : ZV T G w G' w') {v : Value} {k : Nat} {rows : List (List Value)} (hs : Sl (fun i => ¬ T (G i)) w v k rows) : Sl (fun i => ¬ T (G' i)) w' v k rows := by
 have h1 : Sl (fun i => ¬ T (G' i) ∨ w.heap.size ≤ i) w v k rows := hs.sub fun i hi hlt => by
  rcases hi with hi | hi
  ·rw [h.tag i hlt] at hi; exact hi
  ·omega
 obtain ⟨⟨a, c, e1, e2, e3, e4⟩, e5⟩ := h1
 refine ⟨⟨a, c, e1, e2, e3, ?_⟩, e5⟩
 rcases e4 with e4 | ⟨b, o, ha, hb, hn, hc⟩
 ·exact .inl e4
 ·have hT : T (G' b) := Classical.byContradiction fun h => hn (.inl h)
  refine .inr ⟨b, o, ha, Zlt hb h.ext.size, fun hx => hx hT, fun j hj => ?_⟩
  have h6 := hc j hj
  rw [List.getElem?_eq_getElem hj] at h6 ⊢
  exact h.ext.cell h6 fun hx => hx (by rw [← h.tag b hb]; exact hT)
end
def Bx (t : Nat) (G : Tg) (w : World) (b : Nat) (cs : List Value) : Prop := Zj w b cs ∧ G b = t
theorem Bx.same {T : Nat → Prop} {G G' : Tg} {w w' : World} {t b : Nat} {cs : List Value} (hb : Bx t G w b cs) (h : ZV T G w G' w') (ht : T t) : Bx t G' w' b cs :=
 ⟨h.box hb.1 (by rw [hb.2]; exact ht), (h.tag b hb.1.lt).trans hb.2⟩
theorem Bx.lt {G : Tg} {w : World} {t b : Nat} {cs : List Value} (hb : Bx t G w b cs) : b < w.heap.size := hb.1.lt
abbrev kpT (me : Nat) : Nat := 10 + 2 * me
abbrev wrT (me : Nat) : Nat := 11 + 2 * me
def MyT (me t : Nat) : Prop := t = 0 ∨ t = kpT me ∨ t = wrT me
def MyI (me t : Nat) : Prop := t = 0 ∨ t = kpT me
def Sh (t : Nat) : Prop := 1 ≤ t ∧ t ≤ 7
def Cor (t : Nat) : Prop := t ≤ 7
theorem MyI.my {me t : Nat} (h : MyI me t) : MyT me t := h.elim .inl fun h => .inr (.inl h)
def Wr (me : Nat) (G : Tg) : Nat → Prop := fun i => Sh (G i) ∨ G i = wrT me
structure Tgs (me : Nat) (G : Tg) (w : World) (G' : Tg) (w' : World) : Prop where
 tag : ∀ i, i < w.heap.size → G' i = G i
 new : ∀ i, w.heap.size ≤ i → i < w'.heap.size → Cor (G' i) ∨ G' i = kpT me ∨ G' i = wrT me
section
variable {me : Nat} {G G' G'' : Tg} {w w' w'' : World}
theorem Tgs.trans (h : Tgs me G w G' w') (hs : w.heap.size ≤ w'.heap.size) (k : Tgs me G' w' G'' w'') : Tgs me G w G'' w'' :=
 ⟨fun i hi => (k.tag i (Zlt hi hs)).trans (h.tag i hi),
  fun i h1 h2 => if hlt : i < w'.heap.size then by rw [k.tag i hlt]; exact h.new i h1 hlt else k.new i (by omega) h2⟩
theorem Tgs.wr (h : Tgs me G w G' w') : ∀ i, Wr me G' i → Xo (Wr me G) w i := fun i hi => if hlt : i < w.heap.size then .inl (by unfold Wr at *; rw [h.tag i hlt] at hi; exact hi) else .inr (by omega)
theorem Ext.wr {A B : World} (h : Ext (Wr me G) w A) (ht : Tgs me G w G' A) (k : Ext (Wr me G') A B) : Ext (Wr me G) w B := h.own2 k ht.wr
theorem Tgs.same (h : Tgs me G w G' w') (hE : Ext (Wr me G) w w') : ZV (MyI me) G w G' w' := ⟨hE.mono fun i hi ht => by
 rcases ht with ht | ht <;> rcases hi with ⟨hi, _⟩ | hi <;> (try simp only [kpT, wrT, Sh] at *) <;> omega, h.tag⟩
theorem Tgs.other (h : Tgs me G w G' w') (hE : Ext (Wr me G) w w') {j : Nat} (hj : j ≠ me) : ZV (MyT j) G w G' w' := ⟨hE.mono fun i hi ht => by
 rcases ht with ht | ht | ht <;> rcases hi with ⟨hi, hi2⟩ | hi <;> (try simp only [kpT, wrT, Sh] at *) <;> omega, h.tag⟩
theorem Tgs.mach (h : Tgs me G w G' w') (hE : Ext (Wr me G) w w') : ZV (fun t => t = 8 ∨ t = 9) G w G' w' := ⟨hE.mono fun i hi ht => by
 rcases ht with ht | ht <;> rcases hi with ⟨hi, hi2⟩ | hi <;> (try simp only [kpT, wrT, Sh] at *) <;> omega, h.tag⟩
def gx (G : Tg) (n : Nat) (f : Nat → Nat) : Tg := fun i => if i < n then G i else f i
theorem Xf {n i : Nat} {f : Nat → Nat} (h : i < n) : gx G n f i = G i := if_pos h
theorem Xd {n i : Nat} {f : Nat → Nat} (h : n ≤ i) : gx G n f i = f i := if_neg (by omega)
theorem Tgs.non {f : Nat → Nat} (hf : ∀ i, w.heap.size ≤ i → i < w'.heap.size → Cor (f i) ∨ f i = kpT me ∨ f i = wrT me) : Tgs me G w (gx G w.heap.size f) w' :=
 ⟨fun i hi => Xf hi, fun i h1 h2 => by rw [Xd h1]; exact hf i h1 h2⟩
theorem ZV.gx {T : Nat → Prop} (h : Ext Non w w') {f : Nat → Nat} : ZV T G w (gx G w.heap.size f) w' := .of_non h fun i hi => Xf hi
end
inductive Xv (S : Type) where
 | done : Xv S
 | mk (pre ok : S → Bool) (st : S → S) (nx : S → Xv S) : Xv S
structure Out (S : Type) where
 al : Bool
 st : S
 pl : Xv S
structure Fo (β S : Type) where
 al : Bool
 x : β
 st : S
def doP {S : Type} (g : S → Out S) : Xv S := .mk (fun s => (g s).al) (fun _ => true) (fun s => (g s).st) (fun s => (g s).pl)
def lockP {S : Type} (ok : S → Bool) (g : S → Out S) : Xv S := .mk (fun s => !(ok s) || (g s).al) ok (fun s => (g s).st) (fun s => (g s).pl)
def Xv.exec {S : Type} : Xv S → S → Option S
 | .done, s => some s
 | .mk pre ok st nx, s => if pre s && ok s then (nx s).exec (st s) else none
def Xv.moves {S : Type} : Xv S → S → Nat
 | .done, _ => 0
 | .mk _ _ st nx, s => (nx s).moves (st s) + 1
structure Sys (S : Type) where
 SM : Tg → World → S → Prop
 same : ∀ {G w G' w' s}, SM G w s → ZV Cor G w G' w' → SM G' w' s
variable {S : Type} (Y : Sys S) (P : Program) (me : Nat)
def Jt : Xv S → Tg → World → Value → Prop
 | .done, _, _, v => v = .nilFunc
 | .mk pre ok st nx, G, w, v => ∃ f cap, v = .func (.func f) #[] cap ∧ Xa P f = true ∧ ∀ G' w' s, ZV (MyT me) G w G' w' → Y.SM G' w' s → pre s = true →
   FnM P (Wr me G') f cap w' fun u w'' => ∃ G'' v' b, u = .tuple #[v', .bool b] ∧ Tgs me G' w' G'' w'' ∧ b = ok s ∧
    (ok s = true → Y.SM G'' w'' (st s) ∧ Jt (nx s) G'' w'' v') ∧ (ok s = false → v' = .nilFunc ∧ Y.SM G'' w'' s ∧ ZV (MyT me) G' w' G'' w'')
variable {Y P me}
theorem Jt.same {p : Xv S} {G G' : Tg} {w w' : World} {v : Value} (h : Jt Y P me p G w v) (hs : ZV (MyT me) G w G' w') : Jt Y P me p G' w' v := by
 cases p with
 | done => exact h
 | mk pre ok st nx => obtain ⟨f, cap, h1, h2, h3⟩ := h; exact ⟨f, cap, h1, h2, fun G2 w2 s h4 => h3 G2 w2 s (hs.trans h4)⟩
variable (Y P me)
def Xh (G : Tg) (w : World) (r : Out S) (v : Value) (w' : World) : Prop := ∃ G', Tgs me G w G' w' ∧ Y.SM G' w' r.st ∧ Jt Y P me r.pl G' w' v
def MkS (f : FuncId) (args : Array Value) (G : Tg) (w : World) (r : Out S) : Prop := FnM P (Wr me G) f args w (Xh Y P me G w r)
def X1 {α : Type} (J : α → Tg → World → Prop) (ar : α → Array Value) (ψ : α → S → Out S) (G : Tg) (w : World) (fv : Value) : Prop :=
 ∃ f fi cap, fv = .func (.func f) fi cap ∧ Xa P f = true ∧ ∀ x G' w' s, ZV (MyI me) G w G' w' → Y.SM G' w' s → (ψ x s).al = true → J x G' w' → MkS Y P me f (fi ++ ar x ++ cap) G' w' (ψ x s)
abbrev X5 {α : Type} (J : α → Tg → World → Prop) (ψ : α → S → Out S) (G : Tg) (w : World) (fv : Value) : Prop := X1 Y P me J (fun _ => #[]) ψ G w fv
def ActM {α β : Type} (J : α → Tg → World → Prop) (J' : β → Tg → World → Prop) (F : α → S → Fo β S) (G : Tg) (w : World) (fv : Value) : Prop :=
 ∃ f fi cap, fv = .func (.func f) fi cap ∧ Xa P f = true ∧ ∀ x G' w' s, ZV (MyI me) G w G' w' → Y.SM G' w' s → (F x s).al = true → J x G' w' →
  FnM P (Wr me G') f (fi ++ cap) w' fun _ w'' => ∃ G'', Tgs me G' w' G'' w'' ∧ Y.SM G'' w'' (F x s).st ∧ J' (F x s).x G'' w''
def Stb {α : Type} (J : α → Tg → World → Prop) : Prop := ∀ x G w G' w', J x G w → ZV (MyT me) G w G' w' → J x G' w'
variable {Y P me}
theorem X1.same {α : Type} {J : α → Tg → World → Prop} {ar : α → Array Value} {ψ : α → S → Out S} {G G' : Tg} {w w' : World} {fv : Value} (h : X1 Y P me J ar ψ G w fv) (hs : ZV (MyI me) G w G' w') : X1 Y P me J ar ψ G' w' fv := by
 obtain ⟨f, fi, cap, h1, h2, h3⟩ := h; exact ⟨f, fi, cap, h1, h2, fun x G2 w2 s h4 => h3 x G2 w2 s (hs.trans h4)⟩
theorem ActM.same {α β : Type} {J : α → Tg → World → Prop} {J' : β → Tg → World → Prop} {F : α → S → Fo β S} {G G' : Tg} {w w' : World} {fv : Value} (h : ActM Y P me J J' F G w fv) (hs : ZV (MyI me) G w G' w') : ActM Y P me J J' F G' w' fv := by
 obtain ⟨f, fi, cap, h1, h2, h3⟩ := h; exact ⟨f, fi, cap, h1, h2, fun x G2 w2 s h4 => h3 x G2 w2 s (hs.trans h4)⟩
theorem ZV.myI {G G' : Tg} {w w' : World} (h : ZV (MyT me) G w G' w') : ZV (MyI me) G w G' w' := h.mono fun _ => MyI.my
theorem Xh.pre {G G1 : Tg} {w w1 : World} {r : Out S} {v : Value} {w' : World} (h : Xh Y P me G1 w1 r v w') (ht : Tgs me G w G1 w1) (hs : w.heap.size ≤ w1.heap.size) : Xh Y P me G w r v w' := by
 obtain ⟨G', h1, h2, h3⟩ := h; exact ⟨G', ht.trans hs h1, h2, h3⟩
def Xp {α β : Type} (F : α → S → Fo β S) (ψ : β → S → Out S) (x : α) (s : S) : Out S := ⟨(F x s).al && (ψ (F x s).x (F x s).st).al, (ψ (F x s).x (F x s).st).st, (ψ (F x s).x (F x s).st).pl⟩
theorem rn_nofunc_neq {σ : Env} {w : World} {dst : Option Nat} {ty : TypeId} {pos : String} {af : Array Edge} {g : Option (Nat × Bool)} {t u : TypeId} (ht : (match P.underlying t with | some (.func ..) => true | _ => false) = true) {x y : Operand} (hx : ev σ x = .nilFunc) (hy : ev σ y = .nilFunc) :
  Rn P σ w ⟨dst, .binOp .neq t x y u, ty, pos, af, g⟩ (.bool false) := by
 show (execOp (ev σ) _).run P w = _
 have h1' : ∀ d, (Op.equalIn (d + 1) t .nilFunc .nilFunc).run P w = .ok true w := by
  intro d
  cases hu : P.underlying t with
  | none => simp [hu] at ht
  | some d => cases d <;> simp [hu] at ht; simp only [Op.equalIn, Sem.run_bind, run_underlying hu, Result.andThen_ok, Sem.run_pure]
 have h1 := h1' 9999
 have h2 : (binOp .neq t .nilFunc .nilFunc).run P w = .ok (.bool false) w := by
  show (do pure (Value.bool (!(← Op.equal t .nilFunc .nilFunc)))).run P w = _
  rw [Sem.run_bind]
  rw [show Op.equal t .nilFunc .nilFunc = Op.equalIn (9999 + 1) t .nilFunc .nilFunc from rfl, h1]
  rfl
 have h3 : (eqGuard .neq t x y .nilFunc .nilFunc).run P w = .ok () w := rfl
 simp only [execOp, hx, hy]
 rw [Sem.run_bind, Sem.run_bind, h3, Result.andThen_ok, h2]
 rfl
theorem rn_func_neq {σ : Env} {w : World} {dst : Option Nat} {ty : TypeId} {pos : String} {af : Array Edge} {g : Option (Nat × Bool)} {t u : TypeId} (ht : (match P.underlying t with | some (.func ..) => true | _ => false) = true) {x y : Operand} {f : Go.Fn} {fi ca : Array Value} (hx : ev σ x = .func f fi ca) (hy : ev σ y = .nilFunc) :
  Rn P σ w ⟨dst, .binOp .neq t x y u, ty, pos, af, g⟩ (.bool true) := by
 show (execOp (ev σ) _).run P w = _
 have h1' : ∀ d, (Op.equalIn (d + 1) t (.func f fi ca) .nilFunc).run P w = .ok false w := by
  intro d
  cases hu : P.underlying t with
  | none => simp [hu] at ht
  | some d => cases d <;> simp [hu] at ht; simp only [Op.equalIn, Sem.run_bind, run_underlying hu, Result.andThen_ok, Sem.run_pure]
 have h1 := h1' 9999
 have h2 : (binOp .neq t (.func f fi ca) .nilFunc).run P w = .ok (.bool true) w := by
  show (do pure (Value.bool (!(← Op.equal t (.func f fi ca) .nilFunc)))).run P w = _
  rw [Sem.run_bind]
  rw [show Op.equal t (.func f fi ca) .nilFunc = Op.equalIn (9999 + 1) t (.func f fi ca) .nilFunc from rfl, h1]
  rfl
 have h3 : (eqGuard .neq t x y (.func f fi ca) .nilFunc).run P w = .ok () w := rfl
 simp only [execOp, hx, hy]
 rw [Sem.run_bind, Sem.run_bind, h3, Result.andThen_ok, h2]
 rfl
theorem JL {σ : Env} {w : World} {dst : Option Nat} {ty : TypeId} {pos : String} {g : Option (Nat × Bool)} {t u : TypeId} {af : Array Edge} (ht : (match P.underlying t with | some (.pointer ..) => true | _ => false) = true) {x y : Operand} {a : Option Addr} (hx : ev σ x = .pointer a) (hy : ev σ y = .pointer none) :
  Rn P σ w ⟨dst, .binOp .neq t x y u, ty, pos, af, g⟩ (.bool (!a.isNone)) := by
 show (execOp (ev σ) _).run P w = _
 have h1' : ∀ d, (Op.equalIn (d + 1) t (.pointer a) (.pointer none)).run P w = .ok (a.isNone) w := by
  intro d
  cases hu : P.underlying t with
  | none => simp [hu] at ht
  | some d => cases d <;> simp [hu] at ht; cases a <;> simp only [Op.equalIn, Sem.run_bind, run_underlying hu, Result.andThen_ok, Sem.run_pure] <;> rfl
 have h1 := h1' 9999
 have h2 : (binOp .neq t (.pointer a) (.pointer none)).run P w = .ok (.bool (!a.isNone)) w := by
  show (do pure (Value.bool (!(← Op.equal t (.pointer a) (.pointer none))))).run P w = _
  rw [Sem.run_bind]
  rw [show Op.equal t (.pointer a) (.pointer none) = Op.equalIn (9999 + 1) t (.pointer a) (.pointer none) from rfl, h1]
  rfl
 have h3 : (eqGuard .neq t x y (.pointer a) (.pointer none)).run P w = .ok () w := by cases a <;> rfl
 simp only [execOp, hx, hy]
 rw [Sem.run_bind, Sem.run_bind, h3, Result.andThen_ok, h2]
 rfl
theorem rn_addw {σ : Env} {w : World} {dst : Option Nat} {ty : TypeId} {pos : String} {af : Array Edge} {g : Option (Nat × Bool)} {x y : Operand} {t u : TypeId} {a b : Int} (hx : ev σ x = .int .i64 a) (hy : ev σ y = .int .i64 b) :
  Rn P σ w ⟨dst, .binOp .add t x y u, ty, pos, af, g⟩ (.int .i64 (IntKind.i64.wrap (a + b))) := by
 show (execOp (ev σ) _).run P w = _
 simp [execOp, hx, hy, eqGuard, binOp, Op.intArith, Sem.run_bind, Result.andThen, Sem.run]
theorem rn_fieldAddr0 {σ : Env} {w : World} {dst : Option Nat} {ty : TypeId} {pos : String} {af : Array Edge} {g : Option (Nat × Bool)} {t : TypeId} {x : Operand} {f : Nat} {u : TypeId} {k : Nat} (hF : Z0 P t f 0 u k) (hk : k ≠ 0) {a : Addr} (hx : ev σ x = .pointer (some a)) :
  Rn P σ w ⟨dst, .fieldAddr t x f, ty, pos, af, g⟩ (.pointer (some a)) := by
 have := rn_fieldAddr (P := P) (w := w) (dst := dst) (ty := ty) (pos := pos) (af := af) (g := g) hF hk hx
 rw [add_zero'] at this; exact this
theorem kp_nw {me b : Nat} {G : Tg} (h : G b = kpT me) : ¬ Wr me G b := by rintro (⟨_, h2⟩ | h2) <;> (try simp only [kpT, wrT, Sh] at *) <;> omega
end
section
section
variable {κ β : Type} [DecidableEq κ] {lt : κ → κ → Bool}
def dropK (lt : κ → κ → Bool) (l : List κ) (x : κ) : List κ := if XP lt l x = true then l.take (lb lt l x) ++ l.drop (lb lt l x + 1) else l
def dropV (lt : κ → κ → Bool) (l : List κ) (x : κ) (vs : List β) : List β := if XP lt l x = true then vs.take (lb lt l x) ++ vs.drop (lb lt l x + 1) else vs
theorem dropV_len {l : List κ} {x : κ} {vs : List β} (h : vs.length = l.length) : (dropV lt l x vs).length = (dropK lt l x).length := by
 unfold dropV dropK; split
 ·simp [h]
 ·exact h
theorem dropV_map {γ : Type} (f : β → γ) (l : List κ) (x : κ) (vs : List β) : dropV lt l x (vs.map f) = (dropV lt l x vs).map f := by
 unfold dropV; split <;> simp [List.map_take, List.map_drop]
def putW (lt : κ → κ → Bool) (l : List κ) (x : κ) (vs : List β) (r : β) : List β := if XP lt l x = true then vs.set (lb lt l x) r else vs.take (lb lt l x) ++ r :: vs.drop (lb lt l x)
theorem putW_map {γ : Type} (f : β → γ) (l : List κ) (x : κ) (vs : List β) (r : β) : putW lt l x (vs.map f) (f r) = (putW lt l x vs r).map f := by
 unfold putW; split
 ·rw [List.map_set]
 ·simp [List.map_take, List.map_drop]
theorem putW_len {l : List κ} {x : κ} {vs : List β} {r : β} (h : vs.length = l.length) : (putW lt l x vs r).length = (XS lt l x).length := by
 have := lb_le (lt := lt) l x
 unfold putW XS; split
 ·simp [h]
 ·simp [h]
theorem key_at (hl : Lo lt) {l : List κ} (hs : Xi lt l) {x y : κ} {i : Nat} (hy : l[i]? = some y) : (lt y x = true ↔ i < lb lt l x) ∧ (y = x ↔ XP lt l x = true ∧ i = lb lt l x) := by
 have h1 : i < lb lt l x → lt y x = true := fun h => lb_lt h hy
 have h2 : lb lt l x ≤ i → lt y x = false := fun h => lb_ge hl hs h hy
 refine ⟨⟨fun h => ?_, h1⟩, ?_⟩
 ·rcases Nat.lt_or_ge i (lb lt l x) with h' | h'
  ·exact h'
  ·rw [h2 h'] at h; cases h
 ·constructor
  ·rintro rfl
   have hm : XP lt l y = true := (isAt_iff hl hs y).2 (List.mem_of_getElem? hy)
   refine ⟨hm, ?_⟩
   have hge : lb lt l y ≤ i := by
    rcases Nat.lt_or_ge i (lb lt l y) with h' | h'
    ·have := h1 h'; rw [hl.1] at this; cases this
    ·exact h'
   unfold XP at hm
   have hm := of_decide_eq_true hm
   rcases Nat.lt_or_ge (lb lt l y) i with h' | h'
   ·have := hs.get hm hy h'; rw [hl.1] at this; cases this
   ·omega
  ·rintro ⟨ha, rfl⟩
   unfold XP at ha
   have ha := of_decide_eq_true ha
   rw [hy] at ha; exact Option.some.inj ha
end
end
section
def Xk (c : UInt8) (s : Str) : Str := s.takeWhile (fun x => !(x == c))
theorem pre1_le (c : UInt8) (s : Str) : (Xk c s).length ≤ s.length := by
 unfold Xk; induction s with
 | nil => simp
 | cons y l ih => rw [List.takeWhile_cons]; split <;> simp; exact ih
def fi (s : Str) (c : UInt8) : Int := if c ∈ s then ((Xk c s).length : Int) else -1
theorem pre1_mem {c : UInt8} : ∀ {s : Str}, c ∈ s → s[(Xk c s).length]? = some c
 | [], h => by cases h
 | y :: s, h => by
  unfold Xk
  rw [List.takeWhile_cons]
  by_cases e : y = c
  ·subst e; simp
  ·have h2 : c ∈ s := by rcases List.mem_cons.1 h with h | h; exact absurd h.symm e; exact h
   have := pre1_mem h2
   unfold Xk at this
   simp [e, this]
theorem pre1_not {c : UInt8} : ∀ {s : Str}, ¬ c ∈ s → Xk c s = s
 | [], _ => rfl
 | y :: s, h => by
  have h1 : ¬ y = c := fun e => h (by simp [e])
  have h2 : ¬ c ∈ s := fun e => h (by simp [e])
  have := pre1_not h2
  unfold Xk at *
  rw [List.takeWhile_cons]; simp [h1, this]
theorem J9 (c : UInt8) : ∀ (s : Str), s.take (Xk c s).length = Xk c s
 | [] => rfl
 | y :: s => by
  have := J9 c s
  unfold Xk at *
  rw [List.takeWhile_cons]
  split
  ·simp [this]
  ·simp
theorem pre1_ne {c : UInt8} : ∀ {s : Str} {x : UInt8}, x ∈ Xk c s → x ≠ c
 | [], x, h => by simp [Xk] at h
 | y :: s, x, h => by
  unfold Xk at h
  rw [List.takeWhile_cons] at h
  split at h
  ·rename_i hy
   rcases List.mem_cons.1 h with e | h
   ·subst e; simpa using hy
   ·exact pre1_ne (s := s) h
  ·cases h
theorem pre1_lt {c : UInt8} {s : Str} {i : Nat} {x : UInt8} (hi : i < (Xk c s).length) (hx : s[i]? = some x) : x ≠ c := by
 have h1 : (Xk c s)[i]? = some x := by rw [← J9 c s, List.getElem?_take_of_lt hi, hx]
 have h2 : x ∈ Xk c s := List.mem_of_getElem? h1
 exact pre1_ne h2
theorem get_str! (s : Str) (i : Nat) (h : i < s.length) : (ByteArray.mk s.toArray)[i]! = s[i] := by
 have h1 : i < (ByteArray.mk s.toArray).size := by simpa [ByteArray.size] using h
 rw [getElem!_pos _ i h1]; rfl
theorem firstIdx_fi (s : Str) (c : UInt8) : firstIdx ⟨s.toArray⟩ c = fi s c := by
 unfold firstIdx fi
 have hsz : (ByteArray.mk s.toArray).size = s.length := by simp [ByteArray.size]
 rw [hsz]
 by_cases hc : c ∈ s
 ·rw [if_pos hc]
  have h1 := pre1_mem hc
  have hlt : (Xk c s).length < s.length := (List.getElem?_eq_some_iff.1 h1).1
  have : (List.range s.length).find? (fun i => (ByteArray.mk s.toArray)[i]! == c) = some (Xk c s).length := by
   rw [List.find?_range_eq_some]
   refine ⟨?_, by simpa using hlt, fun j hj => ?_⟩
   ·rw [get_str! s _ hlt]
    have := (List.getElem?_eq_some_iff.1 h1).2
    simp [this]
   ·have hj' : j < s.length := by omega
    rw [get_str! s j hj']
    have := pre1_lt hj (List.getElem?_eq_getElem hj')
    simpa using this
  rw [this]
 ·rw [if_neg hc]
  have : (List.range s.length).find? (fun i => (ByteArray.mk s.toArray)[i]! == c) = none := by
   rw [List.find?_eq_none]
   intro i hi
   have hi' : i < s.length := by simpa using hi
   rw [get_str! s i hi']
   intro e
   have : s[i] = c := by simpa using e
   exact hc (this ▸ List.getElem_mem hi')
  rw [this]
structure IB (P : Program) (f : FuncId) : Prop where
 ex : ∃ fn, P.funcs[f]? = some fn ∧ (fn.name == "runtime.NumGoroutine") = false ∧ fn.body.isNone = true ∧ Extern.findNext fn = none ∧ Extern.find fn = some Extern.BytealgIndexByte.indexByte
section
variable {P : Program} {σ : Env} {w : World} {dst : Option Nat} {ty : TypeId} {pos : String} {af : Array Edge} {g : Option (Nat × Bool)}
theorem rn_indexByte {f : FuncId} {ts : Array TypeId} {x y : Operand} {s : Str} {c : UInt8} (hib : IB P f)
  (hx : ev σ x = Sv s) (hy : ev σ y = .int .u8 c.toNat) : Rn P σ w ⟨dst, .call ⟨.value (.func f), #[x, y], ts⟩, ty, pos, af, g⟩ (.int .i64 (fi s c)) := by
 show (execOp (ev σ) _).run P w = _
 obtain ⟨fn, hf, hname, hb, hn, he⟩ := hib.ex
 have h1 := run_callFunc_extern hf hname hb hn he #[Sv s, .int .u8 c.toNat] w
 have h2 := run_indexByte_string (P := P) ⟨s.toArray⟩ (c.toNat : Int) w
 have h3 : ((c.toNat : Int)).toNat.toUInt8 = c := by simp
 rw [h3, firstIdx_fi] at h2
 have h4 : (callFunc f #[Sv s, .int .u8 c.toNat]).run P w = .ok (.value (.int .i64 (fi s c))) w := by rw [h1, h2]; rfl
 simp only [execOp, resolve, Sem.run_bind, Sem.run_pure, Result.andThen_ok]
 have hargs : (#[x, y] : Array Operand).map (ev σ) = #[Sv s, .int .u8 c.toNat] := by simp [hx, hy]
 rw [hargs]
 simp only [ev, Deferred.ofValue, Sem.run_pure, Result.andThen_ok, invoke]
 simpa using h4
end
structure CB (P : Program) (f : FuncId) : Prop where
 ex : ∃ fn, P.funcs[f]? = some fn ∧ (fn.name == "runtime.NumGoroutine") = false ∧ fn.body.isNone = true ∧ Extern.findNext fn = none ∧ Extern.find fn = some Extern.BytealgCount.count
section
variable {P : Program} {σ : Env} {w : World} {dst : Option Nat} {ty : TypeId} {pos : String} {af : Array Edge} {g : Option (Nat × Bool)}
theorem rn_countString {f : FuncId} {ts : Array TypeId} {x y : Operand} {s : Str} {c : UInt8} (hib : CB P f)
  (hx : ev σ x = Sv s) (hy : ev σ y = .int .u8 c.toNat) : Rn P σ w ⟨dst, .call ⟨.value (.func f), #[x, y], ts⟩, ty, pos, af, g⟩ (.int .i64 (s.count c : Nat)) := by
 show (execOp (ev σ) _).run P w = _
 obtain ⟨fn, hf, hname, hb, hn, he⟩ := hib.ex
 have h1 := run_callFunc_extern hf hname hb hn he #[Sv s, .int .u8 c.toNat] w
 have h2 := Lib.run_countString (P := P) ⟨s.toArray⟩ (c.toNat : Int) w
 have h3 : ((c.toNat : Int)).toNat.toUInt8 = c := by simp
 rw [h3] at h2
 unfold Lib.countByte at h2
 have h4 : (callFunc f #[Sv s, .int .u8 c.toNat]).run P w = .ok (.value (.int .i64 (s.count c : Nat))) w := by rw [h1, h2]; rfl
 simp only [execOp, resolve, Sem.run_bind, Sem.run_pure, Result.andThen_ok]
 have hargs : (#[x, y] : Array Operand).map (ev σ) = #[Sv s, .int .u8 c.toNat] := by simp [hx, hy]
 rw [hargs]
 simp only [ev, Deferred.ofValue, Sem.run_pure, Result.andThen_ok, invoke]
 simpa using h4
end
def eB8 (b : UInt8) : List Value := [.int .u8 b.toNat]
theorem eB8_at {l : Str} {i : Nat} {x : UInt8} (h : l[i]? = some x) : (l.map eB8)[i]? = some [.int .u8 x.toNat] := by simp [h, eB8]
section
variable {P : Program} {σ : Env} {w : World} {ty : TypeId} {pos : String} {af : Array Edge} {ops rest : List Oper} {K : Ops}
theorem wl_bytes {s t e : TypeId} {d : Nat} {x : Operand} {l : Str} (hs : P.underlying s = some .string) {k bytes : Nat} {z : List Value} (hT : XA P t e k bytes z) (he : P.underlying e = some (.int .u8)) (hx : ev σ x = Sv l) (hn : l.length ≤ 1000000)
  (kk : ∀ v w', Ext Non w w' → Sl Non w' v 1 (l.map eB8) → wl P ops rest K (upd σ d v) w') : wl P ops (⟨some d, .convert s t x, ty, pos, af, none⟩ :: rest) K σ w := by
 have hsz : (ByteArray.mk l.toArray).size = l.length := by simp [ByteArray.size]
 have h1 := run_bytes_of_string (P := P) w s t e ⟨l.toArray⟩ hs hT.under he
 rw [hsz] at h1
 have hcap := grownCap_ge w l.length 0 e
 have hcap2 := grownCap_le_maxLen w l.length 0 e (by simp only [maxLen]; omega)
 obtain ⟨W', hW'⟩ : ∃ W', w.drew.alloc (.cells (bytesRow ⟨l.toArray⟩ (grownCap w l.length 0 e)) e ((bytesRow ⟨l.toArray⟩ (grownCap w l.length 0 e)).size, (bytesRow ⟨l.toArray⟩ (grownCap w l.length 0 e)).size + 1)) = W' := ⟨_, rfl⟩
 refine QR (P := P) (op := .convert s t x) (w' := W') (v := .slice (some ⟨w.heap.size, 0, none⟩) l.length (grownCap w l.length 0 e)) ?_ (kk _ _ ?_ ⟨⟨some ⟨w.heap.size, 0, none⟩, grownCap w l.length 0 e, by simp, by simpa using hcap, by simp only [maxLen, big] at *; omega, ?_⟩, ?_⟩)
 ·show (execOp (ev σ) _).run P w = _
  simp [execOp, hx, h1, hW']
 ·subst hW'; exact (Ext.alloc w.drew _) |> fun h => ⟨h.os, h.tape, h.output, h.size, h.block⟩
 ·subst hW'; refine .inr ⟨w.heap.size, 0, rfl, by rw [World.size_alloc]; exact Nat.lt_succ_self _, id, fun j hj => ?_⟩
  have hfl : (l.map eB8).flatten = l.map (fun b => Value.int .u8 b.toNat) := by
   clear hsz h1 hcap hcap2 hj hn hx kk
   induction l with
   | nil => rfl
   | cons y l ih => simp [eB8, ih]
  rw [hfl] at hj ⊢
  rw [Nat.zero_add]
  have := World.cell?_alloc_mark w.drew (bytesRow ⟨l.toArray⟩ (grownCap w l.length 0 e)) e ((bytesRow ⟨l.toArray⟩ (grownCap w l.length 0 e)).size, (bytesRow ⟨l.toArray⟩ (grownCap w l.length 0 e)).size + 1) j
  refine Eq.trans this ?_
  simp only [List.length_map] at hj
  unfold bytesRow
  rw [Array.getElem?_append_left (by simpa using hj)]
  simp
 ·intro r hr
  obtain ⟨y, _, rfl⟩ := List.mem_map.1 hr
  rfl
end
end
end Go.Proofs.YtjklgohpminefaaGreatDoorC
