/- A map's iterator, and where it stands. -/
import Derived.Test.YthcclgoidchkdaaDoorBunV3
import Derived.Test.YthcclgoidchkdaaDoorBunV2
import Derived.Shelf.Strconv.Itoa3
import Derived.Lib.LaidTab
import Derived.Lib.AppendIntMem
set_option linter.unusedVariables false
set_option linter.unusedSimpArgs false
namespace Go.Proofs.YthcclgoidchkdaaDoorC
open Go.RowKit
variable {ro : Option Nat} {P : Program} {n : Nat} {Q : Post} {σ : Env} {D : List Deferred} {w : World} {dst : Option Nat} {ty : TypeId} {pos : String} {af : Array Edge} {g : Option (Nat × Bool)}
variable {ops rest : List Oper} {K : Ops}
/-- The iterator in block r stands at p. -/
def IsAt (w : World) (r b : Nat) (p : Str × Value) : Prop :=
  ∃ es c since s stamp e, w.heap[b]? = some (.map es c) ∧ w.heap[r]? = some (.mapIter (some b) since s c) ∧ s.back? = some stamp ∧ es.find? (·.born == stamp) = some e ∧ e.key = Sv p.1 ∧ e.val = p.2
theorem IsAt.ext {M : Nat → Prop} {w' : World} {r b : Nat} {p : Str × Value} (h : IsAt w r b p) (hE : Ext M w w') (hr : ¬ M r) (hb : ¬ M b) : IsAt w' r b p := by
  obtain ⟨es, c, si, s, st, e, h1, h2, h3⟩ := h
  exact ⟨es, c, si, s, st, e, hE.obj h1 hb, hE.obj h2 hr, h3⟩
theorem rn_entry {x : Operand} {r b : Nat} {p : Str × Value} (hx : ev σ x = .pointer (some ⟨r, 0, none⟩)) (h : IsAt w r b p) : Rn P σ w ⟨dst, .entry x, ty, pos, af, g⟩ (.tuple #[Sv p.1, p.2]) := by
  obtain ⟨es, c, si, s, st, e, h1, h2, h3, h4, h5, h6⟩ := h
  show (execOp (ev σ) _).run P w = _
  have key : (Instr.entry (.pointer (some ⟨r, 0, none⟩))).run P w = .ok (.tuple #[Sv p.1, p.2]) w := by
    simp only [Instr.entry, getObj, Sem.run_bind, Sem.run, h2, h1, Result.andThen, h3]
    simp [h4, h5, h6, Sem.run]
  simp [execOp, hx, key]
theorem find_born {es : List MapEntry} {e : MapEntry} (hn : (es.map (·.born)).Nodup) (he : e ∈ es) : es.find? (·.born == e.born) = some e := by
  induction es with
  | nil => cases he
  | cons y l ih =>
    simp only [List.map_cons, List.nodup_cons] at hn
    rcases List.mem_cons.1 he with rfl | he
    · simp
    · have : ¬ y.born = e.born := fun h => hn.1 (by rw [h]; exact List.mem_map_of_mem he)
      rw [List.find?_cons_of_neg (by simpa using this)]
      exact ih hn.2 he
theorem wl_nextE {x : Operand} {d r b : Nat} {kvs left : List (Str × Value)} (hx : ev σ x = .pointer (some ⟨r, 0, none⟩)) (hg : IsGo w r b kvs left)
    (k0 : left = [] → wl P ops rest K (upd σ d (.tuple #[.bool false])) w)
    (k1 : ∀ w' l1 p l2, left = l1 ++ p :: l2 → Ext (fun i => i = r) w w' → IsGo w' r b kvs (l1 ++ l2) → IsAt w' r b p → w'.heap.size = w.heap.size → wl P ops rest K (upd σ d (.tuple #[.bool true, Sv p.1, p.2])) w') :
    wl P ops (⟨some d, .next x false, ty, pos, af, none⟩ :: rest) K σ w := by
  obtain ⟨h0, es, c, s, h1, h2, h3, h4⟩ := hg
  have hlt := (Array.getElem?_eq_some_iff.1 h3).1
  rcases run_next_at (P := P) w ty r b c c s es c h3 h1 h2.old (Nat.le_refl _) with ⟨e1, e2⟩ | ⟨e, he, w1, hw1, e2⟩
  · refine wl_new (w' := w) (v := .tuple #[.bool false]) ?_ (k0 ?_)
    · show (execOp (ev σ) _).run P w = _
      simp [execOp, hx, e2]
    · have := congrArg List.length h4
      simp only [List.length_map, Array.length_toList, e1] at this
      exact List.length_eq_zero_iff.1 this.symm
  · have hleft : (leftOf es s).toList = es.toList.filter fun e => !s.contains e.born := by unfold leftOf; simp
    rw [hleft] at he h4
    have hees : e ∈ es.toList := (List.mem_filter.1 he).1
    obtain ⟨l1, l2, q1, q2⟩ := left_push h2.nodup he
    rw [q1, List.map_append, List.map_cons] at h4
    obtain ⟨m1, m2, g1, g2, g3⟩ := List.append_eq_map_iff.1 h4
    obtain ⟨p, m3, g4, g5, g6⟩ := List.map_eq_cons_iff.1 g3
    subst g4
    simp only [Prod.mk.injEq] at g5
    have hw1' : Ext Non w w1 := by rcases hw1 with rfl | rfl; exact Ext.refl _ _; exact (Ext.refl _ _).drew
    have hsz : w1.heap.size = w.heap.size := by rcases hw1 with rfl | rfl <;> rfl
    have hE : Ext (fun i => i = r) w (w1.putObj r (.mapIter (some b) c (s.push e.born) c)) := hw1'.of_non.trans (Ext.putObj _ _ _ _ rfl)
    refine wl_new (w' := w1.putObj r (.mapIter (some b) c (s.push e.born) c)) (v := .tuple #[.bool true, Sv p.1, p.2]) ?_ (k1 _ m1 p m3 g1 hE ?_ ?_ (by simp [World.putObj, hsz]))
    · show (execOp (ev σ) _).run P w = _
      rw [g5.1, g5.2]
      simp [execOp, hx, e2, ChangeMaps.setBlock, World.putObj]
    · refine ⟨h0, es, c, s.push e.born, hE.obj h1 (fun h => h0 h.symm), h2, World.putObj_heap_same (by omega), ?_⟩
      have : (leftOf es (s.push e.born)).toList = es.toList.filter fun x => !(s.push e.born).contains x.born := by unfold leftOf; simp
      rw [this, q2, List.map_append, List.map_append, ← g2, ← g6]
    · refine ⟨es, c, c, s.push e.born, e.born, e, hE.obj h1 (fun h => h0 h.symm), World.putObj_heap_same (by omega), by simp, ?_, g5.1.symm, g5.2.symm⟩
      rw [← Array.find?_toList]
      exact find_born h2.nodup hees
def nxV : Option (Str × Value) → Value | none => .tuple #[.bool false] | some p => .tuple #[.bool true, Sv p.1, p.2]
def Nx (w : World) (r b : Nat) (kvs left : List (Str × Value)) : Option (Str × Value) → Prop
  | none => left = []
  | some p => ∃ l1 l2, left = l1 ++ p :: l2 ∧ IsGo w r b kvs (l1 ++ l2) ∧ IsAt w r b p
theorem wl_nextQ {x : Operand} {d r b : Nat} {kvs left : List (Str × Value)} (hx : ev σ x = .pointer (some ⟨r, 0, none⟩)) (hg : IsGo w r b kvs left)
    (k : ∀ w' q, Ext (fun i => i = r) w w' → Nx w' r b kvs left q → wl P ops rest K (upd σ d (nxV q)) w') : wl P ops (⟨some d, .next x false, ty, pos, af, none⟩ :: rest) K σ w :=
  wl_nextE hx hg (fun h => k w none (Ext.refl _ _) h) fun w' l1 p l2 h hE h2 h3 _ => k w' (some p) hE ⟨l1, l2, h, h2, h3⟩
theorem rn_nx0 {x : Operand} {q : Option (Str × Value)} (hx : ev σ x = nxV q) : Rn P σ w ⟨dst, .extract x 0, ty, pos, af, g⟩ (.bool q.isSome) := by
  cases q with
  | none => exact rn_extract (vs := #[.bool false]) hx rfl
  | some p => exact rn_extract (vs := #[.bool true, Sv p.1, p.2]) hx rfl
end Go.Proofs.YthcclgoidchkdaaDoorC

/- An element of several cells of a call's own slice is written over. -/
set_option linter.unusedVariables false
set_option linter.unusedSimpArgs false
namespace Go.Proofs.YthcclgoidchkdaaDoorC
open Go.RowKit
variable {ro : Option Nat} {P : Program} {n : Nat} {Q : Post} {σ : Env} {D : List Deferred} {w : World} {dst : Option Nat} {ty : TypeId} {pos : String} {af : Array Edge} {g : Option (Nat × Bool)}
variable {ops rest : List Oper} {K : Ops}
/-- A part of a box is written: several cells. -/
theorem wl_storeP {t : TypeId} {x y : Operand} {b i k : Nat} {cs vs : List Value} (hT : structT P t k) (hx : ev σ x = .pointer (some ⟨b, i, none⟩)) (hy : ev σ y = .agg vs.toArray) (hk : vs.length = k) (h1 : ∀ u ∈ vs, u.oneCell' = true) (hb : IsBox w b cs) (hl : i + k ≤ cs.length)
    (kk : ∀ w', Ext (fun j => j = b) w w' → IsBox w' b (patch cs i vs) → w'.heap.size = w.heap.size → wl P ops rest K σ w') : wl P ops (⟨none, .store t x y, ty, pos, af, none⟩ :: rest) K σ w := by
  obtain ⟨w', h2, h3, h4, h5⟩ := rs_store (dst := none) (ty := ty) (pos := pos) (af := af) (g := none) (by simp [Value.cells, hk]; simpa using hT.2) hx hy (by simpa [Value.cells] using h1) hb (by simp [Value.cells]; omega)
  refine wl_do h2 (kk w' h3 ?_ h5)
  have : (Value.agg vs.toArray).cells.toList = vs := by simp [Value.cells]
  rw [this] at h4
  exact h4
end Go.Proofs.YthcclgoidchkdaaDoorC

/- The decimal numeral of any number: the library's. -/
set_option linter.unusedVariables false
set_option linter.unusedSimpArgs false
set_option maxRecDepth 100000
namespace Go.Proofs.YthcclgoidchkdaaDoorC
open Go.RowKit Go.Shelf
def Tryd.laysM171_ren : Go.Shelf.Ren := ⟨fun | 171 => 93 | 243 => 143 | 246 => 177 | 283 => 207 | 284 => 208 | 285 => 209 | 286 => 210 | 129 => 228 | 317 => 227 | 318 => 229 | 319 => 230 | 320 => 231 | 337 => 235 | 338 => 236 | n => n, fun | 3 => 3 | 9 => 9 | 2 => 2 | 4 => 4 | 171 => 248 | 0 => 0 | 53 => 150 | 37 => 23 | 5 => 5 | 173 => 251 | 212 => 262 | 51 => 263 | 20 => 20 | 213 => 264 | 46 => 148 | 232 => 275 | 233 => 276 | n => n, fun | 17 => 2 | 18 => 6 | 19 => 7 | n => n⟩
theorem Tryd.laysM171 : Go.Proofs.LaysM.n171 Tryd.prog Tryd.laysM171_ren := {
  mixed := by kernel_rfl
  f129 := Tryd.func228.trans (congrArg some (by kernel_rfl))
  f171 := Tryd.func93.trans (congrArg some (by kernel_rfl))
  f243 := Tryd.func143.trans (congrArg some (by kernel_rfl))
  f246 := Tryd.func177.trans (congrArg some (by kernel_rfl))
  f283 := Tryd.func207.trans (congrArg some (by kernel_rfl))
  f284 := Tryd.func208.trans (congrArg some (by kernel_rfl))
  f285 := Tryd.func209.trans (congrArg some (by kernel_rfl))
  f286 := Tryd.func210.trans (congrArg some (by kernel_rfl))
  f317 := Tryd.func227.trans (congrArg some (by kernel_rfl))
  f318 := Tryd.func229.trans (congrArg some (by kernel_rfl))
  f319 := Tryd.func230.trans (congrArg some (by kernel_rfl))
  f320 := Tryd.func231.trans (congrArg some (by kernel_rfl))
  f337 := Tryd.func235.trans (congrArg some (by kernel_rfl))
  f338 := Tryd.func236.trans (congrArg some (by kernel_rfl))
  t0 := Tryd.underlying0
  a0 := Tryd.isAgg0
  z0 := Tryd.sizeOf0
  v0 := Tryd.zeroValue0
  t2 := Tryd.underlying2
  a2 := Tryd.isAgg2
  z2 := Tryd.sizeOf2
  v2 := Tryd.zeroValue2
  t3 := Tryd.underlying3
  a3 := Tryd.isAgg3
  z3 := Tryd.sizeOf3
  v3 := Tryd.zeroValue3
  t4 := Tryd.underlying4
  a4 := Tryd.isAgg4
  z4 := Tryd.sizeOf4
  v4 := Tryd.zeroValue4
  t5 := Tryd.underlying5
  a5 := Tryd.isAgg5
  z5 := Tryd.sizeOf5
  v5 := Tryd.zeroValue5
  t9 := Tryd.underlying9
  a9 := Tryd.isAgg9
  z9 := Tryd.sizeOf9
  v9 := Tryd.zeroValue9
  t20 := Tryd.underlying20
  a20 := Tryd.isAgg20
  z20 := Tryd.sizeOf20
  v20 := Tryd.zeroValue20
  t37 := Tryd.underlying23
  a37 := Tryd.isAgg23
  z37 := Tryd.sizeOf23
  v37 := Tryd.zeroValue23
  t46 := Tryd.underlying148
  a46 := Tryd.isAgg148
  z46 := Tryd.sizeOf148
  v46 := Tryd.zeroValue148
  t51 := Tryd.underlying263
  a51 := Tryd.isAgg263
  z51 := Tryd.sizeOf263
  v51 := Tryd.zeroValue263
  t53 := Tryd.underlying150
  a53 := Tryd.isAgg150
  z53 := Tryd.sizeOf150
  v53 := Tryd.zeroValue150
  t171 := Tryd.underlying248
  a171 := Tryd.isAgg248
  z171 := Tryd.sizeOf248
  v171 := Tryd.zeroValue248
  t173 := Tryd.underlying251
  a173 := Tryd.isAgg251
  z173 := Tryd.sizeOf251
  v173 := Tryd.zeroValue251
  t212 := Tryd.underlying262
  a212 := Tryd.isAgg262
  z212 := Tryd.sizeOf262
  v212 := Tryd.zeroValue262
  t213 := Tryd.underlying264
  a213 := Tryd.isAgg264
  z213 := Tryd.sizeOf264
  t232 := Tryd.underlying275
  a232 := Tryd.isAgg275
  z232 := Tryd.sizeOf275
  v232 := Tryd.zeroValue275
  t233 := Tryd.underlying276
  a233 := Tryd.isAgg276
  z233 := Tryd.sizeOf276
  v233 := Tryd.zeroValue276
  g17 := by kernel_rfl
  g18 := by kernel_rfl
  g19 := by kernel_rfl
  i0 := by kernel_rfl
  i2 := by kernel_rfl
  i3 := by kernel_rfl
  i4 := by kernel_rfl
  i5 := by kernel_rfl
  i9 := by kernel_rfl
  i20 := by kernel_rfl
  i37 := by kernel_rfl
  i46 := by kernel_rfl
  i51 := by kernel_rfl
  i53 := by kernel_rfl
  i171 := by kernel_rfl
  i173 := by kernel_rfl
  i212 := by kernel_rfl
  i232 := by kernel_rfl
  i233 := by kernel_rfl
  m17 := by kernel_rfl
  m18 := by kernel_rfl
  m19 := by kernel_rfl }

/-- The table that the library's decimals lean on. -/
def Tab (w : World) : Prop := Lib.TabIs Tryd.prog w "internal/strconv.uint64pow10" .u64 Lib.pow10Tab
theorem Tab.ext {M : Nat → Prop} {w w' : World} (h : Tab w) (hE : Ext M w w') {B : Nat} (hM : ∀ i, M i → B ≤ i) (hB : ∃ g, Tryd.prog.globalNamed "internal/strconv.uint64pow10" = some g ∧ g < B) : Tab w' := by
  obtain ⟨g, hg, hgB⟩ := hB
  unfold Tab Lib.TabIs World.var? at *
  rw [hg] at h ⊢
  simp only [Option.bind_some] at h ⊢
  have hlt : g < w.heap.size := by
    rcases Nat.lt_or_ge g w.heap.size with h' | h'
    · exact h'
    · rw [Array.getElem?_eq_none h'] at h; cases h
  rw [hE.block g hlt (fun h' => by have := hM g h'; omega)]
  exact h
theorem Tab.non {w w' : World} (h : Tab w) (hE : Ext Non w w') : Tab w' := by
  unfold Tab Lib.TabIs World.var? at *
  cases hg : Tryd.prog.globalNamed "internal/strconv.uint64pow10" with
  | none => rw [hg] at h; simp at h
  | some g =>
    rw [hg] at h
    simp only [Option.bind_some] at h ⊢
    have hlt : g < w.heap.size := by
      rcases Nat.lt_or_ge g w.heap.size with h' | h'
      · exact h'
      · rw [Array.getElem?_eq_none h'] at h; cases h
    rw [hE.block g hlt id]
    exact h

theorem itoa_ok (w : World) (n : Int) (h : -9223372036854775808 ≤ n ∧ n ≤ 9223372036854775807) (ht : Tab w) : Fn Tryd.prog 93 #[.int .i64 n] w fun u w' => u = Sv (Lib.itoa n) :=
  Calls.mono (Any.strconv_Itoa Tryd.laysM171 n h.1 h.2 w ht) fun e w' hx => by
    obtain ⟨h1, k, os, h2⟩ := hx
    exact ⟨_, h1, by rw [h2]; exact Ext.of_below (Lib.below_grow w.heap.size w (Nat.le_refl _) k os), rfl⟩
end Go.Proofs.YthcclgoidchkdaaDoorC
