/- Maps whose keys are texts, in the calculus: made, looked up, laid into, gone through; each rule holds of whatever program. -/
import Derived.Test.YthcclgoidchkdaaDoorCoreN
import Derived.Maps.RangeRun
import Derived.MapKept
set_option linter.unusedVariables false
set_option linter.unusedSimpArgs false
namespace Go.Proofs.YthcclgoidchkdaaDoorC
open Go.RowKit
variable {ro : Option Nat} {P : Program} {n : Nat} {Q : Post} {σ : Env} {D : List Deferred} {w : World} {dst : Option Nat} {ty : TypeId} {pos : String} {af : Array Edge} {g : Option (Nat × Bool)}
variable {ops rest : List Oper} {K : Ops}

/-- A map's type: its keys are texts; its values' zero. -/
structure MapT (P : Program) (t key elem : TypeId) (z : Value) : Prop where
  under : P.underlying t = some (.map key elem)
  key : P.underlying key = some .string
  zero : (P.info? elem).bind (·.zero) = some z
theorem MapT.run_zero {t key elem : TypeId} {z : Value} (h : MapT P t key elem z) (w : World) : (zeroValue elem).run P w = .ok z w := by
  have := h.zero
  cases hi : P.info? elem with
  | none => simp [hi] at this
  | some i => simp [hi] at this; simp [zeroValue, typeInfo, hi, this]

/-- Entries, in the order in which they were laid in. -/
structure Mp (es : List MapEntry) (clock : Nat) (kvs : List (Str × Value)) : Prop where
  kv : es.map (fun e => (e.key, e.val)) = kvs.map (fun p => (Sv p.1, p.2))
  nodup : (es.map (·.born)).Nodup
  old : ∀ e ∈ es, e.born < clock
/-- Block b is a map with these keys and values. -/
def IsMp (w : World) (b : Nat) (kvs : List (Str × Value)) : Prop := ∃ es clock, w.heap[b]? = some (.map es clock) ∧ Mp es.toList clock kvs
theorem IsMp.lt {b : Nat} {kvs : List (Str × Value)} (h : IsMp w b kvs) : b < w.heap.size := by obtain ⟨_, _, h, _⟩ := h; exact (Array.getElem?_eq_some_iff.1 h).1
theorem IsMp.ext {M : Nat → Prop} {w' : World} {b : Nat} {kvs : List (Str × Value)} (h : IsMp w b kvs) (hE : Ext M w w') (hm : ¬ M b) : IsMp w' b kvs := by
  obtain ⟨es, c, h1, h2⟩ := h; exact ⟨es, c, hE.obj h1 hm, h2⟩
theorem bytes_beq' (a b : Str) : ((⟨a.toArray⟩ : ByteArray) == ⟨b.toArray⟩) = decide (a = b) := by
  by_cases h : a = b
  · subst h; simp [MapKept.bytes_beq]
  · rw [decide_eq_false h]
    cases hb : ((⟨a.toArray⟩ : ByteArray) == ⟨b.toArray⟩) with
    | false => rfl
    | true =>
      have := (MapKept.bytes_beq _ _).1 hb
      simp at this; exact absurd this h
def mfind (k : Str) : List (Str × Value) → Nat → Option (Nat × Value)
  | [], _ => none
  | p :: l, i => if k = p.1 then some (i, p.2) else mfind k l (i + 1)
/-- A key's value laid in. -/
def mput (k : Str) (v : Value) : List (Str × Value) → List (Str × Value)
  | [] => [(k, v)]
  | p :: l => if k = p.1 then (k, v) :: l else p :: mput k v l
theorem findNow_str (k : Str) : ∀ (es : List MapEntry) (kvs : List (Str × Value)) (i : Nat), es.map (fun e => (e.key, e.val)) = kvs.map (fun p => (Sv p.1, p.2)) → Instr.findNow .string (Sv k) es i = some (mfind k kvs i)
  | [], [], _, _ => rfl
  | [], _ :: _, _, h => by simp at h
  | _ :: _, [], _, h => by simp at h
  | e :: es, p :: kvs, i, h => by
    simp only [List.map_cons, List.cons.injEq, Prod.mk.injEq] at h
    obtain ⟨⟨h1, h2⟩, h3⟩ := h
    have ih := findNow_str k es kvs (i + 1) h3
    simp only [Instr.findNow, h1, Instr.sameNow, bytes_beq', mfind, ih, h2]
    by_cases hk : k = p.1 <;> simp [hk]
theorem mfind_none {k : Str} {v : Value} : ∀ {kvs : List (Str × Value)} {i : Nat}, mfind k kvs i = none → mput k v kvs = kvs ++ [(k, v)]
  | [], _, _ => rfl
  | p :: l, i, h => by
    unfold mfind at h; unfold mput
    split at h
    · cases h
    · rename_i hk; rw [if_neg hk, mfind_none (kvs := l) h]; rfl
theorem mfind_some {k : Str} {v : Value} : ∀ {kvs : List (Str × Value)} {i j : Nat} {u : Value}, mfind k kvs i = some (j, u) → ∃ d, j = i + d ∧ d < kvs.length ∧ mput k v kvs = kvs.set d (k, v) ∧ kvs[d]?.map (·.1) = some k
  | [], _, _, _, h => by cases h
  | p :: l, i, j, u, h => by
    unfold mfind at h; unfold mput
    split at h
    · rename_i hk
      simp only [Option.some.injEq, Prod.mk.injEq] at h
      exact ⟨0, by omega, by simp, by rw [if_pos hk]; rfl, by simp [hk]⟩
    · rename_i hk
      obtain ⟨d, h1, h2, h3, h4⟩ := mfind_some (v := v) h
      exact ⟨d + 1, by omega, by simpa using h2, by rw [if_neg hk, h3]; rfl, by simpa using h4⟩
theorem isKeyS (k : Str) : MapKept.IsKey .string (Sv k) := trivial
section
variable {t key elem : TypeId} {z : Value} {x y m : Operand} {b : Nat} {kvs : List (Str × Value)} {k : Str}
/-- What laying in does. -/
theorem run_mapUpdate_mp (hT : MapT P t key elem z) (hb : IsMp w b kvs) (v : Value) :
    ∃ w', (Instr.mapUpdate t (.map (some b)) (Sv k) v).run P w = .ok () w' ∧ Ext (fun i => i = b) w w' ∧ IsMp w' b (mput k v kvs) ∧ w'.heap.size = w.heap.size := by
  obtain ⟨es, clock, h1, h2⟩ := hb
  have hf := findNow_str k es.toList kvs 0 h2.kv
  have hlt := (Array.getElem?_eq_some_iff.1 h1).1
  cases hm : mfind k kvs 0 with
  | none =>
    rw [hm] at hf
    refine ⟨w.putObj b (.map (es.push ⟨Sv k, v, clock⟩) (clock + 1)), ?_, Ext.putObj _ _ _ _ rfl, ⟨_, _, World.putObj_heap_same hlt, ?_, ?_, ?_⟩, by simp [World.putObj]⟩
    · simp [Instr.mapUpdate, run_underlying hT.under, MapKept.run_getObj_map h1, MapKept.run_checkKey hT.key (isKeyS k), MapKept.run_findKey hT.key hf, MapKept.run_setObj_map _ h1, Result.andThen, World.putObj]
    · rw [mfind_none hm]; simp [h2.kv]
    · rw [Array.toList_push, List.map_append, List.nodup_append]
      refine ⟨h2.nodup, by simp, ?_⟩
      intro a ha c hc
      simp only [List.map_cons, List.map_nil, List.mem_singleton] at hc
      obtain ⟨e, he, rfl⟩ := List.mem_map.1 ha
      have := h2.old e he; omega
    · intro e he
      rw [Array.toList_push] at he
      rcases List.mem_append.1 he with he | he
      · have := h2.old e he; omega
      · simp only [List.mem_singleton] at he; subst he; exact Nat.lt_succ_self _
  | some p =>
    obtain ⟨j, u⟩ := p
    rw [hm] at hf
    obtain ⟨d, hd1, hd2, hd3, hd4⟩ := mfind_some (v := v) hm
    obtain rfl : j = d := by omega
    have hlen : es.toList.length = kvs.length := by have := congrArg List.length h2.kv; simpa using this
    have hjl : j < es.size := by rw [← Array.length_toList]; omega
    have hkeyj : es[j].key = Sv k := by
      have e1 := congrArg (fun l => l[j]?) h2.kv
      simp only [List.getElem?_map] at e1
      rw [List.getElem?_eq_getElem (by omega : j < es.toList.length)] at e1
      cases hk2 : kvs[j]? with
      | none => rw [hk2] at hd4; cases hd4
      | some q => rw [hk2] at e1 hd4; simp at e1 hd4; rw [e1.1, hd4]
    have hgj : es[j]? = some es[j] := Array.getElem?_eq_getElem hjl
    have hset : (es.modify j fun e => { e with key := Sv k, val := v }).toList = es.toList.set j { es[j] with key := Sv k, val := v } := by
      rw [Array.toList_modify]
      exact ChangeMaps.modify_eq_set _ _ _ _ (by rw [Array.getElem?_toList]; exact hgj)
    refine ⟨w.putObj b (.map (es.modify j fun e => { e with key := Sv k, val := v }) clock), ?_, Ext.putObj _ _ _ _ rfl, ⟨_, _, World.putObj_heap_same hlt, ?_, ?_, ?_⟩, by simp [World.putObj]⟩
    · simp [Instr.mapUpdate, run_underlying hT.under, MapKept.run_getObj_map h1, MapKept.run_checkKey hT.key (isKeyS k), MapKept.run_findKey hT.key hf, hgj, hkeyj, MapKept.run_keyThatStays (isKeyS k), MapKept.run_setObj_map _ h1, Result.andThen, World.putObj]
    · rw [hset, hd3, List.map_set, List.map_set, h2.kv]
    · rw [hset, List.map_set]
      have : (es.toList.map (·.born)).set j es[j].born = es.toList.map (·.born) := by
        have e1 : es[j].born = (es.toList.map (·.born))[j]'(by simpa using hjl) := by simp
        rw [e1, List.set_getElem_self]
      rw [this]; exact h2.nodup
    · rw [hset]
      intro e he
      rcases List.mem_or_eq_of_mem_set he with he | rfl
      · exact h2.old e he
      · exact h2.old es[j] (by simp)
theorem wl_insert {v : Value} (hT : MapT P t key elem z) (hm : ev σ m = .map (some b)) (hx : ev σ x = Sv k) (hy : ev σ y = v) (hb : IsMp w b kvs)
    (kk : ∀ w', Ext (fun i => i = b) w w' → IsMp w' b (mput k v kvs) → w'.heap.size = w.heap.size → wl P ops rest K σ w') : wl P ops (⟨none, .insert t m x y, ty, pos, af, none⟩ :: rest) K σ w := by
  obtain ⟨w', h1, h2, h3, h4⟩ := run_mapUpdate_mp hT hb v
  refine wl_do (w' := w') ?_ (kk w' h2 h3 h4)
  show (execOp (ev σ) _).run P w = _
  simp [execOp, hm, hx, hy, h1]
end
theorem mp_nil : Mp [] 0 [] := ⟨rfl, by simp, by simp⟩
theorem ismp_alloc (w : World) : IsMp (w.alloc (.map #[] 0)) w.heap.size [] := ⟨#[], 0, by have := World.alloc_heap_new w (.map #[] 0); simpa using this, mp_nil⟩
theorem wl_makeMap {t : TypeId} {d : Nat} (k : ∀ b w', w.heap.size ≤ b → Ext Non w w' → IsMp w' b [] → wl P ops rest K (upd σ d (.map (some b))) w') : wl P ops (⟨some d, .makeMap t none, ty, pos, af, none⟩ :: rest) K σ w := by
  refine wl_new (w' := w.alloc (.map #[] 0)) (v := .map (some w.heap.size)) ?_ (k _ _ (Nat.le_refl _) (Ext.alloc _ _) (ismp_alloc w))
  show (execOp (ev σ) _).run P w = _
  simp [execOp, Instr.makeMap, newObj]; rfl
/-! ### a map that is gone through -/
/-- Block r goes through map b, which has kvs; these are yet to come (in whatever order). -/
def IsGo (w : World) (r b : Nat) (kvs left : List (Str × Value)) : Prop :=
  r ≠ b ∧ ∃ es clock seen, w.heap[b]? = some (.map es clock) ∧ Mp es.toList clock kvs ∧ w.heap[r]? = some (.mapIter (some b) clock seen clock) ∧
    (leftOf es seen).toList.map (fun e => (e.key, e.val)) = left.map (fun p => (Sv p.1, p.2))
theorem IsGo.ne {r b : Nat} {kvs left : List (Str × Value)} (h : IsGo w r b kvs left) : r ≠ b := h.1
theorem IsGo.mp {r b : Nat} {kvs left : List (Str × Value)} (h : IsGo w r b kvs left) : IsMp w b kvs := by
  obtain ⟨_, es, c, s, h1, h2, _⟩ := h; exact ⟨es, c, h1, h2⟩
theorem IsGo.lt {r b : Nat} {kvs left : List (Str × Value)} (h : IsGo w r b kvs left) : r < w.heap.size := by
  obtain ⟨_, es, c, s, _, _, h3, _⟩ := h; exact (Array.getElem?_eq_some_iff.1 h3).1
theorem IsGo.ext {M : Nat → Prop} {w' : World} {r b : Nat} {kvs left : List (Str × Value)} (h : IsGo w r b kvs left) (hE : Ext M w w') (hr : ¬ M r) (hb : ¬ M b) : IsGo w' r b kvs left := by
  obtain ⟨h0, es, c, s, h1, h2, h3, h4⟩ := h; exact ⟨h0, es, c, s, hE.obj h1 hb, h2, hE.obj h3 hr, h4⟩
theorem wl_range {t key elem : TypeId} {x : Operand} {d b : Nat} {kvs : List (Str × Value)} {z : Value} (hT : MapT P t key elem z) (hx : ev σ x = .map (some b)) (hb : IsMp w b kvs)
    (k : ∀ r w', w.heap.size ≤ r → Ext Non w w' → IsGo w' r b kvs kvs → wl P ops rest K (upd σ d (.pointer (some ⟨r, 0, none⟩))) w') : wl P ops (⟨some d, .range t x, ty, pos, af, none⟩ :: rest) K σ w := by
  have hlt := hb.lt
  obtain ⟨es, clock, h1, h2⟩ := hb
  refine wl_new (w' := w.alloc (.mapIter (some b) clock #[] clock)) (v := .pointer (some ⟨w.heap.size, 0, none⟩)) ?_ (k _ _ (Nat.le_refl _) (Ext.alloc _ _) ?_)
  · show (execOp (ev σ) _).run P w = _
    simp [execOp, hx, Instr.range, run_underlying hT.under, MapKept.run_getObj_map h1, newObj]; rfl
  · refine ⟨by omega, es, clock, #[], (Ext.alloc w _).obj h1 (fun h => h), h2, ?_, ?_⟩
    · have := World.alloc_heap_new w (.mapIter (some b) clock #[] clock); simpa using this
    · have : leftOf es #[] = es := by unfold leftOf; simp
      rw [this]; exact h2.kv
theorem left_push {es : List MapEntry} {seen : Array Nat} {e : MapEntry} (hn : (es.map (·.born)).Nodup) (he : e ∈ es.filter fun e => !seen.contains e.born) :
    ∃ l1 l2, (es.filter fun e => !seen.contains e.born) = l1 ++ e :: l2 ∧ (es.filter fun x => !(seen.push e.born).contains x.born) = l1 ++ l2 := by
  obtain ⟨l1, l2, h⟩ := List.append_of_mem he
  refine ⟨l1, l2, h, ?_⟩
  have h1 : (es.filter fun x => !(seen.push e.born).contains x.born) = (es.filter fun e => !seen.contains e.born).filter fun x => decide (x.born ≠ e.born) := by
    rw [List.filter_filter]
    congr 1; funext x
    simp [Array.contains_push, Bool.and_comm]
  rw [h1, h, List.filter_append, List.filter_cons]
  have hnd : ((es.filter fun e => !seen.contains e.born).map (·.born)).Nodup := List.Nodup.sublist (List.Sublist.map _ List.filter_sublist) hn
  rw [h, List.map_append, List.map_cons, List.nodup_append] at hnd
  obtain ⟨a1, a2, a3⟩ := hnd
  rw [List.nodup_cons] at a2
  have f1 : l1.filter (fun x => decide (x.born ≠ e.born)) = l1 := List.filter_eq_self.2 fun x hx => by
    have := a3 x.born (List.mem_map_of_mem hx) e.born (by simp)
    simpa using this
  have f2 : l2.filter (fun x => decide (x.born ≠ e.born)) = l2 := List.filter_eq_self.2 fun x hx => by
    have : x.born ≠ e.born := fun h => a2.1 (by rw [← h]; exact List.mem_map_of_mem hx)
    simpa using this
  rw [f1, f2]; simp
end Go.Proofs.YthcclgoidchkdaaDoorC
