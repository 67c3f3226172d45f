/- Typed boxes, rows of bytes of a call's own with their type, texts as bytes and back, bits of bytes; each rule holds of whatever program. -/
import Derived.Test.YthcclgoidchkdaaDoorCoreX
import Derived.Lib.Builder
import Derived.Lib.AppendIntMem
import Derived.Lib.ConvBytes
import Derived.Lib.AtoiErrMem
import Derived.Laws.AppendOwn
import Derived.Laws.BytesArg
import Derived.WideLaws
import Derived.Laws.Build
set_option linter.unusedVariables false
set_option linter.unusedSimpArgs false
namespace Go.Proofs.YthcclgoidchkdaaDoorC
open Go.RowKit
variable {ro : Option Nat} {P : Program} {n : Nat} {Q : Post} {σ : Env} {D : List Deferred} {w : World} {dst : Option Nat} {ty : TypeId} {pos : String} {af : Array Edge} {g : Option (Nat × Bool)}
variable {ops rest : List Oper} {K : Ops} {S : World → Prop} {ex : Nat → Bool}
/-- A box whose type is known. -/
def IsBoxT (w : World) (b : Nat) (T : TypeId) (cs : List Value) : Prop := w.heap[b]? = some (.cells cs.toArray T (0, 0))
theorem IsBoxT.box {b : Nat} {T : TypeId} {cs : List Value} (h : IsBoxT w b T cs) : IsBox w b cs := ⟨T, h⟩
theorem IsBoxT.ext {M : Nat → Prop} {w' : World} {b : Nat} {T : TypeId} {cs : List Value} (h : IsBoxT w b T cs) (hE : Ext M w w') (hm : ¬ M b) : IsBoxT w' b T cs := hE.obj h hm
theorem wl_allocT {e : TypeId} {z : List Value} {d : Nat} (hz : zeroT P e z)
    (k : ∀ b w', w.heap.size ≤ b → Ext Non w w' → IsBoxT w' b e z → wl P ops rest K (upd σ d (.pointer (some ⟨b, 0, none⟩))) w') : wl P ops (⟨some d, .alloc e, ty, pos, af, none⟩ :: rest) K σ w := by
  obtain ⟨v, h1, h2⟩ := run_zero hz
  refine wl_new (w' := w.alloc (.cells v.cells e)) (v := .pointer (some ⟨w.heap.size, 0, none⟩)) ?_ (k _ _ (Nat.le_refl _) (Ext.alloc _ _) (by subst h2; have := World.alloc_heap_new w (.cells v.cells e); simpa [IsBoxT] using this))
  show (execOp (ev σ) _).run P w = _
  simp [execOp, Instr.alloc, h1, newVar, newRow]
theorem wl_store1T {t : TypeId} {x y : Operand} {b i : Nat} {T : TypeId} {cs : List Value} {v : Value} (hT : plainT P t) (hx : ev σ x = .pointer (some ⟨b, i, none⟩)) (hy : ev σ y = v) (hv : v.cells = #[v]) (h1 : v.oneCell' = true) (hb : IsBoxT w b T cs) (hl : i < cs.length)
    (k : ∀ w', Ext (fun j => j = b) w w' → IsBoxT w' b T (cs.set i v) → w'.heap.size = w.heap.size → wl P ops rest K σ w') : wl P ops (⟨none, .store t x y, ty, pos, af, none⟩ :: rest) K σ w := by
  obtain ⟨w', h2, h3, h4, h5⟩ := run_storeBox (P := P) b T [v] i 0 cs w hb (by simpa using h1) (by simp; omega)
  have e : patch cs i [v] = cs.set i v := by
    simp only [patch, List.length_cons, List.length_nil]
    rw [List.set_eq_take_append_cons_drop, if_pos hl]; simp
  refine wl_do ?_ (k w' h3 (by simpa [e, IsBoxT] using h4) h5)
  show (execOp (ev σ) _).run P w = _
  subst hy
  have h6 : (storeCells ⟨b, i, none⟩ [ev σ y]).run P w = .ok () w' := h2
  simp [execOp, hx, Instr.storeAt, Instr.sureAddr, storeVar, run_size (hv ▸ hT.2 : (P.info? t).map (·.size) = some (ev σ y).cells.size), hv, h6]
def eC (c : UInt8) : List Value := [.int .u8 c.toNat]
theorem eC_flat : ∀ l : Str, (l.map eC).flatten = Lib.byteCells l
  | [] => rfl
  | c :: l => by simp only [List.map_cons, List.flatten_cons, eC_flat l]; rfl
theorem eC_at {l : Str} {i : Nat} {c : UInt8} (h : l[i]? = some c) : (l.map eC)[i]? = some (eC c) := by simp [h]
/-- A text's bytes, a slice anew. -/
theorem wl_toBytes {t u e : TypeId} {x : Operand} {d : Nat} {l : Str} (ht : P.underlying t = some .string) (hu : P.underlying u = some (.slice e)) (he : P.underlying e = some (.int .u8)) (hx : ev σ x = Sv l) (hn : l.length ≤ 1000000)
    (k : ∀ w' b c, w.heap.size ≤ b → b < w'.heap.size → Ext Non w w' → Sl (fun i => i ≠ b) w' (.slice (some ⟨b, 0, none⟩) l.length c) 1 (l.map eC) → wl P ops rest K (upd σ d (.slice (some ⟨b, 0, none⟩) l.length c)) w') : wl P ops (⟨some d, .convert t u x, ty, pos, af, none⟩ :: rest) K σ w := by
  have h1 := Lib.run_convert_string_bytes (P := P) w t u e ⟨l.toArray⟩ ht hu he
  have hs : (ByteArray.mk l.toArray).size = l.length := by simp [ByteArray.size]
  rw [hs] at h1
  refine wl_new (w' := Lib.bytesWorld w e ⟨l.toArray⟩) (v := .slice (some ⟨w.heap.size, 0, none⟩) l.length (grownCap w l.length 0 e)) ?_ (k _ _ _ (Nat.le_refl _) (by rw [Lib.bytesWorld_size]; omega) ?_ ⟨⟨some ⟨w.heap.size, 0, none⟩, grownCap w l.length 0 e, by simp, ?_, ?_, .inr ⟨w.heap.size, 0, rfl, ?_, fun h => h rfl, fun j hj => ?_⟩⟩, ?_⟩)
  · show (execOp (ev σ) _).run P w = _
    simp [execOp, hx, h1]
  · exact Ext.of_below (Lib.bytesWorld_below w e _)
  · have := grownCap_ge w l.length 0 e; simpa using this
  · have := grownCap_le_maxLen w l.length 0 e (by simp [maxLen]; omega); simpa [maxLen, big] using this
  · rw [Lib.bytesWorld_size]; omega
  · rw [eC_flat] at hj ⊢
    have hl : j < l.length := by simpa [Lib.byteCells] using hj
    rw [Nat.zero_add, Lib.bytesWorld_cell w e ⟨l.toArray⟩ j (by rw [hs]; exact hl)]
    simp [Lib.byteCells, List.getD, hl]
  · intro r hr; obtain ⟨c, _, rfl⟩ := List.mem_map.1 hr; rfl
theorem rn_remN {k : IntKind} {t u : TypeId} {x y : Operand} {a b : Nat} (hx : ev σ x = .int k (a : Int)) (hy : ev σ y = .int k (b : Int)) (hb : 0 < b) : Rn P σ w ⟨dst, .binOp .rem t x y u, ty, pos, af, g⟩ (.int k ((a % b : Nat) : Int)) := by
  show (execOp (ev σ) _).run P w = _
  have h1 : ¬ ((b : Int) = 0) := by omega
  have h5 : Op.intDiv .rem k (a : Int) (b : Int) = pure (.int k ((a % b : Nat) : Int)) := by unfold Op.intDiv; rw [if_neg h1]; simp only [Int.ofNat_tmod]
  simp [execOp, hx, hy, eqGuard, binOp, h5, Sem.run_bind, Result.andThen, Sem.run]
theorem rn_quoN {k : IntKind} {t u : TypeId} {x y : Operand} {a b : Nat} (hx : ev σ x = .int k (a : Int)) (hy : ev σ y = .int k (b : Int)) (hb : 0 < b) (hw : k.wrap ((a / b : Nat) : Int) = ((a / b : Nat) : Int)) : Rn P σ w ⟨dst, .binOp .quo t x y u, ty, pos, af, g⟩ (.int k ((a / b : Nat) : Int)) := by
  show (execOp (ev σ) _).run P w = _
  have h1 : ¬ ((b : Int) = 0) := by omega
  have h5 : Op.intDiv .quo k (a : Int) (b : Int) = pure (.int k ((a / b : Nat) : Int)) := by unfold Op.intDiv; rw [if_neg h1]; simp only [← Int.ofNat_tdiv, hw]
  simp [execOp, hx, hy, eqGuard, binOp, h5, Sem.run_bind, Result.andThen, Sem.run]
theorem rn_shr4 {t u : TypeId} {x y : Operand} {a : Nat} (hx : ev σ x = .int .u8 (a : Int)) (hy : ev σ y = .int .u64 4) : Rn P σ w ⟨dst, .binOp .shr t x y u, ty, pos, af, g⟩ (.int .u8 ((a / 16 : Nat) : Int)) := by
  show (execOp (ev σ) _).run P w = _
  have e : Op.shift .shr .u8 (a : Int) .u64 4 = pure (.int .u8 ((a / 16 : Nat) : Int)) := by
    unfold Op.shift
    rw [if_neg (by omega)]
    simp [IntKind.bits, Int.fdiv_eq_ediv_of_nonneg]
  simp [execOp, hx, hy, eqGuard, binOp, e]
theorem rn_and15 {t u : TypeId} {x y : Operand} {a : Nat} (hx : ev σ x = .int .u8 (a : Int)) (hy : ev σ y = .int .u8 15) (ha : a < 256) : Rn P σ w ⟨dst, .binOp .and t x y u, ty, pos, af, g⟩ (.int .u8 ((a % 16 : Nat) : Int)) := by
  show (execOp (ev σ) _).run P w = _
  have hd : ∀ n : Fin 256, IntKind.u8.wrap ((BitVec.ofInt 8 ((n.val : Nat) : Int) &&& BitVec.ofInt 8 15).toNat : Int) = ((n.val % 16 : Nat) : Int) := by decide +kernel
  have e2 : Op.intBits .and .u8 (a : Int) 15 = pure (.int .u8 ((a % 16 : Nat) : Int)) := by
    show (pure (Value.int .u8 (IntKind.u8.wrap ((BitVec.ofInt 8 (a : Int) &&& BitVec.ofInt 8 15).toNat : Int))) : Sem Value) = _
    rw [hd ⟨a, ha⟩]
  simp only [execOp, hx, hy]
  have e3 : (eqGuard .and t x y (.int .u8 (a : Int)) (.int .u8 15)) = pure () := rfl
  have e4 : binOp .and t (.int .u8 (a : Int)) (.int .u8 15) = Op.intBits .and .u8 (a : Int) 15 := rfl
  rw [e3, e4, e2]; rfl
/-- What append(s, x...) does, s the call's own or nil, by its block. -/
theorem run_appO {t e : TypeId} {k bytes : Nat} {z : List Value} (hT : SliceT P t e k bytes z) (hz : z.length = k) {M' : Nat → Prop} {v : Value} {a2 : Option Addr} {c2 : Nat} {o : Option Nat} {rows rows2 : List (List Value)}
    (hs : OwO w v o k rows) (hx : Sl M' w (.slice a2 rows2.length c2) k rows2) (h1 : ∀ r ∈ rows2, ∀ u ∈ r, u.oneCell' = true) (hb : (rows.length + rows2.length) * bytes ≤ 140737488355328) (h63 : rows.length + rows2.length ≤ big) :
    ∃ v' w' o', (Builtin.append_ #[t, t] ty #[v, .slice a2 rows2.length c2]).run P w = .ok v' w' ∧ Ext (fun i => o = some i) w w' ∧ OwO w' v' o' k (rows ++ rows2) ∧ (∀ i, o' = some i → o = some i ∨ w.heap.size ≤ i) := by
  rcases hs with ⟨rfl, rfl, rfl⟩ | ⟨b, spare, rfl, h⟩
  · obtain ⟨v', w', h2, h3, h4⟩ := run_append_own' hT hz (OwN.nil w w.heap.size k) hx h1 (Nat.le_refl _) hb h63 ty
    have h5 : Ext (fun i => (none : Option Nat) = some i) w w' := (h3.fresh fun i h => h).of_non
    rcases h4 with ⟨rfl, e⟩ | ⟨b, sp, hB, h4⟩
    · exact ⟨_, w', none, h2, h5, .inl ⟨rfl, e, rfl⟩, fun i h => by cases h⟩
    · exact ⟨v', w', some b, h2, h5, .inr ⟨b, sp, rfl, h4⟩, fun i h => by cases h; exact .inr hB⟩
  · obtain ⟨c, hv, hc1, hc2, hc3⟩ := h.val
    by_cases hroom : rows.length + rows2.length ≤ c
    · obtain ⟨v', w', sp, h2, h3, h4⟩ := run_append_room' hT h hx h1 ⟨_, c, hv, hroom⟩ ty
      exact ⟨v', w', some b, h2, h3.mono (fun i e => by rw [e]), .inr ⟨b, sp, rfl, h4⟩, fun i h => .inl h⟩
    · have hsl := h.sl (M := Non) id
      subst hv
      obtain ⟨v', w', sp, h2, h3, h4⟩ := run_append_grow' hT hz hsl hx (by omega) hb h63 ty
      exact ⟨v', w', some w.heap.size, h2, h3.of_non, .inr ⟨_, sp, rfl, h4⟩, fun i h => by cases h; exact .inr (Nat.le_refl _)⟩
/-- append(s, x...) of bytes, s the call's own or nil; its row's type stays known. -/
theorem wl_appT {t e : TypeId} {M' : Nat → Prop} {s x : Operand} {d : Nat} {v vx : Value} {o : Option Nat} {l l2 : Str} (hT : SliceT P t e 1 1 [.int .u8 0]) (hsv : ev σ s = v) (hxv : ev σ x = vx) (hs : OwO w v o 1 (l.map eC)) (hr : w.ownsRow 0 e 1 v l.length (Lib.byteCells l))
    (hx : Sl M' w vx 1 (l2.map eC)) (h2 : l2 ≠ []) (hn : l.length + l2.length ≤ 100000000)
    (kk : ∀ v' w' o', Ext (fun i => o = some i) w w' → OwO w' v' o' 1 ((l ++ l2).map eC) → w'.ownsRow 0 e 1 v' (l ++ l2).length (Lib.byteCells (l ++ l2)) → (∀ i, o' = some i → o = some i ∨ w.heap.size ≤ i) → wl P ops rest K (upd σ d v') w') :
    wl P ops (⟨some d, .call ⟨.builtin .append, #[s, x], #[t, t]⟩, ty, pos, af, none⟩ :: rest) K σ w := by
  obtain ⟨a2, c2, rfl, _⟩ := hx.len
  have h1 : ∀ r ∈ l2.map eC, ∀ u ∈ r, u.oneCell' = true := fun r hr u hu => by obtain ⟨c, _, rfl⟩ := List.mem_map.1 hr; simp [eC] at hu; subst hu; rfl
  obtain ⟨v', w', o', e2, e3, e4, e5⟩ := run_appO (ty := ty) hT rfl hs hx h1 (by simp only [List.length_map]; omega) (by simp only [List.length_map, big]; omega)
  obtain ⟨inf, z0, i1, i2, i3, i4, i5⟩ := hT.inf
  obtain ⟨⟨a, c, hv, hc1, hc2, hc3⟩, heach⟩ := id hx
  simp only [Value.slice.injEq] at hv
  obtain ⟨rfl, _, rfl⟩ := hv
  rcases hc3 with h0 | ⟨b, q, rfl, _, _, hcell⟩
  · exact absurd (by simpa using h0) h2
  obtain ⟨v2, w2, f1, f2, _, _⟩ := run_append_own (P := P) w 0 t ty e inf z0 1 1 hT.under i1 i4 i2 i3 (by rw [← Array.length_toList, i5]; rfl) (by decide) v l.length (Lib.byteCells l) hr ⟨b, q, none⟩ (l2.map eC).length c2 (Lib.byteCells l2)
    (by simp [Lib.byteCells]) (fun j u hj => by
      have hjl : j < l2.length := by have := (List.getElem?_eq_some_iff.1 hj).1; simpa [Lib.byteCells] using this
      rw [add_at, hcell j (by rw [eC_flat]; simpa [Lib.byteCells] using hjl), eC_flat]; exact hj) (fun u hu => by simp [Lib.byteCells] at hu; obtain ⟨c, _, rfl⟩ := hu; rfl)
    (by simp only [List.length_map, maxLen]; omega) (by simp only [List.length_map]; omega) (Nat.zero_le _)
  have he := e2.symm.trans f1
  simp only [Result.ok.injEq] at he
  obtain ⟨rfl, rfl⟩ := he
  refine wl_new (w' := w') (v := v') ?_ (kk v' w' o' e3 (by rw [List.map_append]; exact e4) (by simpa [Lib.byteCells] using f2) e5)
  show (execOp (ev σ) _).run P w = _
  simp only [List.length_map] at e2 hxv
  simp [execOp, resolve, invoke, builtin, hsv, hxv, e2]
theorem ownsRow_ext {e : TypeId} {v : Value} {o : Option Nat} {n : Nat} {xs : List Value} {rows : List (List Value)} {k : Nat} (hr : w.ownsRow 0 e 1 v n xs) (ho : OwO w v o k rows) {M : Nat → Prop} {w' : World} (hE : Ext M w w') (hm : ∀ j, o = some j → ¬ M j) : w'.ownsRow 0 e 1 v n xs := by
  refine ⟨hr.1, ?_⟩
  rcases hr.2 with h | ⟨g, cap, cur, hv, hb, hg, rest⟩
  · exact .inl h
  · refine .inr ⟨g, cap, cur, hv, hb, hE.obj hg ?_, rest⟩
    rcases ho with ⟨h, _⟩ | ⟨b, spare, rfl, h⟩
    · rw [hv] at h; simp at h
    · obtain ⟨c, h, _⟩ := h.val
      rw [hv] at h; simp at h
      exact h.1 ▸ hm b rfl
theorem ownsRow_base {e : TypeId} {v : Value} {o : Option Nat} {n B : Nat} {xs : List Value} {rows : List (List Value)} {k : Nat} (hr : w.ownsRow 0 e 1 v n xs) (ho : OwO w v o k rows) (hm : ∀ j, o = some j → B ≤ j) : w.ownsRow B e 1 v n xs ∧ v.ownBlock = o := by
  rcases ho with ⟨h, _, h2⟩ | ⟨b, spare, rfl, h⟩
  · subst h; subst h2
    refine ⟨⟨hr.1, ?_⟩, rfl⟩
    rcases hr.2 with h | ⟨g, cap, cur, hv, _⟩
    · exact .inl h
    · simp at hv
  · obtain ⟨c, h, _⟩ := h.val
    subst h
    refine ⟨⟨hr.1, ?_⟩, rfl⟩
    rcases hr.2 with h | ⟨g, cap, cur, hv, hb, rest⟩
    · exact .inl h
    · simp only [Value.slice.injEq, Option.some.injEq, Addr.mk.injEq] at hv
      exact .inr ⟨g, cap, cur, by rw [hv.1.1, hv.2.1, hv.2.2], hv.1.1 ▸ hm b rfl, rest⟩
end Go.Proofs.YthcclgoidchkdaaDoorC
