/- append(s, text...) of bytes, in the calculus; the rule holds of whatever program. -/
import Derived.Test.YthcclgoidchkdaaDoorCoreY
import Derived.Lib.AppendStr
set_option linter.unusedVariables false
set_option linter.unusedSimpArgs false
namespace Go.Proofs.YthcclgoidchkdaaDoorC
open Go.RowKit
variable {P : Program} {σ : Env} {w : World} {ops rest : List Oper} {K : Ops} {ty : TypeId} {pos : String} {af : Array Edge}
theorem strCells_str (l : Str) : Lib.strCells ⟨l.toArray⟩ = Lib.byteCells l := by simp [Lib.strCells, Lib.byteCells]
theorem owO_of_row {e : TypeId} {v : Value} {l : Str} (h : w.ownsRow 0 e 1 v l.length (Lib.byteCells l)) : OwO w v v.ownBlock 1 (l.map eC) := by
  rcases h.2 with ⟨rfl, h2⟩ | ⟨g, cap, cur, rfl, _, hg, h1, h2, h3, h4⟩
  · exact .inl ⟨rfl, by simpa using h2, rfl⟩
  · refine .inr ⟨g, cur.toList.drop l.length, rfl, ?_⟩
    have e1 : (l.map eC).flatten ++ cur.toList.drop l.length = cur.toList := by
      rw [eC_flat]
      have : cur.toList.take l.length = Lib.byteCells l := by simpa using h4
      rw [← this, List.take_append_drop]
    refine ⟨⟨cap, by rw [List.length_map], by rw [List.length_map]; exact h1, by simp only [maxLen, big] at *; omega, ?_⟩, ⟨e, by rw [e1]; simpa using hg⟩, fun r hr => by obtain ⟨c, _, rfl⟩ := List.mem_map.1 hr; rfl⟩
    rw [List.length_drop, Array.length_toList, h3, List.length_map, Nat.mul_one, Nat.mul_one]
/-- append(s, text...) of bytes, s the call's own or nil; its row's type stays known. -/
theorem wl_appTs {t u e : TypeId} {s x : Operand} {d : Nat} {v : Value} {o : Option Nat} {l l2 : Str} (hT : SliceT P t e 1 1 [.int .u8 0]) (hz : (P.info? e).bind (·.zero) = some (.int .u8 0)) (hu : P.underlying u = some .string) (hsv : ev σ s = v) (hxv : ev σ x = Sv l2) (hs : OwO w v o 1 (l.map eC)) (hr : w.ownsRow 0 e 1 v l.length (Lib.byteCells l))
    (hn : l.length + l2.length ≤ 100000000)
    (kk : ∀ v' w' o', Ext (fun i => o = some i) w w' → OwO w' v' o' 1 ((l ++ l2).map eC) → w'.ownsRow 0 e 1 v' (l ++ l2).length (Lib.byteCells (l ++ l2)) → (∀ i, o' = some i → o = some i ∨ w.heap.size ≤ i) → wl P ops rest K (upd σ d v') w') :
    wl P ops (⟨some d, .call ⟨.builtin .append, #[s, x], #[t, u]⟩, ty, pos, af, none⟩ :: rest) K σ w := by
  have hl2 : (⟨l2.toArray⟩ : ByteArray).size = l2.length := by simp [ByteArray.size]
  obtain ⟨inf, z0, i1, i2, i3, i4, i5⟩ := hT.inf
  have hz0 : inf.zero = some (.int .u8 0) := by rw [i1] at hz; exact hz
  have hob : v.ownBlock = o ∧ ∀ b, o = some b → ∃ c, v = .slice (some ⟨b, 0, none⟩) l.length c := by
    rcases hs with ⟨rfl, _, rfl⟩ | ⟨b, spare, rfl, h⟩
    · exact ⟨rfl, fun b h => by cases h⟩
    · obtain ⟨c, rfl, _⟩ := h.val
      exact ⟨rfl, fun b h => by cases h; exact ⟨c, by rw [List.length_map]⟩⟩
  have hkey : ∃ v' w', (Builtin.append_ #[t, u] ty #[v, .string ⟨l2.toArray⟩]).run P w = .ok v' w' ∧ w'.ownsRow 0 e 1 v' (l ++ l2).length (Lib.byteCells (l ++ l2)) ∧ Ext (fun i => o = some i) w w' ∧ (∀ i, v'.ownBlock = some i → o = some i ∨ w.heap.size ≤ i) := by
    have hbase : ∀ base, w.ownsRow base e 1 v l.length (Lib.byteCells l) → base ≤ w.heap.size → ∃ v' w', (Builtin.append_ #[t, u] ty #[v, .string ⟨l2.toArray⟩]).run P w = .ok v' w' ∧ w'.ownsRow base e 1 v' (l ++ l2).length (Lib.byteCells (l ++ l2)) ∧ Ext (fun i => o = some i) w w' := by
      intro base hrb hb
      obtain ⟨v', w', f1, f2, f3, _⟩ := Lib.run_append_own_string (P := P) (w := w) base t u ty e inf hT.under hu i1 hz0 i2 i3 v l.length (Lib.byteCells l) hrb ⟨l2.toArray⟩ (by rw [hl2]; simp only [maxLen]; omega) (by rw [hl2]; omega) hb
      refine ⟨v', w', f1, ?_, ⟨f3.os, f3.tape, f3.output, f3.size, fun i hi hn => f3.block i hi (fun h => hn (by rw [hob.1] at h; exact h.symm))⟩⟩
      rw [hl2, strCells_str] at f2
      have e1 : Lib.byteCells l ++ Lib.byteCells l2 = Lib.byteCells (l ++ l2) := by simp [Lib.byteCells]
      rw [e1] at f2
      rw [List.length_append]; exact f2
    cases o with
    | none =>
      have hv : v = .slice none 0 0 ∧ l.length = 0 := by
        rcases hs with ⟨h1, h2, _⟩ | ⟨b, spare, h, _⟩
        · exact ⟨h1, by simpa using congrArg List.length h2⟩
        · cases h
      obtain ⟨v', w', f1, f2, f3⟩ := hbase w.heap.size ⟨hr.1, .inl hv⟩ (Nat.le_refl _)
      refine ⟨v', w', f1, ⟨f2.1, ?_⟩, f3, fun i hi => ?_⟩
      · rcases f2.2 with h | ⟨g, cap, cur, h1, _, h3⟩
        · exact .inl h
        · exact .inr ⟨g, cap, cur, h1, Nat.zero_le _, h3⟩
      · rcases f2.2 with ⟨h, _⟩ | ⟨g, cap, cur, h1, h2, _⟩
        · rw [h] at hi; cases hi
        · rw [h1] at hi; cases hi; exact .inr h2
    | some b =>
      obtain ⟨v', w', f1, f2, f3⟩ := hbase 0 hr (Nat.zero_le _)
      refine ⟨v', w', f1, f2, f3, fun i hi => ?_⟩
      obtain ⟨c, hv⟩ := hob.2 b rfl
      rcases hr.2 with ⟨h, _⟩ | ⟨g, cap, cur, h1, _, hg, hc1, hc2, hc3, hc4⟩
      · rw [hv] at h; cases h
      · rw [hv] at h1
        simp only [Value.slice.injEq, Option.some.injEq, Addr.mk.injEq] at h1
        obtain ⟨⟨rfl, _⟩, _, rfl⟩ := h1
        subst hv
        by_cases hroom : l.length + (⟨l2.toArray⟩ : ByteArray).size ≤ c
        · have := Lib.run_append_room_string (P := P) (w := w) t u ty e inf hT.under hu i1 i2 b l.length c cur hg ⟨l2.toArray⟩ hroom (by rw [hc3]; omega)
          rw [this] at f1
          simp only [Result.ok.injEq] at f1
          obtain ⟨rfl, _⟩ := f1
          cases hi; exact .inl rfl
        · have := Lib.run_append_grow_string (P := P) (w := w) t u ty e inf (.int .u8 0) hT.under hu i1 hz0 ⟨b, 0, none⟩ l.length c (Lib.byteCells l) (by rw [i2]; simp [Lib.byteCells]) (fun j y hj => by
            have hjl : j < l.length := by have := (List.getElem?_eq_some_iff.1 hj).1; simpa [Lib.byteCells] using this
            rw [← hc4, List.getElem?_take_of_lt (by omega)] at hj
            rw [add_at, Nat.zero_add]
            have hj' : cur[j]? = some y := by rw [← hj]; simp
            have hlt := (Array.getElem?_eq_some_iff.1 hj').1
            simp [World.cell?, hg, hj']) ⟨l2.toArray⟩ (by omega) (by rw [hl2]; omega) (by rw [i3]; exact growslice_fits (by omega) (by rw [hl2, Nat.mul_one]; omega))
          rw [this] at f1
          simp only [Result.ok.injEq] at f1
          obtain ⟨rfl, _⟩ := f1
          cases hi; exact .inr (Nat.le_refl _)
  obtain ⟨v', w', e2, e3, e4, e5⟩ := hkey
  refine wl_new (w' := w') (v := v') ?_ (kk v' w' v'.ownBlock e4 (owO_of_row e3) e3 e5)
  show (execOp (ev σ) _).run P w = _
  simp [execOp, resolve, invoke, builtin, hsv, hxv, e2]
end Go.Proofs.YthcclgoidchkdaaDoorC
