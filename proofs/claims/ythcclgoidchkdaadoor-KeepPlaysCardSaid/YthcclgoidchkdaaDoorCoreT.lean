/- Texts gone through rune by rune; scopes; a rune's text; each rule holds of whatever program. -/
import Derived.Test.YthcclgoidchkdaaDoorStr
import Derived.Scope
import Derived.Laws.RangeAny
import Derived.Laws.Runes
set_option linter.unusedVariables false
set_option linter.unusedSimpArgs false
namespace Go.Proofs.YthcclgoidchkdaaDoorC
open Go.RowKit
variable {P : Program} {n : Nat} {Q : Post} {σ : Env} {D : List Deferred} {w : World} {dst : Option Nat} {ty : TypeId} {pos : String} {af : Array Edge} {g : Option (Nat × Bool)}
variable {ops rest : List Oper} {K : Ops}
def NoGo (Q : Post) : Post
  | .goto _ => fun _ _ _ => False
  | e => Q e
/-- A scope that no jump leaves. -/
theorem W_scope {c : Code} (h : W none P n c (NoGo Q) σ D w) : W none P n (.scope c) Q σ D w := by
  intro hk a hs hd
  have h1 := h hk a hs hd
  refine wpIn_wide.2 (wp_scope_straight ?_)
  refine (wpIn_wide.1 (wpIn_mono h1 ?_))
  rintro e a' w' ⟨σ', h2, h3⟩
  cases e with
  | goto t => exact h3.elim
  | _ => exact ⟨σ', h2, h3⟩
theorem size_str (s : Str) : (ByteArray.mk s.toArray).size = s.length := by simp [ByteArray.size]
theorem get_str (s : Str) (i : Nat) (h : i < (ByteArray.mk s.toArray).size) : (ByteArray.mk s.toArray)[i]'h = s[i]'(by rw [size_str] at h; exact h) := rfl
/-- Block b goes through s, and stands at i. -/
def IsIt (w : World) (b : Nat) (s : Str) (i : Nat) : Prop := w.heap[b]? = some (.stringIter ⟨s.toArray⟩ i)
theorem IsIt.ext {M : Nat → Prop} {w w' : World} {b : Nat} {s : Str} {i : Nat} (h : IsIt w b s i) (hE : Ext M w w') (hm : ¬ M b) : IsIt w' b s i := hE.obj h hm
theorem IsIt.lt {w : World} {b : Nat} {s : Str} {i : Nat} (h : IsIt w b s i) : b < w.heap.size := (Array.getElem?_eq_some_iff.1 h).1
theorem wl_rangeS {t : TypeId} (hu : P.underlying t = some .string) {x : Operand} {s : Str} {d : Nat} (hx : ev σ x = Sv s)
    (kk : ∀ b w', w.heap.size ≤ b → Ext Non w w' → IsIt w' b s 0 → wl P ops rest K (upd σ d (.pointer (some ⟨b, 0, none⟩))) w') : wl P ops (⟨some d, .range t x, ty, pos, af, none⟩ :: rest) K σ w := by
  refine wl_new (P := P) (w' := w.iter ⟨s.toArray⟩ 0) (v := .pointer (some ⟨w.heap.size, 0, none⟩)) ?_ (kk _ _ (Nat.le_refl _) (Ext.alloc w _) (World.iter_heap w _ 0))
  show (execOp (ev σ) _).run P w = _
  simp [execOp, hx, run_range_string w t _ hu]
def dec (s : Str) (i : Nat) : Nat × Nat := Utf8.decode ⟨s.toArray⟩ i
def nxA (s : Str) (i : Nat) : Array Value := if i < s.length then #[.bool true, .int .i64 (i : Nat), .int .i32 ((dec s i).1 : Nat)] else #[.bool false]
def nxP (s : Str) (i : Nat) : Nat := if i < s.length then i + (dec s i).2 else i
theorem nx0 (s : Str) (i : Nat) : (nxA s i)[0]? = some (.bool (decide (i < s.length))) := by unfold nxA; split <;> simp_all
theorem nx1 {s : Str} {i : Nat} (h : i < s.length) : (nxA s i)[1]? = some (.int .i64 (i : Nat)) := by unfold nxA; rw [if_pos h]; rfl
theorem nx2 {s : Str} {i : Nat} (h : i < s.length) : (nxA s i)[2]? = some (.int .i32 ((dec s i).1 : Nat)) := by unfold nxA; rw [if_pos h]; rfl
theorem wl_nextS {x : Operand} {s : Str} {b i d : Nat} (hx : ev σ x = .pointer (some ⟨b, 0, none⟩)) (hI : IsIt w b s i)
    (kk : ∀ w', Ext (fun j => j = b) w w' → w'.heap.size = w.heap.size → IsIt w' b s (nxP s i) → wl P ops rest K (upd σ d (.tuple (nxA s i))) w') : wl P ops (⟨some d, .next x true, ty, pos, af, none⟩ :: rest) K σ w := by
  have hlt := hI.lt
  unfold IsIt at hI
  by_cases h : i < s.length
  · have h2 : i < (ByteArray.mk s.toArray).size := by rw [size_str]; exact h
    refine wl_new (P := P) (w' := w.putObj b (.stringIter ⟨s.toArray⟩ (i + (dec s i).2))) (v := .tuple (nxA s i)) ?_ (kk _ (Ext.putObj _ _ _ _ rfl) (by simp [World.putObj]) ?_)
    · show (execOp (ev σ) _).run P w = _
      unfold nxA dec
      simp only [execOp, hx, Instr.next, getObj, setObj, Sem.run_bind, Sem.run, hI, Result.andThen, h2, h, if_true]
      simp [goInt, World.putObj, Sem.run, hI, hlt]
    · unfold IsIt nxP; rw [if_pos h]; exact World.putObj_heap_same hlt
  · have h2 : ¬ i < (ByteArray.mk s.toArray).size := by rw [size_str]; exact h
    refine wl_new (P := P) (w' := w) (v := .tuple (nxA s i)) ?_ (kk _ (Ext.refl _ _) rfl ?_)
    · show (execOp (ev σ) _).run P w = _
      unfold nxA
      simp [execOp, hx, Instr.next, getObj, Sem.run, hI, h2, h]
    · unfold IsIt nxP; rw [if_neg h]; exact hI
theorem rn_runeText {s t : TypeId} {x : Operand} {k : IntKind} {r : Int} (hs : (P.underlying s).isSome = true) (ht : P.underlying t = some .string) (hx : ev σ x = .int k r) : Rn P σ w ⟨dst, .convert s t x, ty, pos, af, g⟩ (.string (Utf8.encode r)) := by
  show (execOp (ev σ) _).run P w = _
  simp [execOp, hx, run_convert_int_string w s t k r hs ht]
/-- What stands at a place, rune by rune. -/
theorem dec_low {s : Str} {i : Nat} {c : UInt8} (h : s[i]? = some c) (hc : c.toNat < 128) : dec s i = (c.toNat, 1) := by
  obtain ⟨hlt, e⟩ := List.getElem?_eq_some_iff.1 h
  have h2 : i < (ByteArray.mk s.toArray).size := by rw [size_str]; exact hlt
  have := decode_ascii ⟨s.toArray⟩ i h2 (by rw [get_str, e]; exact hc)
  unfold dec; rw [this, get_str, e]
theorem getb (s : Str) (i : Nat) (h : i < s.length) : (ByteArray.mk s.toArray).get! i = s[i] := by
  have h2 : i < (ByteArray.mk s.toArray).size := by rw [size_str]; exact h
  have := get_at ⟨s.toArray⟩ i h2
  rw [Nat.add_zero] at this
  rw [this]; rfl
theorem dec_high {s : Str} {i : Nat} {c : UInt8} (h : s[i]? = some c) (hc : 128 ≤ c.toNat) :
    128 ≤ (dec s i).1 ∧ 1 ≤ (dec s i).2 ∧ Utf8.valid ((dec s i).1 : Nat) = true ∧ ∀ j, i ≤ j → j < i + (dec s i).2 → ∃ x, s[j]? = some x ∧ 128 ≤ x.toNat := by
  obtain ⟨hlt, e⟩ := List.getElem?_eq_some_iff.1 h
  have h2 : i < (ByteArray.mk s.toArray).size := by rw [size_str]; exact hlt
  have hh := decode_high ⟨s.toArray⟩ i h2 (by rw [get_str, e]; exact hc)
  refine ⟨hh.1, hh.2, ?_⟩
  have hb0 : ((ByteArray.mk s.toArray).get! (i + 0)).toNat = c.toNat := by rw [Nat.add_zero, getb s i hlt, e]
  have hn : ¬ c.toNat < 128 := by omega
  have hsz : (ByteArray.mk s.toArray).size = s.length := size_str s
  have one : ∀ j, i ≤ j → j < i + 1 → ∃ x, s[j]? = some x ∧ 128 ≤ x.toNat := fun j h1 h2 => by
    obtain rfl : j = i := by omega
    exact ⟨c, h, hc⟩
  have ct : ∀ k, (decide (i + k < (ByteArray.mk s.toArray).size) && ((ByteArray.mk s.toArray).get! (i + k)).toNat / 64 == 2) = true → ∃ x, s[i + k]? = some x ∧ 128 ≤ x.toNat := fun k hk => by
    rw [Bool.and_eq_true, decide_eq_true_eq, hsz] at hk
    refine ⟨s[i + k]'hk.1, List.getElem?_eq_getElem hk.1, ?_⟩
    have := hk.2
    rw [getb s (i + k) hk.1] at this
    have := eq_of_beq this
    omega
  have hc8 := UInt8.toNat_lt c
  have hv : ∀ r : Nat, r = Utf8.runeError → Utf8.valid (r : Nat) = true := fun r hr => by subst hr; decide
  unfold dec
  unfold Utf8.decode
  simp only [hb0, hn, if_false]
  split
  · rename_i hq
    rw [Bool.and_eq_true] at hq
    split
    · refine ⟨?_, fun j h1 h2 => ?_⟩
      · unfold Utf8.valid; simp; omega
      · rcases Nat.lt_or_ge j (i + 1) with h3 | h3
        · exact one j h1 h3
        · obtain rfl : j = i + 1 := by simp at h2; omega
          exact ct 1 hq.2
    · exact ⟨hv _ rfl, one⟩
  · split
    · rename_i hq
      simp only [Bool.and_eq_true] at hq
      split
      · rename_i hr
        simp only [Bool.and_eq_true] at hr
        refine ⟨hr.2, fun j h1 h2 => ?_⟩
        have h2 : j < i + 3 := h2
        rcases Nat.lt_or_ge j (i + 1) with h3 | h3
        · exact one j h1 h3
        · rcases Nat.lt_or_ge j (i + 2) with h4 | h4
          · obtain rfl : j = i + 1 := by omega
            exact ct 1 (by simpa using hq.1.2)
          · obtain rfl : j = i + 2 := by omega
            exact ct 2 (by simpa using hq.2)
      · exact ⟨hv _ rfl, one⟩
    · split
      · rename_i hq
        simp only [Bool.and_eq_true] at hq
        split
        · rename_i hr
          simp only [Bool.and_eq_true] at hr
          refine ⟨hr.2, fun j h1 h2 => ?_⟩
          have h2 : j < i + 4 := h2
          rcases Nat.lt_or_ge j (i + 1) with h3 | h3
          · exact one j h1 h3
          · rcases Nat.lt_or_ge j (i + 2) with h4 | h4
            · obtain rfl : j = i + 1 := by omega
              exact ct 1 (by simpa using hq.1.1.2)
            · rcases Nat.lt_or_ge j (i + 3) with h5 | h5
              · obtain rfl : j = i + 2 := by omega
                exact ct 2 (by simpa using hq.1.2)
              · obtain rfl : j = i + 3 := by omega
                exact ct 3 (by simpa using hq.2)
        · exact ⟨hv _ rfl, one⟩
      · exact ⟨hv _ rfl, one⟩
end Go.Proofs.YthcclgoidchkdaaDoorC
