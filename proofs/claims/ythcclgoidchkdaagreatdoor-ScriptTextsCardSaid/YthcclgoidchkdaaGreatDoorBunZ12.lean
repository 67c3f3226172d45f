/- Rows of rows, as an argument reads; a script. -/
import Derived.Test.YthcclgoidchkdaaGreatDoorBunZ11
import Derived.Test.YthcclgoidchkdaaGreatDoorBunZ10
set_option linter.unusedVariables false
set_option linter.unusedSimpArgs false
namespace Go.Proofs.YthcclgoidchkdaaGreatDoorC
open Go.RowKit Go.ChangeShapes Go.Deep
section
variable {P : Program} {H : Type} {enc : TypeId × Value → H} {w : World} {base : Nat} {spare : Nat → Bool} {held : Bool}
/-- A slice reads as rows, each with its datum. -/
theorem rows_trod {t e : TypeId} {k bytes : Nat} {z : List Value} (hT : SliceT P t e k bytes z) (hk0 : 0 < k) {fuel : Nat} {cs : List Value} {x : DataW H × List MemPlace} (h : DataW.trod enc P w base spare held fuel t cs = some x) :
    ∃ (v : Value) (rows : List (List Value)), cs = [v] ∧ Sl Non w v k rows ∧ (rows = [] ∨ ∃ (D rest : List (DataW H)), x.1 = .slice D rest ∧ D.length = rows.length ∧ ∀ r ∈ rows, ∃ n d p, d ∈ D ∧ DataW.trod enc P w base spare held n e r = some (d, p)) := by
  rcases open_slice hT.under h with ⟨h1, h2⟩ | ⟨a', len, cap, m, n', D, Pl, h1, h2, h3, h4, h5, h6, h7⟩
  · exact ⟨_, [], h1, Sl.nil _ _ _, .inl rfl⟩
  · subst h1
    obtain ⟨inf, v0, i1, i2, i3, i4, i5⟩ := hT.inf
    have hce : P.cellsOf e = k := by simp [Program.cellsOf, i1, i2]
    obtain ⟨l, rfl⟩ : ∃ l, len = l := ⟨_, rfl⟩
    have hm : len ≤ m := by rw [h5]; split <;> omega
    have hx : ∀ i, i < len → ∃ cs', w.cells? base (a'.add (i * k)) k = some cs' ∧ DataW.trod enc P w base spare held n' e cs' = some (D i, Pl i) := fun i hi => by
      obtain ⟨cs', g1, g2⟩ := h7 i (by omega)
      rw [hce] at g1
      exact ⟨cs', g1, g2⟩
    have hrows : ∀ m, m ≤ len → ∃ rows : List (List Value), rows.length = m ∧ (∀ i (hi : i < m), ∃ r, rows[i]? = some r ∧ w.cells? base (a'.add (i * k)) k = some r) ∧ (∀ r ∈ rows, ∃ i, i < len ∧ r.length = k ∧ DataW.trod enc P w base spare held n' e r = some (D i, Pl i)) := by
      intro m
      induction m with
      | zero => intro _; exact ⟨[], rfl, by omega, by simp⟩
      | succ m ih =>
        intro hm
        obtain ⟨rows, r1, r2, r3⟩ := ih (by omega)
        obtain ⟨r, g1, g2⟩ := hx m (by omega)
        refine ⟨rows ++ [r], by simp [r1], fun i hi => ?_, ?_⟩
        · by_cases hlt : i < m
          · obtain ⟨r', q1, q2⟩ := r2 i hlt
            exact ⟨r', by rw [List.getElem?_append_left (by omega)]; exact q1, q2⟩
          · have : i = m := by omega
            subst this
            exact ⟨r, by rw [List.getElem?_append_right (by omega), r1]; simp, g1⟩
        · intro r' hr'
          rcases List.mem_append.1 hr' with hr' | hr'
          · exact r3 r' hr'
          · simp only [List.mem_singleton] at hr'; rw [hr']
            obtain ⟨_, q3, _⟩ := World.cells?_some g1
            exact ⟨m, by omega, q3, g2⟩
    obtain ⟨rows, r1, r2, r3⟩ := hrows len (Nat.le_refl _)
    have heach : ∀ r ∈ rows, r.length = k := fun r hr => by obtain ⟨_, _, h, _⟩ := r3 r hr; exact h
    refine ⟨_, rows, rfl, ⟨⟨some a', cap, by rw [r1], by omega, by simp only [maxLen, big] at *; omega, ?_⟩, heach⟩, .inr ⟨_, _, by rw [h6], by simp [r1], fun r hr => ?_⟩⟩
    rotate_left
    · obtain ⟨i, hi, _, hi2⟩ := r3 r hr
      exact ⟨n', D i, Pl i, List.mem_map.2 ⟨i, List.mem_range.2 hi, rfl⟩, hi2⟩
    by_cases hl0 : len = 0
    · exact .inl (List.length_eq_zero_iff.1 (by omega))
    · have hcell : ∀ i, i < len → ∀ j, j < k → w.cell? ((a'.add (i * k)).add j) = (rows[i]?.getD [])[j]? ∧ ((rows[i]?.getD []).length = k) := fun i hi j hj => by
        obtain ⟨r, q1, q2⟩ := r2 i hi
        obtain ⟨_, q3, q4⟩ := World.cells?_some q2
        rw [q1]; exact ⟨q4 j hj, q3⟩
      have hspot : a'.spot = none := by
        obtain ⟨q1, q2⟩ := hcell 0 (by omega) 0 hk0
        rw [List.getElem?_eq_getElem (by omega)] at q1
        rw [Nat.zero_mul] at q1
        have e : (a'.add 0).add 0 = a' := by simp [Addr.add]
        rw [e] at q1
        unfold World.cell? at q1
        split at q1
        · cases hs : a'.spot with
          | none => rfl
          | some _ => simp [hs] at q1
        · cases q1
      obtain ⟨b, o, sp⟩ := a'
      simp only at hspot; subst hspot
      have hb : b < w.heap.size := by
        obtain ⟨q1, q2⟩ := hcell 0 (by omega) 0 hk0
        rw [List.getElem?_eq_getElem (by omega), add_at, add_at] at q1
        exact World.block_lt_of_cell? w _ q1
      refine .inr ⟨b, o, rfl, hb, id, fun j hj => ?_⟩
      rw [flat_len heach] at hj
      have hi : j / k < len := by rw [← r1]; exact Nat.div_lt_of_lt_mul (by rw [Nat.mul_comm]; exact hj)
      have hjm : j % k < k := Nat.mod_lt _ hk0
      have q := (hcell (j / k) hi (j % k) hjm).1
      rw [add_at, add_at] at q
      have e : o + j / k * k + j % k = o + j := by rw [Nat.add_assoc, Nat.div_add_mod']
      rw [e] at q
      rw [q]
      have e2 := flat_at heach (j / k) (j % k) (by omega) hjm
      rw [Nat.div_add_mod'] at e2
      rw [e2, List.getElem?_eq_getElem (by omega : j / k < rows.length)]; rfl
theorem weights_mem {e : TypeId} : ∀ {L : List (DataW H)}, (DataW.weightsAll P e L).all (· ≤ reachBytes) = true → ∀ d ∈ L, (d.weights P e).all (· ≤ reachBytes) = true
  | [], _, d, hd => by cases hd
  | x :: L, h, d, hd => by
    simp only [DataW.weightsAll, List.all_append, Bool.and_eq_true] at h
    rcases List.mem_cons.1 hd with rfl | hd
    · exact h.1
    · exact weights_mem h.2 d hd
theorem weights_slice {t e : TypeId} (ht : P.underlying t = some (.slice e)) {D rest : List (DataW H)} (h : ((DataW.slice D rest).weights P t).all (· ≤ reachBytes) = true) : (D.length + rest.length) * P.bytesOf e ≤ reachBytes ∧ (DataW.weightsAll P e D).all (· ≤ reachBytes) = true := by
  simp only [DataW.weights, ht, List.all_cons, List.all_append, Bool.and_eq_true, decide_eq_true_eq] at h
  exact ⟨h.1, h.2.1⟩
theorem ps_of {B : Nat} : ∀ (rows : List (List Value)), (∀ r ∈ rows, ∃ (v : Value) (l : List OpD), r = [v] ∧ Sl Non w v 5 (l.map OpD.enc) ∧ l.length ≤ B) → ∃ ps : List (Value × List OpD), rows = ps.map (fun p => [p.1]) ∧ ∀ p ∈ ps, Sl Non w p.1 5 (p.2.map OpD.enc) ∧ p.2.length ≤ B
  | [], _ => ⟨[], rfl, fun p hp => by cases hp⟩
  | r :: rows, h => by
    obtain ⟨ps, h1, h2⟩ := ps_of rows (fun x hx => h x (by simp [hx]))
    obtain ⟨v, l, rfl, hs, hl⟩ := h r (by simp)
    exact ⟨(v, l) :: ps, by rw [h1]; rfl, fun p hp => by rcases List.mem_cons.1 hp with rfl | hp; exact ⟨hs, hl⟩; exact h2 p hp⟩
end
end Go.Proofs.YthcclgoidchkdaaGreatDoorC
namespace Go.Proofs.YthcclgoidchkdaaGreatDoor
open Go.RowKit Go.Proofs.YthcclgoidchkdaaGreatDoorC Go.ChangeShapes
set_option maxHeartbeats 1600000 in
set_option maxRecDepth 100000 in
theorem script_of {H : Type} {enc : TypeId × Value → H} {W : World} {base : Nat} {spare : Nat → Bool} {held : Bool} {v : Value} {d : DataW H} {p : List MemPlace} {W2 : World} {r : Reach} {b0 : Nat} (h : DataW.Trod enc Tryz.prog W base spare held 72 v d p) (hv : Value.okWide Tryz.prog W2 r b0 72 v) (hw : (d.weights Tryz.prog 72).all (· ≤ reachBytes) = true) :
    ∃ (cs : List Value) (s : ScD), v = .agg cs.toArray ∧ ScM Non W cs s ∧ ∀ t ∈ s.threads, t.length ≤ 140737488355328 := by
  obtain ⟨cs, rfl, _⟩ := WideShapes.okWide_struct Tryz.underlying72 hv
  obtain ⟨fuel, h⟩ := h
  obtain ⟨xs, n, _, hx, hl, hlen, hf⟩ := DataW.trod_struct Tryz.underlying72 h
  have hc4 : Tryz.prog.cellsOf 72 = 4 := by kernel_rfl
  have hci : Tryz.prog.cellsOf 3 = 1 := by kernel_rfl
  have hcs : Tryz.prog.cellsOf 70 = 1 := by kernel_rfl
  have hcp : Tryz.prog.cellsOf 23 = 1 := by kernel_rfl
  have hb5 : Tryz.prog.bytesOf 69 = 56 := by kernel_rfl
  rw [hc4] at hl
  obtain ⟨c0, c1, c2, c3, hcl⟩ : ∃ c0 c1 c2 c3, cs.toList = [c0, c1, c2, c3] := by
    change cs.toList.length = 4 at hl
    match h : cs.toList, hl with
    | [c0, c1, c2, c3], _ => exact ⟨c0, c1, c2, c3, rfl⟩
  obtain ⟨x0, x1, x2, x3, rfl⟩ : ∃ x0 x1 x2 x3, xs = [x0, x1, x2, x3] := by
    match xs, hlen with
    | [x0, x1, x2, x3], _ => exact ⟨x0, x1, x2, x3, rfl⟩
  have hf0 := hf 0 _ rfl; have hf1 := hf 1 _ rfl; have hf2 := hf 2 _ rfl; have hf3 := hf 3 _ rfl
  change DataW.trod enc Tryz.prog W base spare held n 3 ((cs.toList.drop 0).take (Tryz.prog.cellsOf 3)) = some x0 at hf0
  change DataW.trod enc Tryz.prog W base spare held n 3 ((cs.toList.drop 1).take (Tryz.prog.cellsOf 3)) = some x1 at hf1
  change DataW.trod enc Tryz.prog W base spare held n 70 ((cs.toList.drop 2).take (Tryz.prog.cellsOf 70)) = some x2 at hf2
  change DataW.trod enc Tryz.prog W base spare held n 23 ((cs.toList.drop 3).take (Tryz.prog.cellsOf 23)) = some x3 at hf3
  rw [hci, hcl] at hf0 hf1; rw [hcs, hcl] at hf2; rw [hcp, hcl] at hf3
  have g0 := flat_of_trod 1 3 _ n _ _ int_flat hf0
  have g1 := flat_of_trod 1 3 _ n _ _ int_flat hf1
  obtain ⟨_, _, e0, ⟨a0, rfl, _⟩, _⟩ := g0.cons
  obtain ⟨_, _, e1, ⟨a1, rfl, _⟩, _⟩ := g1.cons
  simp at e0 e1
  obtain ⟨rfl, _⟩ := e0
  obtain ⟨rfl, _⟩ := e1
  have hd : d = .agg [x0.1, x1.1, x2.1, x3.1] := by have := congrArg Prod.fst hx; simpa using this
  have hw2 : (x2.1.weights Tryz.prog 70).all (· ≤ reachBytes) = true := by
    rw [hd] at hw
    simp only [DataW.weights, Tryz.underlying72] at hw
    simp only [List.map_cons, List.map_nil, DataW.weightsEach, List.all_append, Bool.and_eq_true] at hw
    exact hw.2.2.1
  obtain ⟨vT, rowsT, eT, hST, hrT⟩ := rows_trod sl_70 (by decide) hf2
  obtain ⟨vP, rowsP, eP, hSP, hrP⟩ := rows_trod sl_23 (by decide) hf3
  simp at eT eP
  subst eT; subst eP
  have hpi : ∀ r ∈ rowsP, flatOk [.int .i64] r := fun r hr => by
    rcases hrP with rfl | ⟨D, rest, _, _, h⟩
    · cases hr
    · obtain ⟨n2, d2, p2, _, h2⟩ := h r hr
      exact flat_of_trod 1 _ _ n2 _ _ int_flat h2
  obtain ⟨pk, rfl⟩ := ints_of rowsP hpi
  have hth : ∀ r ∈ rowsT, ∃ (v : Value) (l : List OpD), r = [v] ∧ Sl Non W v 5 (l.map OpD.enc) ∧ l.length ≤ 140737488355328 := fun r hr => by
    rcases hrT with rfl | ⟨D, rest, hD, _, h⟩
    · cases hr
    · rw [hD] at hw2
      have hwD := (weights_slice sl_70.under hw2).2
      obtain ⟨n2, d2, p2, hm, h2⟩ := h r hr
      have hwd := weights_mem hwD d2 hm
      obtain ⟨v2, rows2, e2, hS2, hr2⟩ := rows_trod sl_78 (by decide) h2
      have hfo : ∀ q ∈ rows2, flatOk [.int .i64, .int .i64, .str, .str, .bool] q := fun q hq => by
        rcases hr2 with rfl | ⟨D2, rest2, _, _, h3⟩
        · cases hq
        · obtain ⟨n3, d3, p3, _, h4⟩ := h3 q hq
          exact flat_of_trod 5 _ _ n3 _ _ op_flat h4
      obtain ⟨l, rfl⟩ := ops_of rows2 hfo
      refine ⟨v2, l, e2, hS2, ?_⟩
      rcases hr2 with h0 | ⟨D2, rest2, hD2, hlen2, _⟩
      · have := congrArg List.length h0; simp at this; rw [this]; simp
      · have hD2' : d2 = .slice D2 rest2 := hD2
        rw [hD2'] at hwd
        have hwb := (weights_slice sl_78.under hwd).1
        rw [hb5] at hwb
        rw [List.length_map] at hlen2
        have hrb : reachBytes = 140737488351232 := rfl
        rw [hrb] at hwb
        omega
  obtain ⟨ps, rfl, hps⟩ := ps_of rowsT hth
  refine ⟨[.int .i64 a0, .int .i64 a1, c2, c3], ⟨a0, a1, ps.map (·.2), pk⟩, congrArg Value.agg (by rw [← hcl]), ⟨c2, c3, ps, rfl, rfl, ⟨hST, fun p hp => (hps p hp).1⟩, hSP⟩, fun t ht => ?_⟩
  obtain ⟨p, hp, rfl⟩ := List.mem_map.1 ht
  exact (hps p hp).2
end Go.Proofs.YthcclgoidchkdaaGreatDoor
