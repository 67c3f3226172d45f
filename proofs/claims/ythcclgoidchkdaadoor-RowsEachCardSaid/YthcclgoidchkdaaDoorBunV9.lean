/- Answers read from texts: the program's. -/
import Derived.Test.YthcclgoidchkdaaDoorBunV8
set_option linter.unusedVariables false
set_option linter.unusedSimpArgs false
set_option maxRecDepth 100000
namespace Go.Proofs.YthcclgoidchkdaaDoorC
open Go.RowKit
section
variable {P : Program} {σ : Env} {w : World} {dst : Option Nat} {ty : TypeId} {pos : String} {af : Array Edge} {g : Option (Nat × Bool)}
theorem rn_errE {t u : TypeId} {x : Operand} {e : Value} (ht : P.underlying t = some (.interface (P.methodsAt t))) (hx : ev σ x = e) (he : IsE e) : Rn P σ w ⟨dst, .binOp .eql t x (.const .nilIface) u, ty, pos, af, g⟩ (.bool (!(isErr e))) := by
  rcases he with rfl | ⟨s, z, rfl⟩
  · have h := run_eql_nil_nil (P := P) (w := w) t ht
    show (execOp (ev σ) _).run P w = _
    have h3 : (eqGuard .eql t x (.const .nilIface) .nilIface .nilIface).run P w = .ok () w := by cases x <;> rfl
    simp only [execOp, hx]
    rw [show ev σ (.const .nilIface) = .nilIface from rfl]
    rw [Sem.run_bind, Sem.run_bind, h3, Result.andThen_ok, h]; rfl
  · have h := run_eql_held_nil (P := P) (w := w) t s z ht
    show (execOp (ev σ) _).run P w = _
    have h3 : (eqGuard .eql t x (.const .nilIface) (.iface s z) .nilIface).run P w = .ok () w := by cases x <;> rfl
    simp only [execOp, hx]
    rw [show ev σ (.const .nilIface) = .nilIface from rfl]
    rw [Sem.run_bind, Sem.run_bind, h3, Result.andThen_ok, h]; rfl
end
theorem five_of {l : List Str} (h : l.length = 5) : ∃ a b c d e, l = [a, b, c, d, e] := match l, h with | [a, b, c, d, e], _ => ⟨a, b, c, d, e, rfl⟩
theorem numA_ok {s : Str} {n : Int} (h : Lib.atoiAll s = .ok n) (h1 : n ≤ 1000000) (h2 : -1000000 ≤ n) : numA s = some n := by unfold numA; rw [h]; exact if_pos ⟨h2, h1⟩
theorem numA_no {s : Str} (h : ∀ n, Lib.atoiAll s = .ok n → ¬ (-1000000 ≤ n ∧ n ≤ 1000000)) : numA s = none := by
  unfold numA
  cases hs : Lib.atoiAll s with
  | ok n => exact if_neg (h n hs)
  | _ => rfl
theorem readE {b : Str} {n : Int} (hn : numA b = some n) : readR [sErr, b] = if 0 < n ∧ n ≤ 12 then some ⟨n, 0, 0, mZ⟩ else none := by
  show (if sErr = sErr then (match numA b with | some n => if 0 < n ∧ n ≤ 12 then some (⟨n, 0, 0, mZ⟩ : AnsD) else none | none => none) else none) = _
  rw [if_pos rfl, hn]
theorem readE0 {b : Str} (hn : numA b = none) : readR [sErr, b] = none := by
  show (if sErr = sErr then (match numA b with | some n => if 0 < n ∧ n ≤ 12 then some (⟨n, 0, 0, mZ⟩ : AnsD) else none | none => none) else none) = _
  rw [if_pos rfl, hn]
theorem read3 {x y : Str} {m n : Int} (hx : numA x = some m) (hy : numA y = some n) : readR [sOk, x, y] = some ⟨0, m, n, mZ⟩ := by
  show (if sOk = sOk then (match numA x, numA y with | some m, some n => some (⟨0, m, n, mZ⟩ : AnsD) | _, _ => none) else none) = _
  rw [if_pos rfl, hx, hy]
theorem read30 {x y : Str} (h : numA x = none ∨ numA y = none) : readR [sOk, x, y] = none := by
  show (if sOk = sOk then (match numA x, numA y with | some m, some n => some (⟨0, m, n, mZ⟩ : AnsD) | _, _ => none) else none) = _
  rw [if_pos rfl]
  rcases h with h | h
  · rw [h]
  · rw [h]; cases numA x <;> rfl
theorem read6_eq (x y t p k : Str) : readR [sOk, x, y, t, p, k] = match numA x, numA y with | some m, some n => (match unR t, unR p with | some tt, some pp => some ⟨0, m, n, ⟨tt, pp, decide (k = sKept)⟩⟩ | _, _ => none) | _, _ => none := by
  show (if sOk = sOk then (match numA x, numA y with | some m, some n => (match unR t, unR p with | some tt, some pp => some (⟨0, m, n, ⟨tt, pp, decide (k = sKept)⟩⟩ : AnsD) | _, _ => none) | _, _ => none) else none) = _
  rw [if_pos rfl]
theorem read6 {x y t p k : Str} {m n : Int} (hx : numA x = some m) (hy : numA y = some n) (ht : (unR t).isSome = true) (hp : (unR p).isSome = true) : readR [sOk, x, y, t, p, k] = some ⟨0, m, n, ⟨(unR t).getD [], (unR p).getD [], decide (k = sKept)⟩⟩ := by
  obtain ⟨tt, ht⟩ := Option.isSome_iff_exists.1 ht
  obtain ⟨pp, hp⟩ := Option.isSome_iff_exists.1 hp
  rw [read6_eq, hx, hy, ht, hp]; rfl
theorem read60 {x y t p k : Str} (h : numA x = none ∨ numA y = none) : readR [sOk, x, y, t, p, k] = none := by
  rw [read6_eq]
  rcases h with h | h
  · rw [h]
  · rw [h]; cases numA x <;> rfl
theorem read6n {x y t p k : Str} (h : (unR t).isSome = false ∨ (unR p).isSome = false) : readR [sOk, x, y, t, p, k] = none := by
  have h2 : unR t = none ∨ unR p = none := h.imp isSome_F isSome_F
  rw [read6_eq]
  rcases h2 with h | h
  · rw [h]; cases numA x <;> cases numA y <;> rfl
  · rw [h]; cases numA x <;> cases numA y <;> cases unR t <;> rfl
theorem takeR_no {s : Str} (h : readR (spl 32 s) = none) : takeR s = none := by unfold takeR; rw [h]
theorem takeR_ne {s : Str} {a : AnsD} (h : readR (spl 32 s) = some a) (h2 : ¬ ansR a = s) : takeR s = none := by unfold takeR; rw [h]; exact if_neg h2
theorem takeR_yes {s : Str} {a : AnsD} (h : readR (spl 32 s) = some a) (h2 : ansR a = s) : takeR s = some a := by unfold takeR; rw [h]; exact if_pos h2
-- bellman/rows.number
theorem rnumber_ok (w : World) (s : Str) (hn : s.length ≤ 1000000) (hR : ErrS w) : Fn Tryd.prog 148 #[Sv s] w fun u w' => ∃ (n : Int) (b : Bool), u = .tuple #[.int .i64 n, .bool b] ∧ (b = true → numA s = some n) ∧ (b = false → numA s = none) := by
  have hX := Ext.refl Non w
  refine fn_of_W (args := [_]) Tryd.func148 rfl (by kernel_rfl) rfl ?_
  refine W_seq ?_
  refine W_region ?_
  refine wl_val (rn_assign (by conv => lhs; whnf)) ?_
  refine wl_val (rn_assign (by conv => lhs; whnf)) ?_
  refine wl_nil ?_
  refine W_seq ?_
  refine W_region ?_
  refine wl_val (rn_move (by conv => lhs; whnf)) ?_
  refine wl_call e_147 rfl (atoi_ok w s hn hR) ?_; intro v8 w1 hE1 hR1
  replace hX := hX.tr hE1
  obtain ⟨n, e, rfl, hA⟩ := hR1
  refine wl_val (rn_move (by conv => lhs; whnf)) ?_
  refine wl_val (rn_extract rfl rfl) ?_
  refine wl_val (rn_extract rfl rfl) ?_
  refine wl_val (rn_assign (by conv => lhs; whnf)) ?_
  refine wl_val (rn_assign (by conv => lhs; whnf)) ?_
  refine wl_nil ?_
  refine W_seq ?_
  refine W_region ?_
  refine wl_val (rn_move (by conv => lhs; whnf)) ?_
  refine wl_val (rn_move (by conv => lhs; whnf)) ?_
  refine wl_val (rn_errE (by kernel_rfl) rfl hA.is) ?_
  refine wl_val (rn_move (by conv => lhs; whnf)) ?_
  refine wl_split (d := 14) rfl (fun hg14 => ?_) (fun hg14 => ?_)
  · have hg14 : (!isErr e) = true := hg14
    have h14 : isErr e = false := by simpa using hg14
    have hok : Lib.atoiAll s = .ok n := by rcases hA with ⟨_, h⟩ | ⟨⟨_, _, h⟩, _⟩; exact h; subst h; cases h14
    refine wl_yes rfl (congrArg Value.bool hg14) ?_
    refine wl_val (rn_move (by conv => lhs; whnf)) ?_
    refine wl_yes rfl (congrArg Value.bool hg14) ?_
    refine wl_val (rn_leq rfl rfl) ?_
    refine wl_val (rn_pickT (congrArg Value.bool hg14) (by conv => lhs; whnf)) ?_
    refine wl_val (rn_move (by conv => lhs; whnf)) ?_
    refine wl_split (d := 18) rfl (fun hg18 => ?_) (fun hg18 => ?_)
    · have q18 := of_decide_eq_true hg18
      refine wl_yes rfl (congrArg Value.bool hg18) ?_
      refine wl_val (rn_move (by conv => lhs; whnf)) ?_
      refine wl_yes rfl (congrArg Value.bool hg18) ?_
      refine wl_val (rn_geq rfl rfl) ?_
      refine wl_val (rn_pickT (congrArg Value.bool hg18) (by conv => lhs; whnf)) ?_
      refine wl_val (rn_assign (by conv => lhs; whnf)) ?_
      refine wl_val (rn_assign (by conv => lhs; whnf)) ?_
      refine wl_nil ?_
      refine W_ret ?_
      first | exact ⟨_, resR2 (res1_tmp rfl) (res1_tmp rfl), hX, ⟨n, _, rfl, fun h => numA_ok hok q18 (of_decide_eq_true h), fun h => numA_no fun m hm hr => of_decide_eq_false h (by rw [hok] at hm; injection hm with hm; rw [hm]; exact hr.1)⟩⟩ | exact ⟨_, resR2 (res1_tmp rfl) (res1_tmp rfl), hX, ⟨n, _, rfl, fun h => (by cases h), fun h => numA_no fun m hm hr => q18 (by rw [hok] at hm; injection hm with hm; rw [hm]; exact hr.2)⟩⟩ | exact ⟨_, resR2 (res1_tmp rfl) (res1_tmp rfl), hX, ⟨n, _, rfl, fun h => (by cases h), fun h => numA_no fun m hm _ => hno m hm⟩⟩
    · have q18 := of_decide_eq_false hg18
      refine wl_no rfl (congrArg Value.bool hg18) ?_
      refine wl_no rfl (congrArg Value.bool hg18) ?_
      refine wl_val (rn_pickF (congrArg Value.bool hg18) (by conv => lhs; whnf)) ?_
      refine wl_val (rn_assign (by conv => lhs; whnf)) ?_
      refine wl_val (rn_assign (by conv => lhs; whnf)) ?_
      refine wl_nil ?_
      refine W_ret ?_
      first | exact ⟨_, resR2 (res1_tmp rfl) (res1_tmp rfl), hX, ⟨n, _, rfl, fun h => numA_ok hok q18 (of_decide_eq_true h), fun h => numA_no fun m hm hr => of_decide_eq_false h (by rw [hok] at hm; injection hm with hm; rw [hm]; exact hr.1)⟩⟩ | exact ⟨_, resR2 (res1_tmp rfl) (res1_tmp rfl), hX, ⟨n, _, rfl, fun h => (by cases h), fun h => numA_no fun m hm hr => q18 (by rw [hok] at hm; injection hm with hm; rw [hm]; exact hr.2)⟩⟩ | exact ⟨_, resR2 (res1_tmp rfl) (res1_tmp rfl), hX, ⟨n, _, rfl, fun h => (by cases h), fun h => numA_no fun m hm _ => hno m hm⟩⟩
  · have hg14 : (!isErr e) = false := hg14
    have h14 : isErr e = true := by simpa using hg14
    have hno : ∀ m, Lib.atoiAll s ≠ .ok m := by rcases hA with ⟨h, _⟩ | ⟨_, h⟩; subst h; cases h14; exact h
    refine wl_no rfl (congrArg Value.bool hg14) ?_
    refine wl_no rfl (congrArg Value.bool hg14) ?_
    refine wl_val (rn_pickF (congrArg Value.bool hg14) (by conv => lhs; whnf)) ?_
    refine wl_val (rn_move (by conv => lhs; whnf)) ?_
    refine wl_no rfl rfl ?_
    refine wl_no rfl rfl ?_
    refine wl_val (rn_pickF rfl (by conv => lhs; whnf)) ?_
    refine wl_val (rn_assign (by conv => lhs; whnf)) ?_
    refine wl_val (rn_assign (by conv => lhs; whnf)) ?_
    refine wl_nil ?_
    refine W_ret ?_
    first | exact ⟨_, resR2 (res1_tmp rfl) (res1_tmp rfl), hX, ⟨n, _, rfl, fun h => numA_ok hok q18 (of_decide_eq_true h), fun h => numA_no fun m hm hr => of_decide_eq_false h (by rw [hok] at hm; injection hm with hm; rw [hm]; exact hr.1)⟩⟩ | exact ⟨_, resR2 (res1_tmp rfl) (res1_tmp rfl), hX, ⟨n, _, rfl, fun h => (by cases h), fun h => numA_no fun m hm hr => q18 (by rw [hok] at hm; injection hm with hm; rw [hm]; exact hr.2)⟩⟩ | exact ⟨_, resR2 (res1_tmp rfl) (res1_tmp rfl), hX, ⟨n, _, rfl, fun h => (by cases h), fun h => numA_no fun m hm _ => hno m hm⟩⟩
-- bellman/rows.read
set_option maxHeartbeats 6400000 in
theorem read_ok (w : World) (l : List Str) (hne : l ≠ []) (hln : ∀ a ∈ l, a.length ≤ 4000) {v : Value} (hs : Sl Non w v 1 (l.map eS1)) (hR : ErrS w) : Fn Tryd.prog 103 #[v] w fun u w' => ∃ (a : AnsD) (b : Bool), u = .tuple #[.agg a.enc.toArray, .bool b] ∧ (b = true → readR l = some a) ∧ (b = false → readR l = none) := by
  obtain ⟨h, r, rfl⟩ : ∃ h r, l = h :: r := by cases l with | nil => exact absurd rfl hne | cons h r => exact ⟨h, r, rfl⟩
  have hTw := hR.two
  obtain ⟨al, cl, rfl, hbl⟩ := id hs.len
  obtain ⟨bb, oo, ea⟩ := hs.base (by simp); subst ea
  simp only [List.length_map] at hs hbl ⊢
  replace hs := sl_up hs rfl
  have hX := Ext.refl Non w
  refine fn_of_W (args := [_]) Tryd.func103 rfl (by kernel_rfl) rfl ?_
  refine W_seq ?_
  refine W_region ?_
  refine wl_alloc z_34 ?_; intro b2 w1 hb2 hE1 hB2
  have hq2 : w.heap.size ≤ b2 := Nat.le_trans hX.size hb2
  have hl2 : Mine Non w b2 := .inr hq2
  replace hX := hX.tr hE1
  replace hs := hs.ext hE1 (fun _ h => h.elim)
  replace hR := hR.non hE1
  refine wl_val (rn_assign (by conv => lhs; whnf)) ?_
  refine wl_nil ?_
  refine W_seq ?_
  refine W_block ?_   -- block 0
  refine W_seq ?_
  refine W_region ?_
  refine wl_val (rn_move (by conv => lhs; whnf)) ?_
  refine wl_val (rn_len sl_68 rfl) ?_
  refine wl_val (rn_eql rfl rfl) ?_
  refine wl_val (rn_move (by conv => lhs; whnf)) ?_
  refine wl_split (d := 14) rfl (fun hg14 => ?_) (fun hg14 => ?_)
  · have q14 : ((h :: r).length : Int) = 2 := of_decide_eq_true hg14
    obtain ⟨b, rfl⟩ := one_of (a := h) (r := r) (by omega)
    refine wl_yes rfl (congrArg Value.bool hg14) ?_
    refine wl_val (rn_move (by conv => lhs; whnf)) ?_
    refine wl_yes rfl (congrArg Value.bool hg14) ?_
    refine wl_val (rn_indexAddr sl_68 rfl rfl (by simp only [List.length_cons, List.length_nil]; omega)) ?_
    refine wl_yes rfl (congrArg Value.bool hg14) ?_
    refine wl_val (rn_load p_9 rfl (hs.at0 (eS_at (i := 0) (x := h) rfl) rfl)) ?_
    refine wl_yes rfl (congrArg Value.bool hg14) ?_
    refine wl_val (rn_seql rfl rfl) ?_
    refine wl_val (rn_pickT (congrArg Value.bool hg14) (by conv => lhs; whnf)) ?_
    refine wl_val (rn_assign (by conv => lhs; whnf)) ?_
    refine wl_nil ?_
    refine W_cond rfl (fun hc0 => ?_) (fun hc0 => ?_)
    · obtain rfl : h = sErr := of_decide_eq_true hc0
      refine W_seq ?_
      refine W_region ?_
      refine wl_val (rn_move (by conv => lhs; whnf)) ?_
      refine wl_val (rn_indexAddr sl_68 rfl rfl (by simp only [List.length_cons, List.length_nil]; omega)) ?_
      refine wl_val (rn_load p_9 rfl (hs.at0 (eS_at (i := 1) (x := b) rfl) rfl)) ?_
      refine wl_call e_148 rfl (rnumber_ok w1 b (by have := hln b (by simp); omega) hR) ?_; intro v24 w2 hE2 hR2
      replace hX := hX.tr hE2
      replace hB2 := hB2.ext hE2 id
      replace hs := hs.ext hE2 (fun _ h => h.elim)
      replace hR := hR.non hE2
      obtain ⟨n, o, rfl, hy1, hy0⟩ := hR2
      refine wl_val (rn_move (by conv => lhs; whnf)) ?_
      refine wl_val (rn_extract rfl rfl) ?_
      refine wl_val (rn_extract rfl rfl) ?_
      refine wl_val (rn_assign (by conv => lhs; whnf)) ?_
      refine wl_val (rn_assign (by conv => lhs; whnf)) ?_
      refine wl_nil ?_
      refine W_seq ?_
      refine W_region ?_
      refine wl_val (rn_move (by conv => lhs; whnf)) ?_
      refine wl_val (rn_fieldAddr f_34_0 (by decide) rfl) ?_
      have hBo := hB2
      refine wl_store1 (b := b2) p_30 rfl (by conv => lhs; whnf) rfl rfl hB2 (Nat.le_of_ble_eq_true rfl) ?_; intro w3 hE3 hB2 hz3
      replace hX := hX.mine hE3 hl2
      replace hs := hs.ext hE3 (fun i h => by subst h; exact hq2)
      replace hR := hR.ext hE3 (B := w.heap.size) (fun j hj => by subst hj; exact hq2) hTw
      refine wl_nil ?_
      refine W_seq ?_
      refine W_region ?_
      refine wl_val (rn_loadB s_34 rfl rfl hB2) ?_
      refine wl_val (rn_move (by conv => lhs; whnf)) ?_
      refine wl_val (rn_move (by conv => lhs; whnf)) ?_
      refine wl_split (d := 31) rfl (fun hg31 => ?_) (fun hg31 => ?_)
      · refine wl_yes rfl (congrArg Value.bool hg31) ?_
        refine wl_val (rn_fieldAddr f_34_0 (by decide) rfl) ?_
        refine wl_yes rfl (congrArg Value.bool hg31) ?_
        refine wl_val (rn_load1 p_30 rfl hB2 rfl) ?_
        refine wl_yes rfl (congrArg Value.bool hg31) ?_
        refine wl_val (rn_gtr rfl rfl) ?_
        refine wl_val (rn_pickT (congrArg Value.bool hg31) (by conv => lhs; whnf)) ?_
        refine wl_val (rn_move (by conv => lhs; whnf)) ?_
        refine wl_split (d := 36) rfl (fun hg36 => ?_) (fun hg36 => ?_)
        · have q36 := of_decide_eq_true hg36
          refine wl_yes rfl (congrArg Value.bool hg36) ?_
          refine wl_val (rn_fieldAddr f_34_0 (by decide) rfl) ?_
          refine wl_yes rfl (congrArg Value.bool hg36) ?_
          refine wl_val (rn_load1 p_30 rfl hB2 rfl) ?_
          refine wl_yes rfl (congrArg Value.bool hg36) ?_
          refine wl_val (rn_leq rfl rfl) ?_
          refine wl_val (rn_pickT (congrArg Value.bool hg36) (by conv => lhs; whnf)) ?_
          have hBo := hB2
          refine wl_storeB s_34 rfl rfl rfl (fun v hv => by have hv2 : v ∈ [Value.int .i64 _, Value.int .i64 _, Value.int .i64 _, Sv _, Sv _, Value.bool _] := hv; simp only [List.mem_cons, List.not_mem_nil, or_false] at hv2; rcases hv2 with rfl | rfl | rfl | rfl | rfl | rfl <;> rfl) hB2 rfl ?_; intro w4 hE4 hB2 hz4
          replace hX := hX.mine hE4 hl2
          replace hs := hs.ext hE4 (fun i h => by subst h; exact hq2)
          replace hR := hR.ext hE4 (B := w.heap.size) (fun j hj => by subst hj; exact hq2) hTw
          refine wl_val (rn_assign (by conv => lhs; whnf)) ?_
          refine wl_nil ?_
          refine W_ret ?_
          first | exact ⟨_, resR2 (res1_box s_34 rfl hB2 rfl) (res1_tmp rfl), hX, ⟨⟨n, 0, 0, mZ⟩, _, rfl, fun h => by rw [readE (hy1 hg31)]; exact if_pos ⟨q36, of_decide_eq_true h⟩, fun h => by rw [readE (hy1 hg31)]; exact if_neg (fun e => of_decide_eq_false h e.2)⟩⟩ | exact ⟨_, resR2 (res1_box s_34 rfl hB2 rfl) (res1_tmp rfl), hX, ⟨⟨n, 0, 0, mZ⟩, _, rfl, fun h => by (cases h; done), fun h => by rw [readE (hy1 hg31)]; exact if_neg (fun e => q36 e.1)⟩⟩ | exact ⟨_, resR2 (res1_box s_34 rfl hB2 rfl) (res1_tmp rfl), hX, ⟨⟨n, 0, 0, mZ⟩, _, rfl, fun h => by (cases h; done), fun h => readE0 (hy0 hg31)⟩⟩ | exact ⟨_, resR2 (res1_box s_34 rfl hB2 rfl) (res1_tmp rfl), hX, ⟨aZ, _, rfl, fun h => by (cases h; done), fun h => readR_none hn1 (.inr hn3)⟩⟩ | exact ⟨_, resR2 (res1_box s_34 rfl hB2 rfl) (res1_tmp rfl), hX, ⟨aZ, _, rfl, fun h => by (cases h; done), fun h => readR_none hn1 (.inl ⟨by simp, by simp⟩)⟩⟩ | exact ⟨_, resR2 (res1_box s_34 rfl hB2 rfl) (res1_tmp rfl), hX, ⟨aZ, _, rfl, fun h => by (cases h; done), fun h => readR_none hn1 (.inl ⟨fun e => q45 (by simp [e]), fun e => q50 (by simp [e])⟩)⟩⟩ | exact ⟨_, resR2 (res1_box s_34 rfl hB2 rfl) (res1_tmp rfl), hX, ⟨⟨0, m, n, mZ⟩, _, rfl, fun h => read3 (hm1 hg74) (hv1 h), fun h => read30 (.inr (hv0 h))⟩⟩ | exact ⟨_, resR2 (res1_box s_34 rfl hB2 rfl) (res1_tmp rfl), hX, ⟨⟨0, m, n, mZ⟩, _, rfl, fun h => by (cases h; done), fun h => read30 (.inl (hm0 hg74))⟩⟩ | exact ⟨_, resR2 (res1_box s_34 rfl hB2 rfl) (res1_tmp rfl), hX, ⟨⟨0, m, n, mZ⟩, _, rfl, fun h => by (cases h; done), fun h => read60 (.inl (hm0 hg74))⟩⟩ | exact ⟨_, resR2 (res1_box s_34 rfl hB2 rfl) (res1_tmp rfl), hX, ⟨⟨0, m, n, mZ⟩, o2, rfl, fun h => (by rw [h] at hc2; cases hc2), fun h => read60 (.inr (hv0 h))⟩⟩ | exact ⟨_, resR2 (res1_box s_34 rfl hB2 rfl) (res1_tmp rfl), hX, ⟨⟨0, m, n, ⟨(unR t).getD [], (unR p).getD [], decide (k = sKept)⟩⟩, _, rfl, fun h => read6 (hm1 hg74) (hv1 hc2) hg108 h, fun h => read6n (.inr h)⟩⟩ | exact ⟨_, resR2 (res1_box s_34 rfl hB2 rfl) (res1_tmp rfl), hX, ⟨⟨0, m, n, ⟨(unR t).getD [], (unR p).getD [], decide (k = sKept)⟩⟩, _, rfl, fun h => by (cases h; done), fun h => read6n (.inl hg108)⟩⟩
        · have q36 := of_decide_eq_false hg36
          refine wl_no rfl (congrArg Value.bool hg36) ?_
          refine wl_no rfl (congrArg Value.bool hg36) ?_
          refine wl_no rfl (congrArg Value.bool hg36) ?_
          refine wl_val (rn_pickF (congrArg Value.bool hg36) (by conv => lhs; whnf)) ?_
          have hBo := hB2
          refine wl_storeB s_34 rfl rfl rfl (fun v hv => by have hv2 : v ∈ [Value.int .i64 _, Value.int .i64 _, Value.int .i64 _, Sv _, Sv _, Value.bool _] := hv; simp only [List.mem_cons, List.not_mem_nil, or_false] at hv2; rcases hv2 with rfl | rfl | rfl | rfl | rfl | rfl <;> rfl) hB2 rfl ?_; intro w5 hE5 hB2 hz5
          replace hX := hX.mine hE5 hl2
          replace hs := hs.ext hE5 (fun i h => by subst h; exact hq2)
          replace hR := hR.ext hE5 (B := w.heap.size) (fun j hj => by subst hj; exact hq2) hTw
          refine wl_val (rn_assign (by conv => lhs; whnf)) ?_
          refine wl_nil ?_
          refine W_ret ?_
          first | exact ⟨_, resR2 (res1_box s_34 rfl hB2 rfl) (res1_tmp rfl), hX, ⟨⟨n, 0, 0, mZ⟩, _, rfl, fun h => by rw [readE (hy1 hg31)]; exact if_pos ⟨q36, of_decide_eq_true h⟩, fun h => by rw [readE (hy1 hg31)]; exact if_neg (fun e => of_decide_eq_false h e.2)⟩⟩ | exact ⟨_, resR2 (res1_box s_34 rfl hB2 rfl) (res1_tmp rfl), hX, ⟨⟨n, 0, 0, mZ⟩, _, rfl, fun h => by (cases h; done), fun h => by rw [readE (hy1 hg31)]; exact if_neg (fun e => q36 e.1)⟩⟩ | exact ⟨_, resR2 (res1_box s_34 rfl hB2 rfl) (res1_tmp rfl), hX, ⟨⟨n, 0, 0, mZ⟩, _, rfl, fun h => by (cases h; done), fun h => readE0 (hy0 hg31)⟩⟩ | exact ⟨_, resR2 (res1_box s_34 rfl hB2 rfl) (res1_tmp rfl), hX, ⟨aZ, _, rfl, fun h => by (cases h; done), fun h => readR_none hn1 (.inr hn3)⟩⟩ | exact ⟨_, resR2 (res1_box s_34 rfl hB2 rfl) (res1_tmp rfl), hX, ⟨aZ, _, rfl, fun h => by (cases h; done), fun h => readR_none hn1 (.inl ⟨by simp, by simp⟩)⟩⟩ | exact ⟨_, resR2 (res1_box s_34 rfl hB2 rfl) (res1_tmp rfl), hX, ⟨aZ, _, rfl, fun h => by (cases h; done), fun h => readR_none hn1 (.inl ⟨fun e => q45 (by simp [e]), fun e => q50 (by simp [e])⟩)⟩⟩ | exact ⟨_, resR2 (res1_box s_34 rfl hB2 rfl) (res1_tmp rfl), hX, ⟨⟨0, m, n, mZ⟩, _, rfl, fun h => read3 (hm1 hg74) (hv1 h), fun h => read30 (.inr (hv0 h))⟩⟩ | exact ⟨_, resR2 (res1_box s_34 rfl hB2 rfl) (res1_tmp rfl), hX, ⟨⟨0, m, n, mZ⟩, _, rfl, fun h => by (cases h; done), fun h => read30 (.inl (hm0 hg74))⟩⟩ | exact ⟨_, resR2 (res1_box s_34 rfl hB2 rfl) (res1_tmp rfl), hX, ⟨⟨0, m, n, mZ⟩, _, rfl, fun h => by (cases h; done), fun h => read60 (.inl (hm0 hg74))⟩⟩ | exact ⟨_, resR2 (res1_box s_34 rfl hB2 rfl) (res1_tmp rfl), hX, ⟨⟨0, m, n, mZ⟩, o2, rfl, fun h => (by rw [h] at hc2; cases hc2), fun h => read60 (.inr (hv0 h))⟩⟩ | exact ⟨_, resR2 (res1_box s_34 rfl hB2 rfl) (res1_tmp rfl), hX, ⟨⟨0, m, n, ⟨(unR t).getD [], (unR p).getD [], decide (k = sKept)⟩⟩, _, rfl, fun h => read6 (hm1 hg74) (hv1 hc2) hg108 h, fun h => read6n (.inr h)⟩⟩ | exact ⟨_, resR2 (res1_box s_34 rfl hB2 rfl) (res1_tmp rfl), hX, ⟨⟨0, m, n, ⟨(unR t).getD [], (unR p).getD [], decide (k = sKept)⟩⟩, _, rfl, fun h => by (cases h; done), fun h => read6n (.inl hg108)⟩⟩
      · refine wl_no rfl (congrArg Value.bool hg31) ?_
        refine wl_no rfl (congrArg Value.bool hg31) ?_
        refine wl_no rfl (congrArg Value.bool hg31) ?_
        refine wl_val (rn_pickF (congrArg Value.bool hg31) (by conv => lhs; whnf)) ?_
        refine wl_val (rn_move (by conv => lhs; whnf)) ?_
        refine wl_no rfl rfl ?_
        refine wl_no rfl rfl ?_
        refine wl_no rfl rfl ?_
        refine wl_val (rn_pickF rfl (by conv => lhs; whnf)) ?_
        have hBo := hB2
        refine wl_storeB s_34 rfl rfl rfl (fun v hv => by have hv2 : v ∈ [Value.int .i64 _, Value.int .i64 _, Value.int .i64 _, Sv _, Sv _, Value.bool _] := hv; simp only [List.mem_cons, List.not_mem_nil, or_false] at hv2; rcases hv2 with rfl | rfl | rfl | rfl | rfl | rfl <;> rfl) hB2 rfl ?_; intro w6 hE6 hB2 hz6
        replace hX := hX.mine hE6 hl2
        replace hs := hs.ext hE6 (fun i h => by subst h; exact hq2)
        replace hR := hR.ext hE6 (B := w.heap.size) (fun j hj => by subst hj; exact hq2) hTw
        refine wl_val (rn_assign (by conv => lhs; whnf)) ?_
        refine wl_nil ?_
        refine W_ret ?_
        first | exact ⟨_, resR2 (res1_box s_34 rfl hB2 rfl) (res1_tmp rfl), hX, ⟨⟨n, 0, 0, mZ⟩, _, rfl, fun h => by rw [readE (hy1 hg31)]; exact if_pos ⟨q36, of_decide_eq_true h⟩, fun h => by rw [readE (hy1 hg31)]; exact if_neg (fun e => of_decide_eq_false h e.2)⟩⟩ | exact ⟨_, resR2 (res1_box s_34 rfl hB2 rfl) (res1_tmp rfl), hX, ⟨⟨n, 0, 0, mZ⟩, _, rfl, fun h => by (cases h; done), fun h => by rw [readE (hy1 hg31)]; exact if_neg (fun e => q36 e.1)⟩⟩ | exact ⟨_, resR2 (res1_box s_34 rfl hB2 rfl) (res1_tmp rfl), hX, ⟨⟨n, 0, 0, mZ⟩, _, rfl, fun h => by (cases h; done), fun h => readE0 (hy0 hg31)⟩⟩ | exact ⟨_, resR2 (res1_box s_34 rfl hB2 rfl) (res1_tmp rfl), hX, ⟨aZ, _, rfl, fun h => by (cases h; done), fun h => readR_none hn1 (.inr hn3)⟩⟩ | exact ⟨_, resR2 (res1_box s_34 rfl hB2 rfl) (res1_tmp rfl), hX, ⟨aZ, _, rfl, fun h => by (cases h; done), fun h => readR_none hn1 (.inl ⟨by simp, by simp⟩)⟩⟩ | exact ⟨_, resR2 (res1_box s_34 rfl hB2 rfl) (res1_tmp rfl), hX, ⟨aZ, _, rfl, fun h => by (cases h; done), fun h => readR_none hn1 (.inl ⟨fun e => q45 (by simp [e]), fun e => q50 (by simp [e])⟩)⟩⟩ | exact ⟨_, resR2 (res1_box s_34 rfl hB2 rfl) (res1_tmp rfl), hX, ⟨⟨0, m, n, mZ⟩, _, rfl, fun h => read3 (hm1 hg74) (hv1 h), fun h => read30 (.inr (hv0 h))⟩⟩ | exact ⟨_, resR2 (res1_box s_34 rfl hB2 rfl) (res1_tmp rfl), hX, ⟨⟨0, m, n, mZ⟩, _, rfl, fun h => by (cases h; done), fun h => read30 (.inl (hm0 hg74))⟩⟩ | exact ⟨_, resR2 (res1_box s_34 rfl hB2 rfl) (res1_tmp rfl), hX, ⟨⟨0, m, n, mZ⟩, _, rfl, fun h => by (cases h; done), fun h => read60 (.inl (hm0 hg74))⟩⟩ | exact ⟨_, resR2 (res1_box s_34 rfl hB2 rfl) (res1_tmp rfl), hX, ⟨⟨0, m, n, mZ⟩, o2, rfl, fun h => (by rw [h] at hc2; cases hc2), fun h => read60 (.inr (hv0 h))⟩⟩ | exact ⟨_, resR2 (res1_box s_34 rfl hB2 rfl) (res1_tmp rfl), hX, ⟨⟨0, m, n, ⟨(unR t).getD [], (unR p).getD [], decide (k = sKept)⟩⟩, _, rfl, fun h => read6 (hm1 hg74) (hv1 hc2) hg108 h, fun h => read6n (.inr h)⟩⟩ | exact ⟨_, resR2 (res1_box s_34 rfl hB2 rfl) (res1_tmp rfl), hX, ⟨⟨0, m, n, ⟨(unR t).getD [], (unR p).getD [], decide (k = sKept)⟩⟩, _, rfl, fun h => by (cases h; done), fun h => read6n (.inl hg108)⟩⟩
    · have hn1 : ¬ ([b].length = 1 ∧ h = sErr) := fun e => of_decide_eq_false hc0 e.2
      refine W_seq ?_
      refine W_region ?_
      refine wl_val (rn_move (by conv => lhs; whnf)) ?_
      refine wl_val (rn_len sl_68 rfl) ?_
      refine wl_val (rn_neq rfl rfl) ?_
      refine wl_val (rn_move (by conv => lhs; whnf)) ?_
      refine wl_split (d := 45) rfl (fun hg45 => ?_) (fun hg45 => ?_)
      · have q45 := of_decide_eq_true hg45
        refine wl_yes rfl (congrArg Value.bool hg45) ?_
        refine wl_val (rn_move (by conv => lhs; whnf)) ?_
        refine wl_yes rfl (congrArg Value.bool hg45) ?_
        refine wl_val (rn_len sl_68 rfl) ?_
        refine wl_yes rfl (congrArg Value.bool hg45) ?_
        refine wl_val (rn_neq rfl rfl) ?_
        refine wl_val (rn_pickT (congrArg Value.bool hg45) (by conv => lhs; whnf)) ?_
        refine wl_val (rn_move (by conv => lhs; whnf)) ?_
        refine wl_split (d := 50) rfl (fun hg50 => ?_) (fun hg50 => ?_)
        · have q50 := of_decide_eq_true hg50
          refine wl_no rfl (congrArg Value.bool hg50) ?_
          refine wl_no rfl (congrArg Value.bool hg50) ?_
          refine wl_no rfl (congrArg Value.bool hg50) ?_
          refine wl_no rfl (congrArg Value.bool hg50) ?_
          refine wl_val (rn_pickT (congrArg Value.bool hg50) (by conv => lhs; whnf)) ?_
          refine wl_val (rn_assign (by conv => lhs; whnf)) ?_
          refine wl_nil ?_
          refine W_condT rfl ?_
          refine W_seq ?_
          refine W_region ?_
          refine wl_val (rn_loadB s_34 rfl rfl hB2) ?_
          have hBo := hB2
          refine wl_storeB s_34 rfl rfl rfl (fun v hv => by have hv2 : v ∈ [Value.int .i64 _, Value.int .i64 _, Value.int .i64 _, Sv _, Sv _, Value.bool _] := hv; simp only [List.mem_cons, List.not_mem_nil, or_false] at hv2; rcases hv2 with rfl | rfl | rfl | rfl | rfl | rfl <;> rfl) hB2 rfl ?_; intro w7 hE7 hB2 hz7
          replace hX := hX.mine hE7 hl2
          replace hs := hs.ext hE7 (fun i h => by subst h; exact hq2)
          replace hR := hR.ext hE7 (B := w.heap.size) (fun j hj => by subst hj; exact hq2) hTw
          refine wl_val (rn_assign (by conv => lhs; whnf)) ?_
          refine wl_nil ?_
          refine W_ret ?_
          first | exact ⟨_, resR2 (res1_box s_34 rfl hB2 rfl) (res1_tmp rfl), hX, ⟨⟨n, 0, 0, mZ⟩, _, rfl, fun h => by rw [readE (hy1 hg31)]; exact if_pos ⟨q36, of_decide_eq_true h⟩, fun h => by rw [readE (hy1 hg31)]; exact if_neg (fun e => of_decide_eq_false h e.2)⟩⟩ | exact ⟨_, resR2 (res1_box s_34 rfl hB2 rfl) (res1_tmp rfl), hX, ⟨⟨n, 0, 0, mZ⟩, _, rfl, fun h => by (cases h; done), fun h => by rw [readE (hy1 hg31)]; exact if_neg (fun e => q36 e.1)⟩⟩ | exact ⟨_, resR2 (res1_box s_34 rfl hB2 rfl) (res1_tmp rfl), hX, ⟨⟨n, 0, 0, mZ⟩, _, rfl, fun h => by (cases h; done), fun h => readE0 (hy0 hg31)⟩⟩ | exact ⟨_, resR2 (res1_box s_34 rfl hB2 rfl) (res1_tmp rfl), hX, ⟨aZ, _, rfl, fun h => by (cases h; done), fun h => readR_none hn1 (.inr hn3)⟩⟩ | exact ⟨_, resR2 (res1_box s_34 rfl hB2 rfl) (res1_tmp rfl), hX, ⟨aZ, _, rfl, fun h => by (cases h; done), fun h => readR_none hn1 (.inl ⟨by simp, by simp⟩)⟩⟩ | exact ⟨_, resR2 (res1_box s_34 rfl hB2 rfl) (res1_tmp rfl), hX, ⟨aZ, _, rfl, fun h => by (cases h; done), fun h => readR_none hn1 (.inl ⟨fun e => q45 (by simp [e]), fun e => q50 (by simp [e])⟩)⟩⟩ | exact ⟨_, resR2 (res1_box s_34 rfl hB2 rfl) (res1_tmp rfl), hX, ⟨⟨0, m, n, mZ⟩, _, rfl, fun h => read3 (hm1 hg74) (hv1 h), fun h => read30 (.inr (hv0 h))⟩⟩ | exact ⟨_, resR2 (res1_box s_34 rfl hB2 rfl) (res1_tmp rfl), hX, ⟨⟨0, m, n, mZ⟩, _, rfl, fun h => by (cases h; done), fun h => read30 (.inl (hm0 hg74))⟩⟩ | exact ⟨_, resR2 (res1_box s_34 rfl hB2 rfl) (res1_tmp rfl), hX, ⟨⟨0, m, n, mZ⟩, _, rfl, fun h => by (cases h; done), fun h => read60 (.inl (hm0 hg74))⟩⟩ | exact ⟨_, resR2 (res1_box s_34 rfl hB2 rfl) (res1_tmp rfl), hX, ⟨⟨0, m, n, mZ⟩, o2, rfl, fun h => (by rw [h] at hc2; cases hc2), fun h => read60 (.inr (hv0 h))⟩⟩ | exact ⟨_, resR2 (res1_box s_34 rfl hB2 rfl) (res1_tmp rfl), hX, ⟨⟨0, m, n, ⟨(unR t).getD [], (unR p).getD [], decide (k = sKept)⟩⟩, _, rfl, fun h => read6 (hm1 hg74) (hv1 hc2) hg108 h, fun h => read6n (.inr h)⟩⟩ | exact ⟨_, resR2 (res1_box s_34 rfl hB2 rfl) (res1_tmp rfl), hX, ⟨⟨0, m, n, ⟨(unR t).getD [], (unR p).getD [], decide (k = sKept)⟩⟩, _, rfl, fun h => by (cases h; done), fun h => read6n (.inl hg108)⟩⟩
        · try (have q50 : ((h :: r).length : Int) = 6 := Classical.not_not.1 (of_decide_eq_false hg50); obtain ⟨x, y, t, p, k, rfl⟩ := five_of (l := r) (by simp only [List.length_cons] at q50; omega))
          exact absurd (Classical.not_not.1 (of_decide_eq_false hg50)) (by simp)
      · try (have q45 : ((h :: r).length : Int) = 3 := Classical.not_not.1 (of_decide_eq_false hg45); obtain ⟨x, y, rfl⟩ := two_of (l := r) (by simp only [List.length_cons] at q45; omega))
        exact absurd (Classical.not_not.1 (of_decide_eq_false hg45)) (by simp)
  · have q14 : ¬ ((h :: r).length : Int) = 2 := of_decide_eq_false hg14
    have hn1 : ¬ (r.length = 1 ∧ h = sErr) := fun e => q14 (by simp [e.1])
    refine wl_no rfl (congrArg Value.bool hg14) ?_
    refine wl_no rfl (congrArg Value.bool hg14) ?_
    refine wl_no rfl (congrArg Value.bool hg14) ?_
    refine wl_no rfl (congrArg Value.bool hg14) ?_
    refine wl_val (rn_pickF (congrArg Value.bool hg14) (by conv => lhs; whnf)) ?_
    refine wl_val (rn_assign (by conv => lhs; whnf)) ?_
    refine wl_nil ?_
    refine W_condF rfl ?_
    refine W_seq ?_
    refine W_region ?_
    refine wl_val (rn_move (by conv => lhs; whnf)) ?_
    refine wl_val (rn_len sl_68 rfl) ?_
    refine wl_val (rn_neq rfl rfl) ?_
    refine wl_val (rn_move (by conv => lhs; whnf)) ?_
    refine wl_split (d := 45) rfl (fun hg45 => ?_) (fun hg45 => ?_)
    · have q45 := of_decide_eq_true hg45
      refine wl_yes rfl (congrArg Value.bool hg45) ?_
      refine wl_val (rn_move (by conv => lhs; whnf)) ?_
      refine wl_yes rfl (congrArg Value.bool hg45) ?_
      refine wl_val (rn_len sl_68 rfl) ?_
      refine wl_yes rfl (congrArg Value.bool hg45) ?_
      refine wl_val (rn_neq rfl rfl) ?_
      refine wl_val (rn_pickT (congrArg Value.bool hg45) (by conv => lhs; whnf)) ?_
      refine wl_val (rn_move (by conv => lhs; whnf)) ?_
      refine wl_split (d := 50) rfl (fun hg50 => ?_) (fun hg50 => ?_)
      · have q50 := of_decide_eq_true hg50
        refine wl_no rfl (congrArg Value.bool hg50) ?_
        refine wl_no rfl (congrArg Value.bool hg50) ?_
        refine wl_no rfl (congrArg Value.bool hg50) ?_
        refine wl_no rfl (congrArg Value.bool hg50) ?_
        refine wl_val (rn_pickT (congrArg Value.bool hg50) (by conv => lhs; whnf)) ?_
        refine wl_val (rn_assign (by conv => lhs; whnf)) ?_
        refine wl_nil ?_
        refine W_condT rfl ?_
        refine W_seq ?_
        refine W_region ?_
        refine wl_val (rn_loadB s_34 rfl rfl hB2) ?_
        have hBo := hB2
        refine wl_storeB s_34 rfl rfl rfl (fun v hv => by have hv2 : v ∈ [Value.int .i64 _, Value.int .i64 _, Value.int .i64 _, Sv _, Sv _, Value.bool _] := hv; simp only [List.mem_cons, List.not_mem_nil, or_false] at hv2; rcases hv2 with rfl | rfl | rfl | rfl | rfl | rfl <;> rfl) hB2 rfl ?_; intro w8 hE8 hB2 hz8
        replace hX := hX.mine hE8 hl2
        replace hs := hs.ext hE8 (fun i h => by subst h; exact hq2)
        replace hR := hR.ext hE8 (B := w.heap.size) (fun j hj => by subst hj; exact hq2) hTw
        refine wl_val (rn_assign (by conv => lhs; whnf)) ?_
        refine wl_nil ?_
        refine W_ret ?_
        first | exact ⟨_, resR2 (res1_box s_34 rfl hB2 rfl) (res1_tmp rfl), hX, ⟨⟨n, 0, 0, mZ⟩, _, rfl, fun h => by rw [readE (hy1 hg31)]; exact if_pos ⟨q36, of_decide_eq_true h⟩, fun h => by rw [readE (hy1 hg31)]; exact if_neg (fun e => of_decide_eq_false h e.2)⟩⟩ | exact ⟨_, resR2 (res1_box s_34 rfl hB2 rfl) (res1_tmp rfl), hX, ⟨⟨n, 0, 0, mZ⟩, _, rfl, fun h => by (cases h; done), fun h => by rw [readE (hy1 hg31)]; exact if_neg (fun e => q36 e.1)⟩⟩ | exact ⟨_, resR2 (res1_box s_34 rfl hB2 rfl) (res1_tmp rfl), hX, ⟨⟨n, 0, 0, mZ⟩, _, rfl, fun h => by (cases h; done), fun h => readE0 (hy0 hg31)⟩⟩ | exact ⟨_, resR2 (res1_box s_34 rfl hB2 rfl) (res1_tmp rfl), hX, ⟨aZ, _, rfl, fun h => by (cases h; done), fun h => readR_none hn1 (.inr hn3)⟩⟩ | exact ⟨_, resR2 (res1_box s_34 rfl hB2 rfl) (res1_tmp rfl), hX, ⟨aZ, _, rfl, fun h => by (cases h; done), fun h => readR_none hn1 (.inl ⟨by simp, by simp⟩)⟩⟩ | exact ⟨_, resR2 (res1_box s_34 rfl hB2 rfl) (res1_tmp rfl), hX, ⟨aZ, _, rfl, fun h => by (cases h; done), fun h => readR_none hn1 (.inl ⟨fun e => q45 (by simp [e]), fun e => q50 (by simp [e])⟩)⟩⟩ | exact ⟨_, resR2 (res1_box s_34 rfl hB2 rfl) (res1_tmp rfl), hX, ⟨⟨0, m, n, mZ⟩, _, rfl, fun h => read3 (hm1 hg74) (hv1 h), fun h => read30 (.inr (hv0 h))⟩⟩ | exact ⟨_, resR2 (res1_box s_34 rfl hB2 rfl) (res1_tmp rfl), hX, ⟨⟨0, m, n, mZ⟩, _, rfl, fun h => by (cases h; done), fun h => read30 (.inl (hm0 hg74))⟩⟩ | exact ⟨_, resR2 (res1_box s_34 rfl hB2 rfl) (res1_tmp rfl), hX, ⟨⟨0, m, n, mZ⟩, _, rfl, fun h => by (cases h; done), fun h => read60 (.inl (hm0 hg74))⟩⟩ | exact ⟨_, resR2 (res1_box s_34 rfl hB2 rfl) (res1_tmp rfl), hX, ⟨⟨0, m, n, mZ⟩, o2, rfl, fun h => (by rw [h] at hc2; cases hc2), fun h => read60 (.inr (hv0 h))⟩⟩ | exact ⟨_, resR2 (res1_box s_34 rfl hB2 rfl) (res1_tmp rfl), hX, ⟨⟨0, m, n, ⟨(unR t).getD [], (unR p).getD [], decide (k = sKept)⟩⟩, _, rfl, fun h => read6 (hm1 hg74) (hv1 hc2) hg108 h, fun h => read6n (.inr h)⟩⟩ | exact ⟨_, resR2 (res1_box s_34 rfl hB2 rfl) (res1_tmp rfl), hX, ⟨⟨0, m, n, ⟨(unR t).getD [], (unR p).getD [], decide (k = sKept)⟩⟩, _, rfl, fun h => by (cases h; done), fun h => read6n (.inl hg108)⟩⟩
      · try (have q50 : ((h :: r).length : Int) = 6 := Classical.not_not.1 (of_decide_eq_false hg50); obtain ⟨x, y, t, p, k, rfl⟩ := five_of (l := r) (by simp only [List.length_cons] at q50; omega))
        refine wl_yes rfl (congrArg Value.bool hg50) ?_
        refine wl_val (rn_move (by conv => lhs; whnf)) ?_
        refine wl_yes rfl (congrArg Value.bool hg50) ?_
        refine wl_val (rn_indexAddr sl_68 rfl rfl (by simp only [List.length_cons, List.length_nil]; omega)) ?_
        refine wl_yes rfl (congrArg Value.bool hg50) ?_
        refine wl_val (rn_load p_9 rfl (hs.at0 (eS_at (i := 0) (x := h) rfl) rfl)) ?_
        refine wl_yes rfl (congrArg Value.bool hg50) ?_
        refine wl_val (rn_sneq rfl rfl) ?_
        refine wl_val (rn_pickF (congrArg Value.bool hg50) (by conv => lhs; whnf)) ?_
        refine wl_val (rn_assign (by conv => lhs; whnf)) ?_
        refine wl_nil ?_
        refine W_cond rfl (fun hc1 => ?_) (fun hc1 => ?_)
        · have hn3 : ¬ h = sOk := of_decide_eq_true hc1
          refine W_seq ?_
          refine W_region ?_
          refine wl_val (rn_loadB s_34 rfl rfl hB2) ?_
          have hBo := hB2
          refine wl_storeB s_34 rfl rfl rfl (fun v hv => by have hv2 : v ∈ [Value.int .i64 _, Value.int .i64 _, Value.int .i64 _, Sv _, Sv _, Value.bool _] := hv; simp only [List.mem_cons, List.not_mem_nil, or_false] at hv2; rcases hv2 with rfl | rfl | rfl | rfl | rfl | rfl <;> rfl) hB2 rfl ?_; intro w9 hE9 hB2 hz9
          replace hX := hX.mine hE9 hl2
          replace hs := hs.ext hE9 (fun i h => by subst h; exact hq2)
          replace hR := hR.ext hE9 (B := w.heap.size) (fun j hj => by subst hj; exact hq2) hTw
          refine wl_val (rn_assign (by conv => lhs; whnf)) ?_
          refine wl_nil ?_
          refine W_ret ?_
          first | exact ⟨_, resR2 (res1_box s_34 rfl hB2 rfl) (res1_tmp rfl), hX, ⟨⟨n, 0, 0, mZ⟩, _, rfl, fun h => by rw [readE (hy1 hg31)]; exact if_pos ⟨q36, of_decide_eq_true h⟩, fun h => by rw [readE (hy1 hg31)]; exact if_neg (fun e => of_decide_eq_false h e.2)⟩⟩ | exact ⟨_, resR2 (res1_box s_34 rfl hB2 rfl) (res1_tmp rfl), hX, ⟨⟨n, 0, 0, mZ⟩, _, rfl, fun h => by (cases h; done), fun h => by rw [readE (hy1 hg31)]; exact if_neg (fun e => q36 e.1)⟩⟩ | exact ⟨_, resR2 (res1_box s_34 rfl hB2 rfl) (res1_tmp rfl), hX, ⟨⟨n, 0, 0, mZ⟩, _, rfl, fun h => by (cases h; done), fun h => readE0 (hy0 hg31)⟩⟩ | exact ⟨_, resR2 (res1_box s_34 rfl hB2 rfl) (res1_tmp rfl), hX, ⟨aZ, _, rfl, fun h => by (cases h; done), fun h => readR_none hn1 (.inr hn3)⟩⟩ | exact ⟨_, resR2 (res1_box s_34 rfl hB2 rfl) (res1_tmp rfl), hX, ⟨aZ, _, rfl, fun h => by (cases h; done), fun h => readR_none hn1 (.inl ⟨by simp, by simp⟩)⟩⟩ | exact ⟨_, resR2 (res1_box s_34 rfl hB2 rfl) (res1_tmp rfl), hX, ⟨aZ, _, rfl, fun h => by (cases h; done), fun h => readR_none hn1 (.inl ⟨fun e => q45 (by simp [e]), fun e => q50 (by simp [e])⟩)⟩⟩ | exact ⟨_, resR2 (res1_box s_34 rfl hB2 rfl) (res1_tmp rfl), hX, ⟨⟨0, m, n, mZ⟩, _, rfl, fun h => read3 (hm1 hg74) (hv1 h), fun h => read30 (.inr (hv0 h))⟩⟩ | exact ⟨_, resR2 (res1_box s_34 rfl hB2 rfl) (res1_tmp rfl), hX, ⟨⟨0, m, n, mZ⟩, _, rfl, fun h => by (cases h; done), fun h => read30 (.inl (hm0 hg74))⟩⟩ | exact ⟨_, resR2 (res1_box s_34 rfl hB2 rfl) (res1_tmp rfl), hX, ⟨⟨0, m, n, mZ⟩, _, rfl, fun h => by (cases h; done), fun h => read60 (.inl (hm0 hg74))⟩⟩ | exact ⟨_, resR2 (res1_box s_34 rfl hB2 rfl) (res1_tmp rfl), hX, ⟨⟨0, m, n, mZ⟩, o2, rfl, fun h => (by rw [h] at hc2; cases hc2), fun h => read60 (.inr (hv0 h))⟩⟩ | exact ⟨_, resR2 (res1_box s_34 rfl hB2 rfl) (res1_tmp rfl), hX, ⟨⟨0, m, n, ⟨(unR t).getD [], (unR p).getD [], decide (k = sKept)⟩⟩, _, rfl, fun h => read6 (hm1 hg74) (hv1 hc2) hg108 h, fun h => read6n (.inr h)⟩⟩ | exact ⟨_, resR2 (res1_box s_34 rfl hB2 rfl) (res1_tmp rfl), hX, ⟨⟨0, m, n, ⟨(unR t).getD [], (unR p).getD [], decide (k = sKept)⟩⟩, _, rfl, fun h => by (cases h; done), fun h => read6n (.inl hg108)⟩⟩
        · obtain rfl : h = sOk := Classical.not_not.1 (of_decide_eq_false hc1)
          refine W_skip ?_
          refine W_seq ?_
          refine W_region ?_
          refine wl_val (rn_move (by conv => lhs; whnf)) ?_
          refine wl_val (rn_indexAddr sl_68 rfl rfl (by simp only [List.length_cons, List.length_nil]; omega)) ?_
          refine wl_val (rn_load p_9 rfl (hs.at0 (eS_at (i := 1) (x := x) rfl) rfl)) ?_
          refine wl_call e_148 rfl (rnumber_ok w1 x (by have := hln x (by simp); omega) hR) ?_; intro v61 w10 hE10 hR10
          replace hX := hX.tr hE10
          replace hB2 := hB2.ext hE10 id
          replace hs := hs.ext hE10 (fun _ h => h.elim)
          replace hR := hR.non hE10
          obtain ⟨m, o1, rfl, hm1, hm0⟩ := hR10
          refine wl_val (rn_move (by conv => lhs; whnf)) ?_
          refine wl_val (rn_extract rfl rfl) ?_
          refine wl_val (rn_extract rfl rfl) ?_
          refine wl_val (rn_assign (by conv => lhs; whnf)) ?_
          refine wl_val (rn_assign (by conv => lhs; whnf)) ?_
          refine wl_nil ?_
          refine W_seq ?_
          refine W_region ?_
          refine wl_val (rn_move (by conv => lhs; whnf)) ?_
          refine wl_val (rn_indexAddr sl_68 rfl rfl (by simp only [List.length_cons, List.length_nil]; omega)) ?_
          refine wl_val (rn_load p_9 rfl (hs.at0 (eS_at (i := 2) (x := y) rfl) rfl)) ?_
          refine wl_call e_148 rfl (rnumber_ok w10 y (by have := hln y (by simp); omega) hR) ?_; intro v68 w11 hE11 hR11
          replace hX := hX.tr hE11
          replace hB2 := hB2.ext hE11 id
          replace hs := hs.ext hE11 (fun _ h => h.elim)
          replace hR := hR.non hE11
          obtain ⟨n, o2, rfl, hv1, hv0⟩ := hR11
          refine wl_val (rn_move (by conv => lhs; whnf)) ?_
          refine wl_val (rn_extract rfl rfl) ?_
          refine wl_val (rn_extract rfl rfl) ?_
          refine wl_val (rn_assign (by conv => lhs; whnf)) ?_
          refine wl_val (rn_assign (by conv => lhs; whnf)) ?_
          refine wl_nil ?_
          refine W_seq ?_
          refine W_region ?_
          refine wl_val (rn_move (by conv => lhs; whnf)) ?_
          refine wl_val (rn_move (by conv => lhs; whnf)) ?_
          refine wl_val (rn_move (by conv => lhs; whnf)) ?_
          refine wl_val (rn_move (by conv => lhs; whnf)) ?_
          refine wl_split (d := 74) rfl (fun hg74 => ?_) (fun hg74 => ?_)
          · refine wl_yes rfl (congrArg Value.bool hg74) ?_
            refine wl_val (rn_move (by conv => lhs; whnf)) ?_
            refine wl_val (rn_pickT (congrArg Value.bool hg74) (by conv => lhs; whnf)) ?_
            refine wl_val (rn_fieldAddr f_34_1 (by decide) rfl) ?_
            have hBo := hB2
            refine wl_store1 (b := b2) p_3 rfl (by conv => lhs; whnf) rfl rfl hB2 (Nat.le_of_ble_eq_true rfl) ?_; intro w12 hE12 hB2 hz12
            replace hX := hX.mine hE12 hl2
            replace hs := hs.ext hE12 (fun i h => by subst h; exact hq2)
            replace hR := hR.ext hE12 (B := w.heap.size) (fun j hj => by subst hj; exact hq2) hTw
            refine wl_val (rn_fieldAddr f_34_2 (by decide) rfl) ?_
            have hBo := hB2
            refine wl_store1 (b := b2) p_3 rfl (by conv => lhs; whnf) rfl rfl hB2 (Nat.le_of_ble_eq_true rfl) ?_; intro w13 hE13 hB2 hz13
            replace hX := hX.mine hE13 hl2
            replace hs := hs.ext hE13 (fun i h => by subst h; exact hq2)
            replace hR := hR.ext hE13 (B := w.heap.size) (fun j hj => by subst hj; exact hq2) hTw
            refine wl_val (rn_assign (by conv => lhs; whnf)) ?_
            refine wl_nil ?_
            refine W_seq ?_
            refine W_seq ?_
            refine W_region ?_
            refine wl_val (rn_move (by conv => lhs; whnf)) ?_
            refine wl_val (rn_len sl_68 rfl) ?_
            refine wl_val (rn_eql rfl rfl) ?_
            refine wl_val (rn_move (by conv => lhs; whnf)) ?_
            refine wl_split (d := 82) rfl (fun hg82 => ?_) (fun hg82 => ?_)
            · refine wl_yes rfl (congrArg Value.bool hg82) ?_
              refine wl_val (rn_move (by conv => lhs; whnf)) ?_
              refine wl_val (rn_pickT (congrArg Value.bool hg82) (by conv => lhs; whnf)) ?_
              refine wl_nil ?_
              refine W_cond rfl (fun hc2 => ?_) (fun hc2 => ?_)
              · refine W_seq ?_
                refine W_region ?_
                refine wl_val (rn_move (by conv => lhs; whnf)) ?_
                refine wl_val (rn_indexAddr sl_68 rfl rfl (by simp only [List.length_cons, List.length_nil]; omega)) ?_
                refine wl_val (rn_load p_9 rfl (hs.at0 (eS_at (i := 3) (x := t) rfl) rfl)) ?_
                refine wl_call e_44 rfl (ounword_ok w13 t (hln t (by simp)) hR) ?_; intro v89 w14 hE14 hR14
                replace hX := hX.tr hE14
                replace hB2 := hB2.ext hE14 id
                replace hs := hs.ext hE14 (fun _ h => h.elim)
                replace hR := hR.non hE14
                subst hR14
                refine wl_val (rn_move (by conv => lhs; whnf)) ?_
                refine wl_val (rn_extract rfl rfl) ?_
                refine wl_val (rn_extract rfl rfl) ?_
                refine wl_val (rn_fieldAddr f_34_3 (by decide) rfl) ?_
                refine wl_val (rn_fieldAddr f_32_0 (by decide) rfl) ?_
                have hBo := hB2
                refine wl_store1 (b := b2) p_9 rfl (by conv => lhs; whnf) rfl rfl hB2 (Nat.le_of_ble_eq_true rfl) ?_; intro w15 hE15 hB2 hz15
                replace hX := hX.mine hE15 hl2
                replace hs := hs.ext hE15 (fun i h => by subst h; exact hq2)
                replace hR := hR.ext hE15 (B := w.heap.size) (fun j hj => by subst hj; exact hq2) hTw
                refine wl_val (rn_assign (by conv => lhs; whnf)) ?_
                refine wl_nil ?_
                refine W_seq ?_
                refine W_region ?_
                refine wl_val (rn_move (by conv => lhs; whnf)) ?_
                refine wl_val (rn_indexAddr sl_68 rfl rfl (by simp only [List.length_cons, List.length_nil]; omega)) ?_
                refine wl_val (rn_load p_9 rfl (hs.at0 (eS_at (i := 4) (x := p) rfl) rfl)) ?_
                refine wl_call e_44 rfl (ounword_ok w15 p (hln p (by simp)) hR) ?_; intro v98 w16 hE16 hR16
                replace hX := hX.tr hE16
                replace hB2 := hB2.ext hE16 id
                replace hs := hs.ext hE16 (fun _ h => h.elim)
                replace hR := hR.non hE16
                subst hR16
                refine wl_val (rn_move (by conv => lhs; whnf)) ?_
                refine wl_val (rn_extract rfl rfl) ?_
                refine wl_val (rn_extract rfl rfl) ?_
                refine wl_val (rn_fieldAddr f_34_3 (by decide) rfl) ?_
                refine wl_val (rn_fieldAddr f_32_1 (by decide) rfl) ?_
                have hBo := hB2
                refine wl_store1 (b := b2) p_9 rfl (by conv => lhs; whnf) rfl rfl hB2 (Nat.le_of_ble_eq_true rfl) ?_; intro w17 hE17 hB2 hz17
                replace hX := hX.mine hE17 hl2
                replace hs := hs.ext hE17 (fun i h => by subst h; exact hq2)
                replace hR := hR.ext hE17 (B := w.heap.size) (fun j hj => by subst hj; exact hq2) hTw
                refine wl_val (rn_assign (by conv => lhs; whnf)) ?_
                refine wl_nil ?_
                refine W_region ?_
                refine wl_val (rn_move (by conv => lhs; whnf)) ?_
                refine wl_val (rn_indexAddr sl_68 rfl rfl (by simp only [List.length_cons, List.length_nil]; omega)) ?_
                refine wl_val (rn_load p_9 rfl (hs.at0 (eS_at (i := 5) (x := k) rfl) rfl)) ?_
                refine wl_val (rn_seql rfl rfl) ?_
                refine wl_val (rn_move (by conv => lhs; whnf)) ?_
                refine wl_val (rn_move (by conv => lhs; whnf)) ?_
                refine wl_split (d := 108) rfl (fun hg108 => ?_) (fun hg108 => ?_)
                · refine wl_yes rfl (congrArg Value.bool hg108) ?_
                  refine wl_val (rn_move (by conv => lhs; whnf)) ?_
                  refine wl_val (rn_pickT (congrArg Value.bool hg108) (by conv => lhs; whnf)) ?_
                  refine wl_val (rn_fieldAddr f_34_3 (by decide) rfl) ?_
                  refine wl_val (rn_fieldAddr f_32_2 (by decide) rfl) ?_
                  have hBo := hB2
                  refine wl_store1 (b := b2) p_4 rfl (by conv => lhs; whnf) rfl rfl hB2 (Nat.le_of_ble_eq_true rfl) ?_; intro w18 hE18 hB2 hz18
                  replace hX := hX.mine hE18 hl2
                  replace hs := hs.ext hE18 (fun i h => by subst h; exact hq2)
                  replace hR := hR.ext hE18 (B := w.heap.size) (fun j hj => by subst hj; exact hq2) hTw
                  refine wl_val (rn_assign (by conv => lhs; whnf)) ?_
                  refine wl_nil ?_
                  refine W_seq ?_
                  refine W_region ?_
                  refine wl_val (rn_loadB s_34 rfl rfl hB2) ?_
                  refine wl_val (rn_move (by conv => lhs; whnf)) ?_
                  have hBo := hB2
                  refine wl_storeB s_34 rfl rfl rfl (fun v hv => by have hv2 : v ∈ [Value.int .i64 _, Value.int .i64 _, Value.int .i64 _, Sv _, Sv _, Value.bool _] := hv; simp only [List.mem_cons, List.not_mem_nil, or_false] at hv2; rcases hv2 with rfl | rfl | rfl | rfl | rfl | rfl <;> rfl) hB2 rfl ?_; intro w19 hE19 hB2 hz19
                  replace hX := hX.mine hE19 hl2
                  replace hs := hs.ext hE19 (fun i h => by subst h; exact hq2)
                  replace hR := hR.ext hE19 (B := w.heap.size) (fun j hj => by subst hj; exact hq2) hTw
                  refine wl_val (rn_assign (by conv => lhs; whnf)) ?_
                  refine wl_nil ?_
                  refine W_ret ?_
                  first | exact ⟨_, resR2 (res1_box s_34 rfl hB2 rfl) (res1_tmp rfl), hX, ⟨⟨n, 0, 0, mZ⟩, _, rfl, fun h => by rw [readE (hy1 hg31)]; exact if_pos ⟨q36, of_decide_eq_true h⟩, fun h => by rw [readE (hy1 hg31)]; exact if_neg (fun e => of_decide_eq_false h e.2)⟩⟩ | exact ⟨_, resR2 (res1_box s_34 rfl hB2 rfl) (res1_tmp rfl), hX, ⟨⟨n, 0, 0, mZ⟩, _, rfl, fun h => by (cases h; done), fun h => by rw [readE (hy1 hg31)]; exact if_neg (fun e => q36 e.1)⟩⟩ | exact ⟨_, resR2 (res1_box s_34 rfl hB2 rfl) (res1_tmp rfl), hX, ⟨⟨n, 0, 0, mZ⟩, _, rfl, fun h => by (cases h; done), fun h => readE0 (hy0 hg31)⟩⟩ | exact ⟨_, resR2 (res1_box s_34 rfl hB2 rfl) (res1_tmp rfl), hX, ⟨aZ, _, rfl, fun h => by (cases h; done), fun h => readR_none hn1 (.inr hn3)⟩⟩ | exact ⟨_, resR2 (res1_box s_34 rfl hB2 rfl) (res1_tmp rfl), hX, ⟨aZ, _, rfl, fun h => by (cases h; done), fun h => readR_none hn1 (.inl ⟨by simp, by simp⟩)⟩⟩ | exact ⟨_, resR2 (res1_box s_34 rfl hB2 rfl) (res1_tmp rfl), hX, ⟨aZ, _, rfl, fun h => by (cases h; done), fun h => readR_none hn1 (.inl ⟨fun e => q45 (by simp [e]), fun e => q50 (by simp [e])⟩)⟩⟩ | exact ⟨_, resR2 (res1_box s_34 rfl hB2 rfl) (res1_tmp rfl), hX, ⟨⟨0, m, n, mZ⟩, _, rfl, fun h => read3 (hm1 hg74) (hv1 h), fun h => read30 (.inr (hv0 h))⟩⟩ | exact ⟨_, resR2 (res1_box s_34 rfl hB2 rfl) (res1_tmp rfl), hX, ⟨⟨0, m, n, mZ⟩, _, rfl, fun h => by (cases h; done), fun h => read30 (.inl (hm0 hg74))⟩⟩ | exact ⟨_, resR2 (res1_box s_34 rfl hB2 rfl) (res1_tmp rfl), hX, ⟨⟨0, m, n, mZ⟩, _, rfl, fun h => by (cases h; done), fun h => read60 (.inl (hm0 hg74))⟩⟩ | exact ⟨_, resR2 (res1_box s_34 rfl hB2 rfl) (res1_tmp rfl), hX, ⟨⟨0, m, n, mZ⟩, o2, rfl, fun h => (by rw [h] at hc2; cases hc2), fun h => read60 (.inr (hv0 h))⟩⟩ | exact ⟨_, resR2 (res1_box s_34 rfl hB2 rfl) (res1_tmp rfl), hX, ⟨⟨0, m, n, ⟨(unR t).getD [], (unR p).getD [], decide (k = sKept)⟩⟩, _, rfl, fun h => read6 (hm1 hg74) (hv1 hc2) hg108 h, fun h => read6n (.inr h)⟩⟩ | exact ⟨_, resR2 (res1_box s_34 rfl hB2 rfl) (res1_tmp rfl), hX, ⟨⟨0, m, n, ⟨(unR t).getD [], (unR p).getD [], decide (k = sKept)⟩⟩, _, rfl, fun h => by (cases h; done), fun h => read6n (.inl hg108)⟩⟩
                · refine wl_no rfl (congrArg Value.bool hg108) ?_
                  refine wl_val (rn_pickF (congrArg Value.bool hg108) (by conv => lhs; whnf)) ?_
                  refine wl_val (rn_fieldAddr f_34_3 (by decide) rfl) ?_
                  refine wl_val (rn_fieldAddr f_32_2 (by decide) rfl) ?_
                  have hBo := hB2
                  refine wl_store1 (b := b2) p_4 rfl (by conv => lhs; whnf) rfl rfl hB2 (Nat.le_of_ble_eq_true rfl) ?_; intro w20 hE20 hB2 hz20
                  replace hX := hX.mine hE20 hl2
                  replace hs := hs.ext hE20 (fun i h => by subst h; exact hq2)
                  replace hR := hR.ext hE20 (B := w.heap.size) (fun j hj => by subst hj; exact hq2) hTw
                  refine wl_val (rn_assign (by conv => lhs; whnf)) ?_
                  refine wl_nil ?_
                  refine W_seq ?_
                  refine W_region ?_
                  refine wl_val (rn_loadB s_34 rfl rfl hB2) ?_
                  refine wl_val (rn_move (by conv => lhs; whnf)) ?_
                  have hBo := hB2
                  refine wl_storeB s_34 rfl rfl rfl (fun v hv => by have hv2 : v ∈ [Value.int .i64 _, Value.int .i64 _, Value.int .i64 _, Sv _, Sv _, Value.bool _] := hv; simp only [List.mem_cons, List.not_mem_nil, or_false] at hv2; rcases hv2 with rfl | rfl | rfl | rfl | rfl | rfl <;> rfl) hB2 rfl ?_; intro w21 hE21 hB2 hz21
                  replace hX := hX.mine hE21 hl2
                  replace hs := hs.ext hE21 (fun i h => by subst h; exact hq2)
                  replace hR := hR.ext hE21 (B := w.heap.size) (fun j hj => by subst hj; exact hq2) hTw
                  refine wl_val (rn_assign (by conv => lhs; whnf)) ?_
                  refine wl_nil ?_
                  refine W_ret ?_
                  first | exact ⟨_, resR2 (res1_box s_34 rfl hB2 rfl) (res1_tmp rfl), hX, ⟨⟨n, 0, 0, mZ⟩, _, rfl, fun h => by rw [readE (hy1 hg31)]; exact if_pos ⟨q36, of_decide_eq_true h⟩, fun h => by rw [readE (hy1 hg31)]; exact if_neg (fun e => of_decide_eq_false h e.2)⟩⟩ | exact ⟨_, resR2 (res1_box s_34 rfl hB2 rfl) (res1_tmp rfl), hX, ⟨⟨n, 0, 0, mZ⟩, _, rfl, fun h => by (cases h; done), fun h => by rw [readE (hy1 hg31)]; exact if_neg (fun e => q36 e.1)⟩⟩ | exact ⟨_, resR2 (res1_box s_34 rfl hB2 rfl) (res1_tmp rfl), hX, ⟨⟨n, 0, 0, mZ⟩, _, rfl, fun h => by (cases h; done), fun h => readE0 (hy0 hg31)⟩⟩ | exact ⟨_, resR2 (res1_box s_34 rfl hB2 rfl) (res1_tmp rfl), hX, ⟨aZ, _, rfl, fun h => by (cases h; done), fun h => readR_none hn1 (.inr hn3)⟩⟩ | exact ⟨_, resR2 (res1_box s_34 rfl hB2 rfl) (res1_tmp rfl), hX, ⟨aZ, _, rfl, fun h => by (cases h; done), fun h => readR_none hn1 (.inl ⟨by simp, by simp⟩)⟩⟩ | exact ⟨_, resR2 (res1_box s_34 rfl hB2 rfl) (res1_tmp rfl), hX, ⟨aZ, _, rfl, fun h => by (cases h; done), fun h => readR_none hn1 (.inl ⟨fun e => q45 (by simp [e]), fun e => q50 (by simp [e])⟩)⟩⟩ | exact ⟨_, resR2 (res1_box s_34 rfl hB2 rfl) (res1_tmp rfl), hX, ⟨⟨0, m, n, mZ⟩, _, rfl, fun h => read3 (hm1 hg74) (hv1 h), fun h => read30 (.inr (hv0 h))⟩⟩ | exact ⟨_, resR2 (res1_box s_34 rfl hB2 rfl) (res1_tmp rfl), hX, ⟨⟨0, m, n, mZ⟩, _, rfl, fun h => by (cases h; done), fun h => read30 (.inl (hm0 hg74))⟩⟩ | exact ⟨_, resR2 (res1_box s_34 rfl hB2 rfl) (res1_tmp rfl), hX, ⟨⟨0, m, n, mZ⟩, _, rfl, fun h => by (cases h; done), fun h => read60 (.inl (hm0 hg74))⟩⟩ | exact ⟨_, resR2 (res1_box s_34 rfl hB2 rfl) (res1_tmp rfl), hX, ⟨⟨0, m, n, mZ⟩, o2, rfl, fun h => (by rw [h] at hc2; cases hc2), fun h => read60 (.inr (hv0 h))⟩⟩ | exact ⟨_, resR2 (res1_box s_34 rfl hB2 rfl) (res1_tmp rfl), hX, ⟨⟨0, m, n, ⟨(unR t).getD [], (unR p).getD [], decide (k = sKept)⟩⟩, _, rfl, fun h => read6 (hm1 hg74) (hv1 hc2) hg108 h, fun h => read6n (.inr h)⟩⟩ | exact ⟨_, resR2 (res1_box s_34 rfl hB2 rfl) (res1_tmp rfl), hX, ⟨⟨0, m, n, ⟨(unR t).getD [], (unR p).getD [], decide (k = sKept)⟩⟩, _, rfl, fun h => by (cases h; done), fun h => read6n (.inl hg108)⟩⟩
              · refine W_skip ?_
                refine W_seq ?_
                refine W_region ?_
                refine wl_val (rn_loadB s_34 rfl rfl hB2) ?_
                refine wl_val (rn_move (by conv => lhs; whnf)) ?_
                have hBo := hB2
                refine wl_storeB s_34 rfl rfl rfl (fun v hv => by have hv2 : v ∈ [Value.int .i64 _, Value.int .i64 _, Value.int .i64 _, Sv _, Sv _, Value.bool _] := hv; simp only [List.mem_cons, List.not_mem_nil, or_false] at hv2; rcases hv2 with rfl | rfl | rfl | rfl | rfl | rfl <;> rfl) hB2 rfl ?_; intro w22 hE22 hB2 hz22
                replace hX := hX.mine hE22 hl2
                replace hs := hs.ext hE22 (fun i h => by subst h; exact hq2)
                replace hR := hR.ext hE22 (B := w.heap.size) (fun j hj => by subst hj; exact hq2) hTw
                refine wl_val (rn_assign (by conv => lhs; whnf)) ?_
                refine wl_nil ?_
                refine W_ret ?_
                first | exact ⟨_, resR2 (res1_box s_34 rfl hB2 rfl) (res1_tmp rfl), hX, ⟨⟨n, 0, 0, mZ⟩, _, rfl, fun h => by rw [readE (hy1 hg31)]; exact if_pos ⟨q36, of_decide_eq_true h⟩, fun h => by rw [readE (hy1 hg31)]; exact if_neg (fun e => of_decide_eq_false h e.2)⟩⟩ | exact ⟨_, resR2 (res1_box s_34 rfl hB2 rfl) (res1_tmp rfl), hX, ⟨⟨n, 0, 0, mZ⟩, _, rfl, fun h => by (cases h; done), fun h => by rw [readE (hy1 hg31)]; exact if_neg (fun e => q36 e.1)⟩⟩ | exact ⟨_, resR2 (res1_box s_34 rfl hB2 rfl) (res1_tmp rfl), hX, ⟨⟨n, 0, 0, mZ⟩, _, rfl, fun h => by (cases h; done), fun h => readE0 (hy0 hg31)⟩⟩ | exact ⟨_, resR2 (res1_box s_34 rfl hB2 rfl) (res1_tmp rfl), hX, ⟨aZ, _, rfl, fun h => by (cases h; done), fun h => readR_none hn1 (.inr hn3)⟩⟩ | exact ⟨_, resR2 (res1_box s_34 rfl hB2 rfl) (res1_tmp rfl), hX, ⟨aZ, _, rfl, fun h => by (cases h; done), fun h => readR_none hn1 (.inl ⟨by simp, by simp⟩)⟩⟩ | exact ⟨_, resR2 (res1_box s_34 rfl hB2 rfl) (res1_tmp rfl), hX, ⟨aZ, _, rfl, fun h => by (cases h; done), fun h => readR_none hn1 (.inl ⟨fun e => q45 (by simp [e]), fun e => q50 (by simp [e])⟩)⟩⟩ | exact ⟨_, resR2 (res1_box s_34 rfl hB2 rfl) (res1_tmp rfl), hX, ⟨⟨0, m, n, mZ⟩, _, rfl, fun h => read3 (hm1 hg74) (hv1 h), fun h => read30 (.inr (hv0 h))⟩⟩ | exact ⟨_, resR2 (res1_box s_34 rfl hB2 rfl) (res1_tmp rfl), hX, ⟨⟨0, m, n, mZ⟩, _, rfl, fun h => by (cases h; done), fun h => read30 (.inl (hm0 hg74))⟩⟩ | exact ⟨_, resR2 (res1_box s_34 rfl hB2 rfl) (res1_tmp rfl), hX, ⟨⟨0, m, n, mZ⟩, _, rfl, fun h => by (cases h; done), fun h => read60 (.inl (hm0 hg74))⟩⟩ | exact ⟨_, resR2 (res1_box s_34 rfl hB2 rfl) (res1_tmp rfl), hX, ⟨⟨0, m, n, mZ⟩, o2, rfl, fun h => (by rw [h] at hc2; cases hc2), fun h => read60 (.inr (hv0 h))⟩⟩ | exact ⟨_, resR2 (res1_box s_34 rfl hB2 rfl) (res1_tmp rfl), hX, ⟨⟨0, m, n, ⟨(unR t).getD [], (unR p).getD [], decide (k = sKept)⟩⟩, _, rfl, fun h => read6 (hm1 hg74) (hv1 hc2) hg108 h, fun h => read6n (.inr h)⟩⟩ | exact ⟨_, resR2 (res1_box s_34 rfl hB2 rfl) (res1_tmp rfl), hX, ⟨⟨0, m, n, ⟨(unR t).getD [], (unR p).getD [], decide (k = sKept)⟩⟩, _, rfl, fun h => by (cases h; done), fun h => read6n (.inl hg108)⟩⟩
            · exact absurd (of_decide_eq_false hg82) (by simp)
          · refine wl_no rfl (congrArg Value.bool hg74) ?_
            refine wl_val (rn_pickF (congrArg Value.bool hg74) (by conv => lhs; whnf)) ?_
            refine wl_val (rn_fieldAddr f_34_1 (by decide) rfl) ?_
            have hBo := hB2
            refine wl_store1 (b := b2) p_3 rfl (by conv => lhs; whnf) rfl rfl hB2 (Nat.le_of_ble_eq_true rfl) ?_; intro w23 hE23 hB2 hz23
            replace hX := hX.mine hE23 hl2
            replace hs := hs.ext hE23 (fun i h => by subst h; exact hq2)
            replace hR := hR.ext hE23 (B := w.heap.size) (fun j hj => by subst hj; exact hq2) hTw
            refine wl_val (rn_fieldAddr f_34_2 (by decide) rfl) ?_
            have hBo := hB2
            refine wl_store1 (b := b2) p_3 rfl (by conv => lhs; whnf) rfl rfl hB2 (Nat.le_of_ble_eq_true rfl) ?_; intro w24 hE24 hB2 hz24
            replace hX := hX.mine hE24 hl2
            replace hs := hs.ext hE24 (fun i h => by subst h; exact hq2)
            replace hR := hR.ext hE24 (B := w.heap.size) (fun j hj => by subst hj; exact hq2) hTw
            refine wl_val (rn_assign (by conv => lhs; whnf)) ?_
            refine wl_nil ?_
            refine W_seq ?_
            refine W_seq ?_
            refine W_region ?_
            refine wl_val (rn_move (by conv => lhs; whnf)) ?_
            refine wl_val (rn_len sl_68 rfl) ?_
            refine wl_val (rn_eql rfl rfl) ?_
            refine wl_val (rn_move (by conv => lhs; whnf)) ?_
            refine wl_split (d := 82) rfl (fun hg82 => ?_) (fun hg82 => ?_)
            · refine wl_yes rfl (congrArg Value.bool hg82) ?_
              refine wl_val (rn_move (by conv => lhs; whnf)) ?_
              refine wl_val (rn_pickT (congrArg Value.bool hg82) (by conv => lhs; whnf)) ?_
              refine wl_nil ?_
              refine W_condF rfl ?_
              refine W_skip ?_
              refine W_seq ?_
              refine W_region ?_
              refine wl_val (rn_loadB s_34 rfl rfl hB2) ?_
              refine wl_val (rn_move (by conv => lhs; whnf)) ?_
              have hBo := hB2
              refine wl_storeB s_34 rfl rfl rfl (fun v hv => by have hv2 : v ∈ [Value.int .i64 _, Value.int .i64 _, Value.int .i64 _, Sv _, Sv _, Value.bool _] := hv; simp only [List.mem_cons, List.not_mem_nil, or_false] at hv2; rcases hv2 with rfl | rfl | rfl | rfl | rfl | rfl <;> rfl) hB2 rfl ?_; intro w25 hE25 hB2 hz25
              replace hX := hX.mine hE25 hl2
              replace hs := hs.ext hE25 (fun i h => by subst h; exact hq2)
              replace hR := hR.ext hE25 (B := w.heap.size) (fun j hj => by subst hj; exact hq2) hTw
              refine wl_val (rn_assign (by conv => lhs; whnf)) ?_
              refine wl_nil ?_
              refine W_ret ?_
              first | exact ⟨_, resR2 (res1_box s_34 rfl hB2 rfl) (res1_tmp rfl), hX, ⟨⟨n, 0, 0, mZ⟩, _, rfl, fun h => by rw [readE (hy1 hg31)]; exact if_pos ⟨q36, of_decide_eq_true h⟩, fun h => by rw [readE (hy1 hg31)]; exact if_neg (fun e => of_decide_eq_false h e.2)⟩⟩ | exact ⟨_, resR2 (res1_box s_34 rfl hB2 rfl) (res1_tmp rfl), hX, ⟨⟨n, 0, 0, mZ⟩, _, rfl, fun h => by (cases h; done), fun h => by rw [readE (hy1 hg31)]; exact if_neg (fun e => q36 e.1)⟩⟩ | exact ⟨_, resR2 (res1_box s_34 rfl hB2 rfl) (res1_tmp rfl), hX, ⟨⟨n, 0, 0, mZ⟩, _, rfl, fun h => by (cases h; done), fun h => readE0 (hy0 hg31)⟩⟩ | exact ⟨_, resR2 (res1_box s_34 rfl hB2 rfl) (res1_tmp rfl), hX, ⟨aZ, _, rfl, fun h => by (cases h; done), fun h => readR_none hn1 (.inr hn3)⟩⟩ | exact ⟨_, resR2 (res1_box s_34 rfl hB2 rfl) (res1_tmp rfl), hX, ⟨aZ, _, rfl, fun h => by (cases h; done), fun h => readR_none hn1 (.inl ⟨by simp, by simp⟩)⟩⟩ | exact ⟨_, resR2 (res1_box s_34 rfl hB2 rfl) (res1_tmp rfl), hX, ⟨aZ, _, rfl, fun h => by (cases h; done), fun h => readR_none hn1 (.inl ⟨fun e => q45 (by simp [e]), fun e => q50 (by simp [e])⟩)⟩⟩ | exact ⟨_, resR2 (res1_box s_34 rfl hB2 rfl) (res1_tmp rfl), hX, ⟨⟨0, m, n, mZ⟩, _, rfl, fun h => read3 (hm1 hg74) (hv1 h), fun h => read30 (.inr (hv0 h))⟩⟩ | exact ⟨_, resR2 (res1_box s_34 rfl hB2 rfl) (res1_tmp rfl), hX, ⟨⟨0, m, n, mZ⟩, _, rfl, fun h => by (cases h; done), fun h => read30 (.inl (hm0 hg74))⟩⟩ | exact ⟨_, resR2 (res1_box s_34 rfl hB2 rfl) (res1_tmp rfl), hX, ⟨⟨0, m, n, mZ⟩, _, rfl, fun h => by (cases h; done), fun h => read60 (.inl (hm0 hg74))⟩⟩ | exact ⟨_, resR2 (res1_box s_34 rfl hB2 rfl) (res1_tmp rfl), hX, ⟨⟨0, m, n, mZ⟩, o2, rfl, fun h => (by rw [h] at hc2; cases hc2), fun h => read60 (.inr (hv0 h))⟩⟩ | exact ⟨_, resR2 (res1_box s_34 rfl hB2 rfl) (res1_tmp rfl), hX, ⟨⟨0, m, n, ⟨(unR t).getD [], (unR p).getD [], decide (k = sKept)⟩⟩, _, rfl, fun h => read6 (hm1 hg74) (hv1 hc2) hg108 h, fun h => read6n (.inr h)⟩⟩ | exact ⟨_, resR2 (res1_box s_34 rfl hB2 rfl) (res1_tmp rfl), hX, ⟨⟨0, m, n, ⟨(unR t).getD [], (unR p).getD [], decide (k = sKept)⟩⟩, _, rfl, fun h => by (cases h; done), fun h => read6n (.inl hg108)⟩⟩
            · exact absurd (of_decide_eq_false hg82) (by simp)
    · try (have q45 : ((h :: r).length : Int) = 3 := Classical.not_not.1 (of_decide_eq_false hg45); obtain ⟨x, y, rfl⟩ := two_of (l := r) (by simp only [List.length_cons] at q45; omega))
      refine wl_no rfl (congrArg Value.bool hg45) ?_
      refine wl_no rfl (congrArg Value.bool hg45) ?_
      refine wl_no rfl (congrArg Value.bool hg45) ?_
      refine wl_val (rn_pickF (congrArg Value.bool hg45) (by conv => lhs; whnf)) ?_
      refine wl_val (rn_move (by conv => lhs; whnf)) ?_
      refine wl_yes rfl rfl ?_
      refine wl_val (rn_move (by conv => lhs; whnf)) ?_
      refine wl_yes rfl rfl ?_
      refine wl_val (rn_indexAddr sl_68 rfl rfl (by simp only [List.length_cons, List.length_nil]; omega)) ?_
      refine wl_yes rfl rfl ?_
      refine wl_val (rn_load p_9 rfl (hs.at0 (eS_at (i := 0) (x := h) rfl) rfl)) ?_
      refine wl_yes rfl rfl ?_
      refine wl_val (rn_sneq rfl rfl) ?_
      refine wl_val (rn_pickF rfl (by conv => lhs; whnf)) ?_
      refine wl_val (rn_assign (by conv => lhs; whnf)) ?_
      refine wl_nil ?_
      refine W_cond rfl (fun hc1 => ?_) (fun hc1 => ?_)
      · have hn3 : ¬ h = sOk := of_decide_eq_true hc1
        refine W_seq ?_
        refine W_region ?_
        refine wl_val (rn_loadB s_34 rfl rfl hB2) ?_
        have hBo := hB2
        refine wl_storeB s_34 rfl rfl rfl (fun v hv => by have hv2 : v ∈ [Value.int .i64 _, Value.int .i64 _, Value.int .i64 _, Sv _, Sv _, Value.bool _] := hv; simp only [List.mem_cons, List.not_mem_nil, or_false] at hv2; rcases hv2 with rfl | rfl | rfl | rfl | rfl | rfl <;> rfl) hB2 rfl ?_; intro w26 hE26 hB2 hz26
        replace hX := hX.mine hE26 hl2
        replace hs := hs.ext hE26 (fun i h => by subst h; exact hq2)
        replace hR := hR.ext hE26 (B := w.heap.size) (fun j hj => by subst hj; exact hq2) hTw
        refine wl_val (rn_assign (by conv => lhs; whnf)) ?_
        refine wl_nil ?_
        refine W_ret ?_
        first | exact ⟨_, resR2 (res1_box s_34 rfl hB2 rfl) (res1_tmp rfl), hX, ⟨⟨n, 0, 0, mZ⟩, _, rfl, fun h => by rw [readE (hy1 hg31)]; exact if_pos ⟨q36, of_decide_eq_true h⟩, fun h => by rw [readE (hy1 hg31)]; exact if_neg (fun e => of_decide_eq_false h e.2)⟩⟩ | exact ⟨_, resR2 (res1_box s_34 rfl hB2 rfl) (res1_tmp rfl), hX, ⟨⟨n, 0, 0, mZ⟩, _, rfl, fun h => by (cases h; done), fun h => by rw [readE (hy1 hg31)]; exact if_neg (fun e => q36 e.1)⟩⟩ | exact ⟨_, resR2 (res1_box s_34 rfl hB2 rfl) (res1_tmp rfl), hX, ⟨⟨n, 0, 0, mZ⟩, _, rfl, fun h => by (cases h; done), fun h => readE0 (hy0 hg31)⟩⟩ | exact ⟨_, resR2 (res1_box s_34 rfl hB2 rfl) (res1_tmp rfl), hX, ⟨aZ, _, rfl, fun h => by (cases h; done), fun h => readR_none hn1 (.inr hn3)⟩⟩ | exact ⟨_, resR2 (res1_box s_34 rfl hB2 rfl) (res1_tmp rfl), hX, ⟨aZ, _, rfl, fun h => by (cases h; done), fun h => readR_none hn1 (.inl ⟨by simp, by simp⟩)⟩⟩ | exact ⟨_, resR2 (res1_box s_34 rfl hB2 rfl) (res1_tmp rfl), hX, ⟨aZ, _, rfl, fun h => by (cases h; done), fun h => readR_none hn1 (.inl ⟨fun e => q45 (by simp [e]), fun e => q50 (by simp [e])⟩)⟩⟩ | exact ⟨_, resR2 (res1_box s_34 rfl hB2 rfl) (res1_tmp rfl), hX, ⟨⟨0, m, n, mZ⟩, _, rfl, fun h => read3 (hm1 hg74) (hv1 h), fun h => read30 (.inr (hv0 h))⟩⟩ | exact ⟨_, resR2 (res1_box s_34 rfl hB2 rfl) (res1_tmp rfl), hX, ⟨⟨0, m, n, mZ⟩, _, rfl, fun h => by (cases h; done), fun h => read30 (.inl (hm0 hg74))⟩⟩ | exact ⟨_, resR2 (res1_box s_34 rfl hB2 rfl) (res1_tmp rfl), hX, ⟨⟨0, m, n, mZ⟩, _, rfl, fun h => by (cases h; done), fun h => read60 (.inl (hm0 hg74))⟩⟩ | exact ⟨_, resR2 (res1_box s_34 rfl hB2 rfl) (res1_tmp rfl), hX, ⟨⟨0, m, n, mZ⟩, o2, rfl, fun h => (by rw [h] at hc2; cases hc2), fun h => read60 (.inr (hv0 h))⟩⟩ | exact ⟨_, resR2 (res1_box s_34 rfl hB2 rfl) (res1_tmp rfl), hX, ⟨⟨0, m, n, ⟨(unR t).getD [], (unR p).getD [], decide (k = sKept)⟩⟩, _, rfl, fun h => read6 (hm1 hg74) (hv1 hc2) hg108 h, fun h => read6n (.inr h)⟩⟩ | exact ⟨_, resR2 (res1_box s_34 rfl hB2 rfl) (res1_tmp rfl), hX, ⟨⟨0, m, n, ⟨(unR t).getD [], (unR p).getD [], decide (k = sKept)⟩⟩, _, rfl, fun h => by (cases h; done), fun h => read6n (.inl hg108)⟩⟩
      · obtain rfl : h = sOk := Classical.not_not.1 (of_decide_eq_false hc1)
        refine W_skip ?_
        refine W_seq ?_
        refine W_region ?_
        refine wl_val (rn_move (by conv => lhs; whnf)) ?_
        refine wl_val (rn_indexAddr sl_68 rfl rfl (by simp only [List.length_cons, List.length_nil]; omega)) ?_
        refine wl_val (rn_load p_9 rfl (hs.at0 (eS_at (i := 1) (x := x) rfl) rfl)) ?_
        refine wl_call e_148 rfl (rnumber_ok w1 x (by have := hln x (by simp); omega) hR) ?_; intro v61 w27 hE27 hR27
        replace hX := hX.tr hE27
        replace hB2 := hB2.ext hE27 id
        replace hs := hs.ext hE27 (fun _ h => h.elim)
        replace hR := hR.non hE27
        obtain ⟨m, o1, rfl, hm1, hm0⟩ := hR27
        refine wl_val (rn_move (by conv => lhs; whnf)) ?_
        refine wl_val (rn_extract rfl rfl) ?_
        refine wl_val (rn_extract rfl rfl) ?_
        refine wl_val (rn_assign (by conv => lhs; whnf)) ?_
        refine wl_val (rn_assign (by conv => lhs; whnf)) ?_
        refine wl_nil ?_
        refine W_seq ?_
        refine W_region ?_
        refine wl_val (rn_move (by conv => lhs; whnf)) ?_
        refine wl_val (rn_indexAddr sl_68 rfl rfl (by simp only [List.length_cons, List.length_nil]; omega)) ?_
        refine wl_val (rn_load p_9 rfl (hs.at0 (eS_at (i := 2) (x := y) rfl) rfl)) ?_
        refine wl_call e_148 rfl (rnumber_ok w27 y (by have := hln y (by simp); omega) hR) ?_; intro v68 w28 hE28 hR28
        replace hX := hX.tr hE28
        replace hB2 := hB2.ext hE28 id
        replace hs := hs.ext hE28 (fun _ h => h.elim)
        replace hR := hR.non hE28
        obtain ⟨n, o2, rfl, hv1, hv0⟩ := hR28
        refine wl_val (rn_move (by conv => lhs; whnf)) ?_
        refine wl_val (rn_extract rfl rfl) ?_
        refine wl_val (rn_extract rfl rfl) ?_
        refine wl_val (rn_assign (by conv => lhs; whnf)) ?_
        refine wl_val (rn_assign (by conv => lhs; whnf)) ?_
        refine wl_nil ?_
        refine W_seq ?_
        refine W_region ?_
        refine wl_val (rn_move (by conv => lhs; whnf)) ?_
        refine wl_val (rn_move (by conv => lhs; whnf)) ?_
        refine wl_val (rn_move (by conv => lhs; whnf)) ?_
        refine wl_val (rn_move (by conv => lhs; whnf)) ?_
        refine wl_split (d := 74) rfl (fun hg74 => ?_) (fun hg74 => ?_)
        · refine wl_yes rfl (congrArg Value.bool hg74) ?_
          refine wl_val (rn_move (by conv => lhs; whnf)) ?_
          refine wl_val (rn_pickT (congrArg Value.bool hg74) (by conv => lhs; whnf)) ?_
          refine wl_val (rn_fieldAddr f_34_1 (by decide) rfl) ?_
          have hBo := hB2
          refine wl_store1 (b := b2) p_3 rfl (by conv => lhs; whnf) rfl rfl hB2 (Nat.le_of_ble_eq_true rfl) ?_; intro w29 hE29 hB2 hz29
          replace hX := hX.mine hE29 hl2
          replace hs := hs.ext hE29 (fun i h => by subst h; exact hq2)
          replace hR := hR.ext hE29 (B := w.heap.size) (fun j hj => by subst hj; exact hq2) hTw
          refine wl_val (rn_fieldAddr f_34_2 (by decide) rfl) ?_
          have hBo := hB2
          refine wl_store1 (b := b2) p_3 rfl (by conv => lhs; whnf) rfl rfl hB2 (Nat.le_of_ble_eq_true rfl) ?_; intro w30 hE30 hB2 hz30
          replace hX := hX.mine hE30 hl2
          replace hs := hs.ext hE30 (fun i h => by subst h; exact hq2)
          replace hR := hR.ext hE30 (B := w.heap.size) (fun j hj => by subst hj; exact hq2) hTw
          refine wl_val (rn_assign (by conv => lhs; whnf)) ?_
          refine wl_nil ?_
          refine W_seq ?_
          refine W_seq ?_
          refine W_region ?_
          refine wl_val (rn_move (by conv => lhs; whnf)) ?_
          refine wl_val (rn_len sl_68 rfl) ?_
          refine wl_val (rn_eql rfl rfl) ?_
          refine wl_val (rn_move (by conv => lhs; whnf)) ?_
          refine wl_split (d := 82) rfl (fun hg82 => ?_) (fun hg82 => ?_)
          · exact absurd (of_decide_eq_true hg82) (by simp)
          · refine wl_no rfl (congrArg Value.bool hg82) ?_
            refine wl_val (rn_pickF (congrArg Value.bool hg82) (by conv => lhs; whnf)) ?_
            refine wl_nil ?_
            refine W_condF rfl ?_
            refine W_skip ?_
            refine W_seq ?_
            refine W_region ?_
            refine wl_val (rn_loadB s_34 rfl rfl hB2) ?_
            refine wl_val (rn_move (by conv => lhs; whnf)) ?_
            have hBo := hB2
            refine wl_storeB s_34 rfl rfl rfl (fun v hv => by have hv2 : v ∈ [Value.int .i64 _, Value.int .i64 _, Value.int .i64 _, Sv _, Sv _, Value.bool _] := hv; simp only [List.mem_cons, List.not_mem_nil, or_false] at hv2; rcases hv2 with rfl | rfl | rfl | rfl | rfl | rfl <;> rfl) hB2 rfl ?_; intro w31 hE31 hB2 hz31
            replace hX := hX.mine hE31 hl2
            replace hs := hs.ext hE31 (fun i h => by subst h; exact hq2)
            replace hR := hR.ext hE31 (B := w.heap.size) (fun j hj => by subst hj; exact hq2) hTw
            refine wl_val (rn_assign (by conv => lhs; whnf)) ?_
            refine wl_nil ?_
            refine W_ret ?_
            first | exact ⟨_, resR2 (res1_box s_34 rfl hB2 rfl) (res1_tmp rfl), hX, ⟨⟨n, 0, 0, mZ⟩, _, rfl, fun h => by rw [readE (hy1 hg31)]; exact if_pos ⟨q36, of_decide_eq_true h⟩, fun h => by rw [readE (hy1 hg31)]; exact if_neg (fun e => of_decide_eq_false h e.2)⟩⟩ | exact ⟨_, resR2 (res1_box s_34 rfl hB2 rfl) (res1_tmp rfl), hX, ⟨⟨n, 0, 0, mZ⟩, _, rfl, fun h => by (cases h; done), fun h => by rw [readE (hy1 hg31)]; exact if_neg (fun e => q36 e.1)⟩⟩ | exact ⟨_, resR2 (res1_box s_34 rfl hB2 rfl) (res1_tmp rfl), hX, ⟨⟨n, 0, 0, mZ⟩, _, rfl, fun h => by (cases h; done), fun h => readE0 (hy0 hg31)⟩⟩ | exact ⟨_, resR2 (res1_box s_34 rfl hB2 rfl) (res1_tmp rfl), hX, ⟨aZ, _, rfl, fun h => by (cases h; done), fun h => readR_none hn1 (.inr hn3)⟩⟩ | exact ⟨_, resR2 (res1_box s_34 rfl hB2 rfl) (res1_tmp rfl), hX, ⟨aZ, _, rfl, fun h => by (cases h; done), fun h => readR_none hn1 (.inl ⟨by simp, by simp⟩)⟩⟩ | exact ⟨_, resR2 (res1_box s_34 rfl hB2 rfl) (res1_tmp rfl), hX, ⟨aZ, _, rfl, fun h => by (cases h; done), fun h => readR_none hn1 (.inl ⟨fun e => q45 (by simp [e]), fun e => q50 (by simp [e])⟩)⟩⟩ | exact ⟨_, resR2 (res1_box s_34 rfl hB2 rfl) (res1_tmp rfl), hX, ⟨⟨0, m, n, mZ⟩, _, rfl, fun h => read3 (hm1 hg74) (hv1 h), fun h => read30 (.inr (hv0 h))⟩⟩ | exact ⟨_, resR2 (res1_box s_34 rfl hB2 rfl) (res1_tmp rfl), hX, ⟨⟨0, m, n, mZ⟩, _, rfl, fun h => by (cases h; done), fun h => read30 (.inl (hm0 hg74))⟩⟩ | exact ⟨_, resR2 (res1_box s_34 rfl hB2 rfl) (res1_tmp rfl), hX, ⟨⟨0, m, n, mZ⟩, _, rfl, fun h => by (cases h; done), fun h => read60 (.inl (hm0 hg74))⟩⟩ | exact ⟨_, resR2 (res1_box s_34 rfl hB2 rfl) (res1_tmp rfl), hX, ⟨⟨0, m, n, mZ⟩, o2, rfl, fun h => (by rw [h] at hc2; cases hc2), fun h => read60 (.inr (hv0 h))⟩⟩ | exact ⟨_, resR2 (res1_box s_34 rfl hB2 rfl) (res1_tmp rfl), hX, ⟨⟨0, m, n, ⟨(unR t).getD [], (unR p).getD [], decide (k = sKept)⟩⟩, _, rfl, fun h => read6 (hm1 hg74) (hv1 hc2) hg108 h, fun h => read6n (.inr h)⟩⟩ | exact ⟨_, resR2 (res1_box s_34 rfl hB2 rfl) (res1_tmp rfl), hX, ⟨⟨0, m, n, ⟨(unR t).getD [], (unR p).getD [], decide (k = sKept)⟩⟩, _, rfl, fun h => by (cases h; done), fun h => read6n (.inl hg108)⟩⟩
        · refine wl_no rfl (congrArg Value.bool hg74) ?_
          refine wl_val (rn_pickF (congrArg Value.bool hg74) (by conv => lhs; whnf)) ?_
          refine wl_val (rn_fieldAddr f_34_1 (by decide) rfl) ?_
          have hBo := hB2
          refine wl_store1 (b := b2) p_3 rfl (by conv => lhs; whnf) rfl rfl hB2 (Nat.le_of_ble_eq_true rfl) ?_; intro w32 hE32 hB2 hz32
          replace hX := hX.mine hE32 hl2
          replace hs := hs.ext hE32 (fun i h => by subst h; exact hq2)
          replace hR := hR.ext hE32 (B := w.heap.size) (fun j hj => by subst hj; exact hq2) hTw
          refine wl_val (rn_fieldAddr f_34_2 (by decide) rfl) ?_
          have hBo := hB2
          refine wl_store1 (b := b2) p_3 rfl (by conv => lhs; whnf) rfl rfl hB2 (Nat.le_of_ble_eq_true rfl) ?_; intro w33 hE33 hB2 hz33
          replace hX := hX.mine hE33 hl2
          replace hs := hs.ext hE33 (fun i h => by subst h; exact hq2)
          replace hR := hR.ext hE33 (B := w.heap.size) (fun j hj => by subst hj; exact hq2) hTw
          refine wl_val (rn_assign (by conv => lhs; whnf)) ?_
          refine wl_nil ?_
          refine W_seq ?_
          refine W_seq ?_
          refine W_region ?_
          refine wl_val (rn_move (by conv => lhs; whnf)) ?_
          refine wl_val (rn_len sl_68 rfl) ?_
          refine wl_val (rn_eql rfl rfl) ?_
          refine wl_val (rn_move (by conv => lhs; whnf)) ?_
          refine wl_split (d := 82) rfl (fun hg82 => ?_) (fun hg82 => ?_)
          · exact absurd (of_decide_eq_true hg82) (by simp)
          · refine wl_no rfl (congrArg Value.bool hg82) ?_
            refine wl_val (rn_pickF (congrArg Value.bool hg82) (by conv => lhs; whnf)) ?_
            refine wl_nil ?_
            refine W_condF rfl ?_
            refine W_skip ?_
            refine W_seq ?_
            refine W_region ?_
            refine wl_val (rn_loadB s_34 rfl rfl hB2) ?_
            refine wl_val (rn_move (by conv => lhs; whnf)) ?_
            have hBo := hB2
            refine wl_storeB s_34 rfl rfl rfl (fun v hv => by have hv2 : v ∈ [Value.int .i64 _, Value.int .i64 _, Value.int .i64 _, Sv _, Sv _, Value.bool _] := hv; simp only [List.mem_cons, List.not_mem_nil, or_false] at hv2; rcases hv2 with rfl | rfl | rfl | rfl | rfl | rfl <;> rfl) hB2 rfl ?_; intro w34 hE34 hB2 hz34
            replace hX := hX.mine hE34 hl2
            replace hs := hs.ext hE34 (fun i h => by subst h; exact hq2)
            replace hR := hR.ext hE34 (B := w.heap.size) (fun j hj => by subst hj; exact hq2) hTw
            refine wl_val (rn_assign (by conv => lhs; whnf)) ?_
            refine wl_nil ?_
            refine W_ret ?_
            first | exact ⟨_, resR2 (res1_box s_34 rfl hB2 rfl) (res1_tmp rfl), hX, ⟨⟨n, 0, 0, mZ⟩, _, rfl, fun h => by rw [readE (hy1 hg31)]; exact if_pos ⟨q36, of_decide_eq_true h⟩, fun h => by rw [readE (hy1 hg31)]; exact if_neg (fun e => of_decide_eq_false h e.2)⟩⟩ | exact ⟨_, resR2 (res1_box s_34 rfl hB2 rfl) (res1_tmp rfl), hX, ⟨⟨n, 0, 0, mZ⟩, _, rfl, fun h => by (cases h; done), fun h => by rw [readE (hy1 hg31)]; exact if_neg (fun e => q36 e.1)⟩⟩ | exact ⟨_, resR2 (res1_box s_34 rfl hB2 rfl) (res1_tmp rfl), hX, ⟨⟨n, 0, 0, mZ⟩, _, rfl, fun h => by (cases h; done), fun h => readE0 (hy0 hg31)⟩⟩ | exact ⟨_, resR2 (res1_box s_34 rfl hB2 rfl) (res1_tmp rfl), hX, ⟨aZ, _, rfl, fun h => by (cases h; done), fun h => readR_none hn1 (.inr hn3)⟩⟩ | exact ⟨_, resR2 (res1_box s_34 rfl hB2 rfl) (res1_tmp rfl), hX, ⟨aZ, _, rfl, fun h => by (cases h; done), fun h => readR_none hn1 (.inl ⟨by simp, by simp⟩)⟩⟩ | exact ⟨_, resR2 (res1_box s_34 rfl hB2 rfl) (res1_tmp rfl), hX, ⟨aZ, _, rfl, fun h => by (cases h; done), fun h => readR_none hn1 (.inl ⟨fun e => q45 (by simp [e]), fun e => q50 (by simp [e])⟩)⟩⟩ | exact ⟨_, resR2 (res1_box s_34 rfl hB2 rfl) (res1_tmp rfl), hX, ⟨⟨0, m, n, mZ⟩, _, rfl, fun h => read3 (hm1 hg74) (hv1 h), fun h => read30 (.inr (hv0 h))⟩⟩ | exact ⟨_, resR2 (res1_box s_34 rfl hB2 rfl) (res1_tmp rfl), hX, ⟨⟨0, m, n, mZ⟩, _, rfl, fun h => by (cases h; done), fun h => read30 (.inl (hm0 hg74))⟩⟩ | exact ⟨_, resR2 (res1_box s_34 rfl hB2 rfl) (res1_tmp rfl), hX, ⟨⟨0, m, n, mZ⟩, _, rfl, fun h => by (cases h; done), fun h => read60 (.inl (hm0 hg74))⟩⟩ | exact ⟨_, resR2 (res1_box s_34 rfl hB2 rfl) (res1_tmp rfl), hX, ⟨⟨0, m, n, mZ⟩, o2, rfl, fun h => (by rw [h] at hc2; cases hc2), fun h => read60 (.inr (hv0 h))⟩⟩ | exact ⟨_, resR2 (res1_box s_34 rfl hB2 rfl) (res1_tmp rfl), hX, ⟨⟨0, m, n, ⟨(unR t).getD [], (unR p).getD [], decide (k = sKept)⟩⟩, _, rfl, fun h => read6 (hm1 hg74) (hv1 hc2) hg108 h, fun h => read6n (.inr h)⟩⟩ | exact ⟨_, resR2 (res1_box s_34 rfl hB2 rfl) (res1_tmp rfl), hX, ⟨⟨0, m, n, ⟨(unR t).getD [], (unR p).getD [], decide (k = sKept)⟩⟩, _, rfl, fun h => by (cases h; done), fun h => read6n (.inl hg108)⟩⟩
-- bellman/rows.Take
set_option maxHeartbeats 1600000 in
theorem take_ok (w : World) (s : Str) (hn : s.length ≤ 4000) (hT : Tab w) (hR : ErrS w) : Fn Tryd.prog 56 #[Sv s] w fun u w' => u = .tuple #[.agg ((takeR s).getD aZ).enc.toArray, .bool (takeR s).isSome] := by
  have hG := hT.gl (Nat.le_refl w.heap.size); have hTw := hR.two
  have hsl : ∀ a ∈ spl 32 s, a.length ≤ 4000 := fun a ha => Nat.le_trans (spl_le ha) hn
  have hX := Ext.refl Non w
  refine fn_of_W (args := [_]) Tryd.func56 rfl (by kernel_rfl) rfl ?_
  refine W_seq ?_
  refine W_region ?_
  refine wl_alloc z_34 ?_; intro b2 w1 hb2 hE1 hB2
  have hq2 : w.heap.size ≤ b2 := Nat.le_trans hX.size hb2
  have hl2 : Mine Non w b2 := .inr hq2
  replace hX := hX.tr hE1
  replace hT := hT.non hE1
  replace hR := hR.non hE1
  refine wl_val (rn_assign (by conv => lhs; whnf)) ?_
  refine wl_nil ?_
  refine W_seq ?_
  refine W_region ?_
  refine wl_val (rn_move (by conv => lhs; whnf)) ?_
  refine wl_call e_97 rfl (split_ok w1 s (by omega)) ?_; intro v8 w2 hE2 hR2
  replace hX := hX.tr hE2
  replace hB2 := hB2.ext hE2 id
  replace hT := hT.non hE2
  replace hR := hR.non hE2
  have hs8 := hR2
  refine wl_call e_103 rfl (read_ok w2 (spl 32 s) (spl_ne 32 s) hsl hs8 hR) ?_; intro v9 w3 hE3 hR3
  replace hX := hX.tr hE3
  replace hB2 := hB2.ext hE3 id
  replace hT := hT.non hE3
  replace hR := hR.non hE3
  obtain ⟨a, b, rfl, hb1, hb0⟩ := hR3
  refine wl_val (rn_move (by conv => lhs; whnf)) ?_
  refine wl_val (rn_extract rfl rfl) ?_
  refine wl_val (rn_extract rfl rfl) ?_
  refine wl_alloc z_34 ?_; intro b4 w4 hb4 hE4 hB4
  have hn2_4 : b2 < b4 := Nat.lt_of_lt_of_le hB2.lt hb4
  have hq4 : w.heap.size ≤ b4 := Nat.le_trans hX.size hb4
  have hl4 : Mine Non w b4 := .inr hq4
  replace hX := hX.tr hE4
  replace hB2 := hB2.ext hE4 id
  replace hT := hT.non hE4
  replace hR := hR.non hE4
  have hBo := hB4
  refine wl_storeB s_34 rfl rfl rfl (AnsD.one _) hB4 rfl ?_; intro w5 hE5 hB4 hz5
  replace hX := hX.mine hE5 hl4
  replace hB2 := hB2.ext hE5 (fun h => by omega)
  replace hT := hT.ext hE5 (B := w.heap.size) (fun j hj => by subst hj; exact hq4) hG
  replace hR := hR.ext hE5 (B := w.heap.size) (fun j hj => by subst hj; exact hq4) hTw
  refine wl_val (rn_assign (by conv => lhs; whnf)) ?_
  refine wl_nil ?_
  refine W_seq ?_
  refine W_seq ?_
  refine W_region ?_
  refine wl_val (rn_move (by conv => lhs; whnf)) ?_
  refine wl_val (rn_not rfl) ?_
  refine wl_val (rn_move (by conv => lhs; whnf)) ?_
  refine wl_split (d := 14) rfl (fun hg14 => ?_) (fun hg14 => ?_)
  · have hbt : b = false := by simpa using hg14
    have htk := takeR_no (hb0 hbt)
    refine wl_no rfl (congrArg Value.bool hg14) ?_
    refine wl_no rfl (congrArg Value.bool hg14) ?_
    refine wl_no rfl (congrArg Value.bool hg14) ?_
    refine wl_no rfl (congrArg Value.bool hg14) ?_
    refine wl_val (rn_pickT (congrArg Value.bool hg14) (by conv => lhs; whnf)) ?_
    refine wl_nil ?_
    refine W_condT rfl ?_
    refine W_seq ?_
    refine W_region ?_
    refine wl_val (rn_build' b_34 rfl rfl (cs := aZ.enc) rfl) ?_
    have hBo := hB2
    refine wl_storeB s_34 rfl rfl rfl (AnsD.one _) hB2 rfl ?_; intro w6 hE6 hB2 hz6
    replace hX := hX.mine hE6 hl2
    replace hB4 := hB4.ext hE6 (fun h => by omega)
    replace hT := hT.ext hE6 (B := w.heap.size) (fun j hj => by subst hj; exact hq2) hG
    replace hR := hR.ext hE6 (B := w.heap.size) (fun j hj => by subst hj; exact hq2) hTw
    refine wl_val (rn_assign (by conv => lhs; whnf)) ?_
    refine wl_nil ?_
    refine W_ret ?_
    exact ⟨_, resR2 (res1_box s_34 rfl hB2 rfl) (res1_tmp rfl), hX, by rw [htk]; rfl⟩
  · have hbt : b = true := by simpa using hg14
    refine wl_yes rfl (congrArg Value.bool hg14) ?_
    refine wl_val (rn_loadB s_34 rfl rfl hB4) ?_
    refine wl_yes rfl (congrArg Value.bool hg14) ?_
    refine wl_call e_53 rfl (answer_ok w5 a (readR_ok hsl (hb1 hbt)) hT) ?_; intro v16 w7 hE7 hR7
    replace hX := hX.tr hE7
    replace hB2 := hB2.ext hE7 id; replace hB4 := hB4.ext hE7 id
    replace hT := hT.non hE7
    replace hR := hR.non hE7
    subst hR7
    refine wl_yes rfl (congrArg Value.bool hg14) ?_
    refine wl_val (rn_move (by conv => lhs; whnf)) ?_
    refine wl_yes rfl (congrArg Value.bool hg14) ?_
    refine wl_val (rn_sneq rfl rfl) ?_
    refine wl_val (rn_pickF (congrArg Value.bool hg14) (by conv => lhs; whnf)) ?_
    refine wl_nil ?_
    refine W_cond rfl (fun hc0 => ?_) (fun hc0 => ?_)
    · have htk := takeR_ne (hb1 hbt) (of_decide_eq_true hc0)
      refine W_seq ?_
      refine W_region ?_
      refine wl_val (rn_build' b_34 rfl rfl (cs := aZ.enc) rfl) ?_
      have hBo := hB2
      refine wl_storeB s_34 rfl rfl rfl (AnsD.one _) hB2 rfl ?_; intro w8 hE8 hB2 hz8
      replace hX := hX.mine hE8 hl2
      replace hB4 := hB4.ext hE8 (fun h => by omega)
      replace hT := hT.ext hE8 (B := w.heap.size) (fun j hj => by subst hj; exact hq2) hG
      replace hR := hR.ext hE8 (B := w.heap.size) (fun j hj => by subst hj; exact hq2) hTw
      refine wl_val (rn_assign (by conv => lhs; whnf)) ?_
      refine wl_nil ?_
      refine W_ret ?_
      exact ⟨_, resR2 (res1_box s_34 rfl hB2 rfl) (res1_tmp rfl), hX, by rw [htk]; rfl⟩
    · have htk := takeR_yes (hb1 hbt) (Classical.not_not.1 (of_decide_eq_false hc0))
      refine W_skip ?_
      refine W_seq ?_
      refine W_region ?_
      refine wl_val (rn_loadB s_34 rfl rfl hB4) ?_
      have hBo := hB2
      refine wl_storeB s_34 rfl rfl rfl (AnsD.one _) hB2 rfl ?_; intro w9 hE9 hB2 hz9
      replace hX := hX.mine hE9 hl2
      replace hB4 := hB4.ext hE9 (fun h => by omega)
      replace hT := hT.ext hE9 (B := w.heap.size) (fun j hj => by subst hj; exact hq2) hG
      replace hR := hR.ext hE9 (B := w.heap.size) (fun j hj => by subst hj; exact hq2) hTw
      refine wl_val (rn_assign (by conv => lhs; whnf)) ?_
      refine wl_nil ?_
      refine W_ret ?_
      exact ⟨_, resR2 (res1_box s_34 rfl hB2 rfl) (res1_tmp rfl), hX, by rw [htk]; rfl⟩
end Go.Proofs.YthcclgoidchkdaaDoorC
