/- Helps for walks: cuts behind a region, three that are ready at once, bound methods, bits; each rule holds of whatever program. -/
import Derived.Test.YthcclgoidchkdaaDoorCoreU
import Derived.Test.YthcclgoidchkdaaDoorCoreP
import Derived.Test.YthcclgoidchkdaaDoorCoreO
set_option linter.unusedVariables false
set_option linter.unusedSimpArgs false
namespace Go.Proofs.YthcclgoidchkdaaDoorC
open Go.RowKit
variable {ro : Option Nat} {P : Program} {n : Nat} {Q : Post} {σ : Env} {D : List Deferred} {w : World} {dst : Option Nat} {ty : TypeId} {pos : String} {af : Array Edge} {g : Option (Nat × Bool)}
variable {ops rest : List Oper} {K : Ops} {S : World → Prop} {ex : Nat → Bool}

/-- What follows is walked once, whatever way led there. -/
theorem W_cut {T : Type} {x y : Code} (ls : List Nat) (f : T → List Value) (I : T → World → Prop) (h1 : W ro P n x (Then (fun σ' D' w' => D' = D ∧ ∃ s, Holds ls (f s) σ' ∧ I s w') Q) σ D w)
    (h2 : ∀ τ s A, I s A → W ro P n y Q (updN τ ls (f s)) D A) : W ro P n (.seq x y) Q σ D w := by
  refine W_seq (h1.mono fun e σ' D' A h => ?_)
  cases e with
  | normal =>
    obtain ⟨rfl, s, h3, h4⟩ := h
    have := h2 σ' s A h4
    rw [updN_self ls (f s) σ' h3] at this
    exact this
  | _ => exact h
theorem wx_three {ops : List Oper} {f : Nat} {listed : Array Bool} (i j l : Nat) (oi oj ol : Oper) (hi : ops[i]? = some oi) (hj : ops[j]? = some oj) (hl : ops[l]? = some ol) (side : (Region.ready .any ops.toArray listed == [i, j, l]) = true)
    (h1 : step1 P ops oi σ w (fun σ' w' => (ex i = false → S w') ∧ wx P ops ex S K f (listed.setIfInBounds i true) σ' w')) (h2 : step1 P ops oj σ w (fun σ' w' => (ex j = false → S w') ∧ wx P ops ex S K f (listed.setIfInBounds j true) σ' w'))
    (h3 : step1 P ops ol σ w (fun σ' w' => (ex l = false → S w') ∧ wx P ops ex S K f (listed.setIfInBounds l true) σ' w')) : wx P ops ex S K (f + 1) listed σ w := by
  have e : Region.ready .any ops.toArray listed = [i, j, l] := by simpa using side
  refine ⟨fun h0 => (by rw [e] at h0; cases h0), fun k hk o ho => ?_⟩
  rw [e] at hk
  have hk2 : k = i ∨ k = j ∨ k = l := by simpa using hk
  rcases hk2 with rfl | rfl | rfl
  · rw [hi] at ho; cases ho; exact h1
  · rw [hj] at ho; cases ho; exact h2
  · rw [hl] at ho; cases ho; exact h3
/-- A method bound to its receiver. -/
theorem rn_makeFuncF {f : Go.Fn} {fi : List Operand} {vs : List Value} (h : fi.map (ev σ) = vs) : Rn P σ w ⟨dst, .makeFunc f fi.toArray #[], ty, pos, af, g⟩ (.func f vs.toArray #[]) := by
  subst h
  show (execOp (ev σ) _).run P w = _
  simp [execOp, Instr.makeFunc, Sem.run_bind, Result.andThen, Sem.run]
/-- A call of a function value, bound or not. -/
theorem wl_callF {f : FuncId} {x : Operand} {fi cap : Array Value} {as : List Operand} {ts : Array TypeId} {args : List Value} {R : Value → World → Prop} {M : Nat → Prop} (hx : ev σ x = .func (.func f) fi cap) (hf : entersB P f = true) (ha : as.map (ev σ) = args)
    (h : FnM P M f (fi ++ args.toArray ++ cap) w R) (k : ∀ v w', Ext M w w' → R v w' → wl P ops rest K (put σ dst v) w') : wl P ops (⟨dst, .call ⟨.value x, as.toArray, ts⟩, ty, pos, af, none⟩ :: rest) K σ w := by
  show step1 P ops _ σ w _
  rw [step1_none]; unfold op1
  have e : (execOp (ev σ) ⟨dst, .call ⟨.value x, as.toArray, ts⟩, ty, pos, af, none⟩).run P w = .ok (.enter f (fi ++ args.toArray ++ cap)) w := by
    simp [execOp, resolve, hx, ha, Deferred.ofValue, invoke, run_enters hf]
  rw [e]
  exact Calls.mono h fun e w' hx => by obtain ⟨v, h1, h2, h3⟩ := hx; exact ⟨v, h1, k v w' h2 h3⟩
section
variable {x y : Operand} {t u : TypeId} {a b : Int}
theorem rn_neg (hx : ev σ x = .int .i64 a) (h : -9223372036854775808 ≤ -a ∧ -a ≤ 9223372036854775807) : Rn P σ w ⟨dst, .unOp .neg t x, ty, pos, af, g⟩ (.int .i64 (-a)) := by
  show (execOp (ev σ) _).run P w = _
  have e : IntKind.i64.wrap (0 - a) = -a := by rw [Int.zero_sub]; exact wrap_id h
  simp [execOp, hx, Op.unary, Op.intArith, Sem.run_bind, Result.andThen, Sem.run]
  rw [← Int.zero_sub, e, Int.zero_sub]
theorem rn_quo (hx : ev σ x = .int .i64 a) (hy : ev σ y = .int .i64 b) (hb : b ≠ 0) (h : -9223372036854775808 ≤ a.tdiv b ∧ a.tdiv b ≤ 9223372036854775807) : Rn P σ w ⟨dst, .binOp .quo t x y u, ty, pos, af, g⟩ (.int .i64 (a.tdiv b)) := by
  show (execOp (ev σ) _).run P w = _
  have h5 : Op.intDiv .quo .i64 a b = pure (.int .i64 (a.tdiv b)) := by unfold Op.intDiv; rw [if_neg hb]; simp only [wrap_id h]
  simp [execOp, hx, hy, eqGuard, binOp, h5, Sem.run_bind, Result.andThen, Sem.run]
theorem rn_tmod (hx : ev σ x = .int .i64 a) (hy : ev σ y = .int .i64 b) (hb : b ≠ 0) : Rn P σ w ⟨dst, .binOp .rem t x y u, ty, pos, af, g⟩ (.int .i64 (a.tmod b)) := by
  show (execOp (ev σ) _).run P w = _
  have h5 : Op.intDiv .rem .i64 a b = pure (.int .i64 (a.tmod b)) := by unfold Op.intDiv; rw [if_neg hb]
  simp [execOp, hx, hy, eqGuard, binOp, h5, Sem.run_bind, Result.andThen, Sem.run]
/-- 1 << i -/
theorem rn_shl1 {i : Nat} (hx : ev σ x = .int .i64 1) (hy : ev σ y = .int .i64 (i : Int)) (hi : i < 62) : Rn P σ w ⟨dst, .binOp .shl t x y u, ty, pos, af, g⟩ (.int .i64 ((2 ^ i : Nat) : Int)) := by
  show (execOp (ev σ) _).run P w = _
  have hp : 2 ^ i ≤ 2 ^ 61 := Nat.pow_le_pow_right (by decide) (by omega)
  have hc : (2 : Int) ^ i = ((2 ^ i : Nat) : Int) := by simp
  have e1 : IntKind.i64.wrap (1 * 2 ^ (min ((i : Nat) : Int).toNat IntKind.i64.bits)) = ((2 ^ i : Nat) : Int) := by
    have : min ((i : Nat) : Int).toNat IntKind.i64.bits = i := by simp [IntKind.bits]; omega
    rw [this, Int.one_mul, hc]
    generalize 2 ^ i = q at hp
    exact wrap_id (by omega)
  have e2 : Op.shift .shl .i64 1 .i64 (i : Int) = pure (.int .i64 ((2 ^ i : Nat) : Int)) := by
    unfold Op.shift; rw [if_neg (by omega)]; simp only [e1]
  simp [execOp, hx, hy, eqGuard, binOp, e2, Sem.run_bind, Result.andThen, Sem.run]
/-- m | 1 << i, m below that -/
theorem rn_or2 {m i : Nat} (hx : ev σ x = .int .i64 (m : Int)) (hy : ev σ y = .int .i64 ((2 ^ i : Nat) : Int)) (hm : m < 2 ^ i) (hi : i < 62) : Rn P σ w ⟨dst, .binOp .or t x y u, ty, pos, af, g⟩ (.int .i64 ((m + 2 ^ i : Nat) : Int)) := by
  show (execOp (ev σ) _).run P w = _
  have hp : 2 ^ i ≤ 2 ^ 61 := Nat.pow_le_pow_right (by decide) (by omega)
  have e1 : (BitVec.ofInt 64 (m : Int) ||| BitVec.ofInt 64 ((2 ^ i : Nat) : Int)).toNat = m + 2 ^ i := by
    rw [BitVec.toNat_or]
    have h1 : (BitVec.ofInt 64 (m : Int)).toNat = m := by rw [BitVec.ofInt_natCast, BitVec.toNat_ofNat]; exact Nat.mod_eq_of_lt (by generalize 2 ^ i = q at hp hm; omega)
    have h2 : (BitVec.ofInt 64 ((2 ^ i : Nat) : Int)).toNat = 2 ^ i := by rw [BitVec.ofInt_natCast, BitVec.toNat_ofNat]; exact Nat.mod_eq_of_lt (by generalize 2 ^ i = q at hp; omega)
    rw [h1, h2]
    have := Nat.two_pow_add_eq_or_of_lt hm 1
    simp only [Nat.mul_one] at this
    rw [Nat.or_comm, ← this]; omega
  have e2 : Op.intBits .or .i64 (m : Int) ((2 ^ i : Nat) : Int) = pure (.int .i64 ((m + 2 ^ i : Nat) : Int)) := by
    show (pure (Value.int .i64 (IntKind.i64.wrap ((BitVec.ofInt 64 (m : Int) ||| BitVec.ofInt 64 ((2 ^ i : Nat) : Int)).toNat : Int))) : Sem Value) = _
    rw [e1, wrap_id (by generalize 2 ^ i = q at hp hm; omega)]
  simp only [execOp, hx, hy]
  have e3 : (eqGuard .or t x y (.int .i64 (m : Int)) (.int .i64 ((2 ^ i : Nat) : Int))) = pure () := rfl
  have e4 : binOp .or t (.int .i64 (m : Int)) (.int .i64 ((2 ^ i : Nat) : Int)) = Op.intBits .or .i64 (m : Int) ((2 ^ i : Nat) : Int) := rfl
  rw [e3, e4, e2]; rfl
end
theorem W_drawXF (F : Nat → Prop) (ex : Nat → Bool) {id : Nat} {l : List Oper} (hm : P.follows .mixedOrders = true)
    (h : ∀ w1, Ext Non w w1 → wx P l ex (fun A => Ext F w1 A) (fun σ' w' => Q .normal σ' D w') l.length (Array.replicate l.length false) σ w1) : W ro P n (.region id l.toArray true) Q σ D w :=
  W_drawX0 _ hm (h _ (Ext.refl _ _).drew)
theorem FnM.mono {M : Nat → Prop} {f : FuncId} {args : Array Value} {R R' : Value → World → Prop} (h : FnM P M f args w R) (hr : ∀ v w', Ext M w w' → R v w' → R' v w') : FnM P M f args w R' :=
  Calls.mono h fun e w' hx => by obtain ⟨v, h1, h2, h3⟩ := hx; exact ⟨v, h1, h2, hr _ _ h2 h3⟩
theorem FnM.sub {M M' : Nat → Prop} {f : FuncId} {args : Array Value} {R : Value → World → Prop} (h : FnM P M f args w R) (hm : ∀ i, M i → M' i) : FnM P M' f args w R :=
  Calls.mono h fun e w' hx => by obtain ⟨v, h1, h2, h3⟩ := hx; exact ⟨v, h1, h2.mono hm, h3⟩
/-- No function is nil. -/
theorem rn_nofunc_eql {t u : TypeId} (ht : (match P.underlying t with | some (.func ..) => true | _ => false) = true) {x y : Operand} (hx : ev σ x = .nilFunc) (hy : ev σ y = .nilFunc) :
    Rn P σ w ⟨dst, .binOp .eql t x y u, ty, pos, af, g⟩ (.bool true) := by
  show (execOp (ev σ) _).run P w = _
  have h1' : ∀ d, (Op.equalIn (d + 1) t .nilFunc .nilFunc).run P w = .ok true w := by
    intro d
    cases hu : P.underlying t with
    | none => simp [hu] at ht
    | some d => cases d <;> simp [hu] at ht; simp only [Op.equalIn, Sem.run_bind, run_underlying hu, Result.andThen_ok, Sem.run_pure]
  have h1 := h1' 9999
  have h2 : (binOp .eql t .nilFunc .nilFunc).run P w = .ok (.bool true) w := by
    show (do pure (Value.bool (← Op.equal t .nilFunc .nilFunc))).run P w = _
    rw [Sem.run_bind]
    rw [show Op.equal t .nilFunc .nilFunc = Op.equalIn (9999 + 1) t .nilFunc .nilFunc from rfl, h1]
    rfl
  have h3 : (eqGuard .eql t x y .nilFunc .nilFunc).run P w = .ok () w := rfl
  simp only [execOp, hx, hy]
  rw [Sem.run_bind, Sem.run_bind, h3, Result.andThen_ok, h2]
  rfl
/-- One's own blocks, written. -/
theorem Ext.own2 {F F' : Nat → Prop} {A B : World} (h : Ext F w A) (k : Ext F' A B) (hF : ∀ i, F' i → Mine F w i) : Ext F w B :=
  ⟨k.os.trans h.os, k.tape.trans h.tape, k.output.trans h.output, Nat.le_trans h.size k.size, fun i hi hn => (k.block i (Nat.lt_of_lt_of_le hi h.size) fun h' => by rcases hF i h' with q | q; exact hn q; omega).trans (h.block i hi hn)⟩
end Go.Proofs.YthcclgoidchkdaaDoorC
