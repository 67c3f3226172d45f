/- Tries in memory. -/
import Derived.Test.YtjklgohpminefaaGreatDoorBunQ4
import Derived.Test.YtjklgohpminefaaGreatDoorBunQ5
import Derived.Test.YtjklgohpminefaaGreatDoorBunQ3
import Derived.Test.YtjklgohpminefaaGreatDoorBunQ2

set_option linter.unusedVariables false
set_option linter.unusedSimpArgs false
set_option maxRecDepth 1000000
namespace Go.Proofs.YtjklgohpminefaaGreatDoorC
open Go.RowKit
section
inductive TrM (M : Nat → Prop) (w : World) : Tr → Value → Prop
 | nil : TrM M w .bare (.pointer none)
 | box {b : Nat} {v1 v2 v3 v4 : Value} {ps : List Value} {us : List (List Value)} {ss : List Int} {ks : List Str} {vs : List Tr} (hb : ¬ M b) (hB : Zj w b [v1, v2, v3, v4]) (h1 : Qs M w eI1 0 v1 v2 ss us) (h2 : Qs M w eS1 1 v3 v4 ks (ps.map fun p => [p])) (h3 : ps.length = vs.length)
   (h4 : ∀ (i : Nat) (t : Tr) (p : Value), vs[i]? = some t → ps[i]? = some p → TrM M w t p) : TrM M w (.node ss ks vs) (.pointer (some ⟨b, 0, none⟩))
theorem TrM.ext {M M' : Nat → Prop} {w w' : World} (hE : Ext M' w w') (hm : ∀ i, M' i → M i) {t : Tr} {v : Value} (h : TrM M w t v) : TrM M w' t v := by
 induction h with
 | nil => exact .nil
 | box hb hB h1 h2 h3 _ ih => exact .box hb (hB.ext hE fun h => hb (hm _ h)) (h1.ext hE hm) (h2.ext hE hm) h3 ih
theorem TrM.sub {M M' : Nat → Prop} {w : World} (hm : ∀ i, M' i → i < w.heap.size → M i) {t : Tr} {v : Value} (h : TrM M w t v) : TrM M' w t v := by
 induction h with
 | nil => exact .nil
 | box hb hB h1 h2 h3 _ ih => exact .box (fun h => hb (hm _ h hB.lt)) hB (h1.sub hm) (h2.sub hm) h3 ih
theorem TrM.ptr {M : Nat → Prop} {w : World} {t : Tr} {v : Value} (h : TrM M w t v) : ∃ a, v = .pointer a := by cases h; exact ⟨_, rfl⟩; exact ⟨_, rfl⟩
theorem TrM.one {M : Nat → Prop} {w : World} {t : Tr} {v : Value} (h : TrM M w t v) : v.oneCell' = true ∧ v.cells = #[v] := by obtain ⟨a, rfl⟩ := h.ptr; exact ⟨rfl, rfl⟩
def NdC (M : Nat → Prop) (w : World) (t : Tr) (cs : List Value) : Prop := ∃ (v1 v2 v3 v4 : Value) (ps : List Value) (us : List (List Value)), cs = [v1, v2, v3, v4] ∧ Qs M w eI1 0 v1 v2 t.subs us ∧ Qs M w eS1 1 v3 v4 t.keys (ps.map fun p => [p]) ∧ ps.length = t.vals.length ∧
 ∀ (i : Nat) (k : Tr) (p : Value), t.vals[i]? = some k → ps[i]? = some p → TrM M w k p
theorem NdC.ext {M M' : Nat → Prop} {w w' : World} {t : Tr} {cs : List Value} (h : NdC M w t cs) (hE : Ext M' w w') (hm : ∀ i, M' i → M i) : NdC M w' t cs := by
 obtain ⟨v1, v2, v3, v4, ps, us, e, h1, h2, h3, h4⟩ := h
 exact ⟨v1, v2, v3, v4, ps, us, e, h1.ext hE hm, h2.ext hE hm, h3, fun i k p hk hp => (h4 i k p hk hp).ext hE hm⟩
theorem NdC.sub {M M' : Nat → Prop} {w : World} {t : Tr} {cs : List Value} (h : NdC M w t cs) (hm : ∀ i, M' i → i < w.heap.size → M i) : NdC M' w t cs := by
 obtain ⟨v1, v2, v3, v4, ps, us, e, h1, h2, h3, h4⟩ := h
 exact ⟨v1, v2, v3, v4, ps, us, e, h1.sub hm, h2.sub hm, h3, fun i k p hk hp => (h4 i k p hk hp).sub hm⟩
theorem NdC.bare {M : Nat → Prop} {w : World} : NdC M w .bare [.slice none 0 0, .slice none 0 0, .slice none 0 0, .slice none 0 0] :=
 ⟨_, _, _, _, [], [], rfl, ⟨Sl.nil _ _ _, Sl.nil _ _ _, rfl⟩, ⟨Sl.nil _ _ _, Sl.nil _ _ _, rfl⟩, rfl, fun i k p h => by simp [Tr.vals] at h⟩
theorem TrM.cells {M : Nat → Prop} {w : World} {t : Tr} {v : Value} (h : TrM M w t v) : (v = .pointer none ∧ t = .bare) ∨ ∃ b cs, v = .pointer (some ⟨b, 0, none⟩) ∧ ¬ M b ∧ Zj w b cs ∧ NdC M w t cs := by
 cases h with
 | nil => exact .inl ⟨rfl, rfl⟩
 | box hb hB h1 h2 h3 h4 => exact .inr ⟨_, _, rfl, hb, hB, _, _, _, _, _, _, rfl, h1, h2, h3, h4⟩
theorem NdC.tree {M : Nat → Prop} {w : World} {t : Tr} {cs : List Value} {b : Nat} (h : NdC M w t cs) (hb : ¬ M b) (hB : Zj w b cs) : TrM M w t (.pointer (some ⟨b, 0, none⟩)) := by
 obtain ⟨v1, v2, v3, v4, ps, us, rfl, h1, h2, h3, h4⟩ := h
 cases t; exact .box hb hB h1 h2 h3 h4
theorem NdC.parts {M : Nat → Prop} {w : World} {t : Tr} {cs : List Value} (h : NdC M w t cs) : ∃ (q1 : Option Addr) (n1 c1 : Nat) (q2 : Option Addr) (n2 c2 : Nat) (q3 : Option Addr) (n3 c3 : Nat) (q4 : Option Addr) (n4 c4 : Nat) (us : List (List Value)) (ps : List Value), cs = [.slice q1 n1 c1, .slice q2 n2 c2, .slice q3 n3 c3, .slice q4 n4 c4] ∧ Qs M w eI1 0 (.slice q1 n1 c1) (.slice q2 n2 c2) t.subs us ∧ Qs M w eS1 1 (.slice q3 n3 c3) (.slice q4 n4 c4) t.keys (ps.map fun p => [p]) ∧
  ps.length = t.vals.length ∧ ∀ (i : Nat) (k : Tr) (p : Value), t.vals[i]? = some k → ps[i]? = some p → TrM M w k p := by
 obtain ⟨v1, v2, v3, v4, ps, us, rfl, h1, h2, h3, h4⟩ := h
 obtain ⟨q1, n1, c1, rfl⟩ := h1.keys.shape; obtain ⟨q2, n2, c2, rfl⟩ := h1.vals.shape
 obtain ⟨q3, n3, c3, rfl⟩ := h2.keys.shape; obtain ⟨q4, n4, c4, rfl⟩ := h2.vals.shape
 exact ⟨_, _, _, _, _, _, _, _, _, _, _, _, us, ps, rfl, h1, h2, h3, h4⟩
theorem putW_tr {M : Nat → Prop} {w : World} {ks : List Str} {l : Str} {vs : List Tr} {ps : List Value} {k : Tr} {vk : Value} (h1 : vs.length = ks.length) (h2 : ps.length = ks.length) (hk : ∀ (i : Nat) (t : Tr) (p : Value), vs[i]? = some t → ps[i]? = some p → TrM M w t p) (hv : TrM M w k vk) :
  ∀ (i : Nat) (t : Tr) (p : Value), (putW ltS ks l vs k)[i]? = some t → (putW ltS ks l ps vk)[i]? = some p → TrM M w t p := by
 intro i t p
 have hb := lb_le (lt := ltS) ks l
 unfold putW
 by_cases ha : XP ltS ks l = true
 ·rw [if_pos ha, if_pos ha]
  have hlt := X3 ha
  intro h3 h4
  rw [List.getElem?_set] at h3 h4
  by_cases e : lb ltS ks l = i
  ·rw [if_pos e, if_pos (by omega)] at h3 h4
   cases h3; cases h4; exact hv
  ·rw [if_neg e] at h3 h4; exact hk i t p h3 h4
 ·rw [if_neg ha, if_neg ha]
  intro h3 h4
  rw [List.getElem?_append, List.length_take, Nat.min_eq_left (by omega)] at h3 h4
  by_cases c : i < lb ltS ks l
  ·rw [if_pos c, List.getElem?_take_of_lt c] at h3 h4; exact hk i t p h3 h4
  ·rw [if_neg c] at h3 h4
   cases hj : i - lb ltS ks l with
   | zero => rw [hj] at h3 h4; simp only [List.getElem?_cons_zero, Option.some.injEq] at h3 h4; subst h3; subst h4; exact hv
   | succ j => rw [hj] at h3 h4; rw [List.getElem?_cons_succ, List.getElem?_drop] at h3 h4; exact hk _ t p h3 h4
theorem NdC.shape {M : Nat → Prop} {w : World} {t : Tr} {cs : List Value} (h : NdC M w t cs) : ∃ q1 n1 c1 q2 n2 c2 q3 n3 c3 q4 n4 c4, cs = [.slice q1 n1 c1, .slice q2 n2 c2, .slice q3 n3 c3, .slice q4 n4 c4] := by
 obtain ⟨v1, v2, v3, v4, ps, us, rfl, h1, h2, h3, h4⟩ := h
 obtain ⟨q1, n1, c1, rfl⟩ := h1.keys.shape; obtain ⟨q2, n2, c2, rfl⟩ := h1.vals.shape
 obtain ⟨q3, n3, c3, rfl⟩ := h2.keys.shape; obtain ⟨q4, n4, c4, rfl⟩ := h2.vals.shape
 exact ⟨_, _, _, _, _, _, _, _, _, _, _, _, rfl⟩
section
variable {P : Program} {σ : Env} {w : World} {dst : Option Nat} {ty : TypeId} {pos : String} {g}
theorem Z9 {t u : TypeId} {af} (ht : (match P.underlying t with | some (.pointer ..) => true | _ => false) = true) {x y : Operand} {a : Option Addr} (hx : ev σ x = .pointer a) (hy : ev σ y = .pointer none) :
  Rn P σ w ⟨dst, .binOp .eql t x y u, ty, pos, af, g⟩ (.bool (a.isNone)) := by
 show (execOp (ev σ) _).run P w = _
 have h1' : ∀ d, (Op.equalIn (d + 1) t (.pointer a) (.pointer none)).run P w = .ok (a.isNone) w := by
  intro d
  cases hu : P.underlying t with
  | none => simp [hu] at ht
  | some d => cases d <;> simp [hu] at ht; cases a <;> simp only [Op.equalIn, Sem.run_bind, run_underlying hu, Result.andThen_ok, Sem.run_pure] <;> rfl
 have h1 := h1' 9999
 have h2 : (binOp .eql t (.pointer a) (.pointer none)).run P w = .ok (.bool (a.isNone)) w := by
  show (do pure (Value.bool (← Op.equal t (.pointer a) (.pointer none)))).run P w = _
  rw [Sem.run_bind]
  rw [show Op.equal t (.pointer a) (.pointer none) = Op.equalIn (9999 + 1) t (.pointer a) (.pointer none) from rfl, h1]
  rfl
 have h3 : (eqGuard .eql t x y (.pointer a) (.pointer none)).run P w = .ok () w := by cases a <;> rfl
 simp only [execOp, hx, hy]
 rw [Sem.run_bind, Sem.run_bind, h3, Result.andThen_ok, h2]
 rfl
theorem rn_fieldS {t u : TypeId} {f off k : Nat} {af} (hF : Z0 P t f off u k) (hS : XD P u k) {x : Operand} {cs vs : List Value} (hx : ev σ x = .agg cs.toArray) (h : (cs.drop off).take k = vs) :
  Rn P σ w ⟨dst, .field t x f, ty, pos, af, g⟩ (.agg vs.toArray) := by
 show (execOp (ev σ) _).run P w = _
 obtain ⟨fs, fl, i, h1, h2, h3, h4, h5, h6⟩ := hF.spec
 subst h4; subst h
 have hsz := Jn (w := w) hS.2
 simp [execOp, hx, Instr.field, run_underlying h1, h2, asAgg, part, hS.agg, hsz, h3, List.extract_eq_take_drop]
end
end
section
theorem then_ok (w : World) {M : Nat → Prop} {R : Value → World → Prop} {f : FuncId} {fi cap : Array Value} (hf : Xa Tryz.prog f = true) (h : FnM Tryz.prog M f (fi ++ cap) w R) : FnM Tryz.prog M 66 #[.func (.func f) fi cap] w fun u w' => R u w' := by
 have hX := Ext.refl M w
 refine Zfm (args := [_]) Tryz.func66 rfl rfl ?_
 refine Zs (Za ?_)
 refine Zc (ZC (Zs (Zm ?_)))
 refine Zb (Q3 uf_94 rfl rfl) (Zc (Xu rfl (ZF (Zs (Zm ?_)))))
 refine XW (args := []) rfl hf rfl (by simpa using h) ?_; intro v6 w1 E1 R6
 replace hX := E1
 refine Za ?_
 refine Zc (ZB ?_)
 exact ⟨_, ZD (Zh rfl), hX, R6⟩
theorem do_ok (w : World) {fv nv : Value} (hc1 : fv.cells = #[fv]) (hc2 : nv.cells = #[nv]) : Fn Tryz.prog 62 #[fv, nv] w fun u w' => ∃ b2 b3, u = .func (.func 122) #[] #[(Zpt b2), (Zpt b3)] ∧ w.heap.size ≤ b2 ∧ w.heap.size ≤ b3 ∧ Zj w' b2 [fv] ∧ Zj w' b3 [nv] := by
 have hX := Ext.refl Non w
 refine Zfw (args := [_, _]) Tryz.func62 rfl rfl ?_
 refine Zs (ZP (by conv => lhs; whnf) hc1 ?_); intro b2 w1 hb2 E1 B2
 have hq2 := Zq hX hb2
 replace hX := hX.tr E1
 refine ZP (by conv => lhs; whnf) hc2 ?_; intro b3 w2 hb3 E2 B3
 have hn2_3 := Zn B2 hb3
 have hq3 := Zq hX hb3
 replace hX := hX.tr E2
 replace B2 := Zx B2 E2
 refine Za ?_
 refine Zc (Zs (Zb (ZL rfl) (Za ?_)))
 refine Zc (ZB ?_)
 exact ⟨_, ZD (Zh rfl), hX, ⟨b2, b3, rfl, hq2, hq3, B2, B3⟩⟩
theorem do1_ok (w : World) {S : Type} {Y : Sys S} {me : Nat} {G : Tg} {r : Out S} {b0 b1 : Nat} {f f2 : FuncId} {fi cap fi2 cap2 : Array Value} (hk0 : G b0 = kpT me) (hk1 : G b1 = kpT me) (hB0 : Zj w b0 [.func (.func f) fi cap]) (B1 : Zj w b1 [.func (.func f2) fi2 cap2]) (e1 : Xa Tryz.prog f = true) (e2 : Xa Tryz.prog f2 = true) (Mid : Tg → World → Prop) (h1 : FnM Tryz.prog (Wr me G) f (fi ++ cap) w fun _ w1 => ∃ G1, Tgs me G w G1 w1 ∧ Mid G1 w1) (h2 : ∀ G1 w1, Tgs me G w G1 w1 → Ext (Wr me G) w w1 → Mid G1 w1 → MkS Y Tryz.prog me f2 (fi2 ++ cap2) G1 w1 r) : FnM Tryz.prog (Wr me G) 122 #[(Zpt b0), (Zpt b1)] w fun u w' => ∃ v', u = .tuple #[v', .bool true] ∧ Xh Y Tryz.prog me G w r v' w' := by
 have hX := Ext.refl (Wr me G) w
 refine Zfm (args := [_, _]) Tryz.func122 rfl rfl ?_
 refine Zs (Za (Za ?_))
 refine Zc (ZC (Zs (Zb (Zi p_1 rfl hB0 rfl) (Zb (rn_func_neq uf_1 rfl rfl) (Zc (Qr rfl (ZJ (Zb (Zi p_1 rfl hB0 rfl) ?_))))))))
 refine XW (args := []) rfl e1 rfl (by simpa using h1) ?_; intro v7 w1 E1 R1
 obtain ⟨G1, ht1, hm1⟩ := R1
 replace hX := E1
 replace B1 := B1.ext E1 (kp_nw hk1)
 have hX1 := hX
 refine Zc (Zs (Zb (Zi p_94 rfl B1 rfl) (ZI zE rfl (then_ok w1 e2 (h2 G1 w1 ht1 hX1 hm1)) ?_))); intro v9 w2 E2 hR9
 replace hX := hX.wr ht1 E2
 refine Za (Za ?_)
 refine Zc (ZB ?_)
 exact ⟨_, Qd (Zh rfl) (Zh rfl), hX, ⟨_, rfl, hR9.pre ht1 hX1.size⟩⟩
theorem do1n_ok (w : World) {S : Type} {Y : Sys S} {me : Nat} {G : Tg} {r : Out S} {b0 b1 : Nat} {f2 : FuncId} {fi2 cap2 : Array Value} (hB0 : Zj w b0 [.nilFunc]) (B1 : Zj w b1 [.func (.func f2) fi2 cap2]) (e2 : Xa Tryz.prog f2 = true) (h2 : MkS Y Tryz.prog me f2 (fi2 ++ cap2) G w r) : FnM Tryz.prog (Wr me G) 122 #[(Zpt b0), (Zpt b1)] w fun u w' => ∃ v', u = .tuple #[v', .bool true] ∧ Xh Y Tryz.prog me G w r v' w' := by
 have hX := Ext.refl (Wr me G) w
 refine Zfm (args := [_, _]) Tryz.func122 rfl rfl ?_
 refine Zs (Za (Za ?_))
 refine Zc (ZC (Zs (Zb (Zi p_1 rfl hB0 rfl) (Zb (rn_nofunc_neq (by kernel_rfl) rfl rfl) (Zc (Xu rfl (ZF (ZC ?_))))))))
 refine ZJ (Zb (Zi p_94 rfl B1 rfl) (ZI zE rfl (then_ok w e2 h2) ?_)); intro v9 w1 E1 hR9
 replace hX := E1
 refine Za (Za ?_)
 refine Zc (ZB ?_)
 exact ⟨_, Qd (Zh rfl) (Zh rfl), hX, ⟨_, rfl, hR9⟩⟩
theorem lock_ok (w : World) {lv nv : Value} (o : Int) (hc1 : lv.cells = #[lv]) (hc2 : nv.cells = #[nv]) : Fn Tryz.prog 67 #[lv, .int .i64 o, nv] w fun u w' => ∃ b3 b4 b5, u = .func (.func 124) #[] #[(Zpt b3), (Zpt b4), (Zpt b5)] ∧ w.heap.size ≤ b3 ∧ w.heap.size ≤ b4 ∧ w.heap.size ≤ b5 ∧ Zj w' b3 [lv] ∧ Zj w' b4 [.int .i64 o] ∧ Zj w' b5 [nv] := by
 have hX := Ext.refl Non w
 refine Zfw (args := [_, _, _]) Tryz.func67 rfl rfl ?_
 refine Zs (ZP (by conv => lhs; whnf) hc1 ?_); intro b3 w1 hb3 E1 B3
 have hq3 := Zq hX hb3
 replace hX := hX.tr E1
 refine ZP (by conv => lhs; whnf) rfl ?_; intro b4 w2 hb4 E2 B4
 have hn3_4 := Zn B3 hb4
 have hq4 := Zq hX hb4
 replace hX := hX.tr E2
 replace B3 := Zx B3 E2
 refine ZP (by conv => lhs; whnf) hc2 ?_; intro b5 w3 hb5 E3 B5
 have hn3_5 := Zn B3 hb5
 have hn4_5 := Zn B4 hb5
 have hq5 := Zq hX hb5
 replace hX := hX.tr E3
 replace B3 := Zx B3 E3; replace B4 := Zx B4 E3
 refine Za ?_
 refine Zc (Zs (Zb (ZL rfl) (Za ?_)))
 refine Zc (ZB ?_)
 exact ⟨_, ZD (Zh rfl), hX, ⟨b3, b4, b5, rfl, hq3, hq4, hq5, B3, B4, B5⟩⟩
theorem lock1_ok (w : World) {S : Type} {Y : Sys S} {me : Nat} {G : Tg} {r : Out S} {b0 b1 b2 : Nat} {lv : Value} {o : Int} {f2 : FuncId} {fi2 cap2 : Array Value} (hk2 : G b2 = kpT me) (hl1 : lv.oneCell' = true) (hB0 : Zj w b0 [lv]) (B1 : Zj w b1 [.int .i64 o]) (B2 : Zj w b2 [.func (.func f2) fi2 cap2]) (e2 : Xa Tryz.prog f2 = true) (t : Bool) (Mid : Tg → World → Prop) (Bad : World → Tg → World → Prop) (h1 : FnM Tryz.prog (Wr me G) 125 #[lv, .int .i64 o] w fun u w1 => u = .bool t ∧ ∃ G1, Tgs me G w G1 w1 ∧ (t = true → Mid G1 w1) ∧ (t = false → Bad w G1 w1)) (h2 : t = true → ∀ G1 w1, Tgs me G w G1 w1 → Ext (Wr me G) w w1 → Mid G1 w1 → MkS Y Tryz.prog me f2 (fi2 ++ cap2) G1 w1 r) : FnM Tryz.prog (Wr me G) 124 #[(Zpt b0), (Zpt b1), (Zpt b2)] w fun u w' => ∃ v', u = .tuple #[v', .bool t] ∧ (t = true → Xh Y Tryz.prog me G w r v' w') ∧ (t = false → v' = .nilFunc ∧ ∃ G1, Tgs me G w G1 w' ∧ Bad w G1 w') := by
 have hX := Ext.refl (Wr me G) w
 refine Zfm (args := [_, _, _]) Tryz.func124 rfl rfl ?_
 refine Zs (Za (Za ?_))
 refine Zc (ZC (Zs (Zb (Zi p_144 rfl hB0 rfl) (Zb (Zi p_3 rfl B1 rfl) (ZI zE rfl h1 ?_))))); intro v7 w1 E1 R1
 obtain ⟨rfl, G1, ht1, hm1, hn1⟩ := R1
 replace hX := E1
 replace B2 := B2.ext E1 (kp_nw hk2)
 have hX1 := hX
 refine Zb (Xy rfl) (Zc ?_)
 refine ZE rfl (fun hc0 => ?_) (fun hc0 => ?_)
 ·refine Zs (Za (Za ?_))
  refine Zc (ZB ?_)
  obtain rfl : t = false := by simpa using hc0
  exact ⟨_, Qd (Zh rfl) (Zh rfl), hX, ⟨_, rfl, fun h => (by cases h), fun h => ⟨rfl, G1, ht1, hn1 h⟩⟩⟩
 ·refine ZF (Zs (Zb (Zi p_94 rfl B2 rfl) (ZI zE rfl (then_ok w1 e2 (h2 (by simpa using hc0) G1 w1 ht1 hX1 (hm1 (by simpa using hc0)))) ?_))); intro v10 w2 E2 hR10
  replace hX := hX.wr ht1 E2
  refine Za (Za ?_)
  refine Zc (ZB ?_)
  obtain rfl : t = true := by simpa using hc0
  exact ⟨_, Qd (Zh rfl) (Zh rfl), hX, ⟨_, rfl, fun h => hR10.pre ht1 hX1.size, fun h => (by cases h)⟩⟩
section
variable {S : Type} {Y : Sys S} {me : Nat} {α β : Type} {J : α → Tg → World → Prop} {J' : β → Tg → World → Prop} {F : α → S → Fo β S} {ψ : β → S → Out S} {φ : α → S → Out S} {G : Tg} {fv nv : Value} {x : α} {s : S} {w : World}
theorem ZW {me : Nat} {G : Tg} {w w' : World} : Tgs me G w (gx G w.heap.size fun _ => kpT me) w' := Tgs.non fun _ _ _ => .inr (.inl rfl)
theorem act_cells (h : ActM Y Tryz.prog me J J' F G w fv) : fv.cells = #[fv] := by obtain ⟨f, fi, cap, rfl, _⟩ := h; rfl
theorem next_cells {ar : α → Array Value} (h : X1 Y Tryz.prog me J ar φ G w nv) : nv.cells = #[nv] := by obtain ⟨f, fi, cap, rfl, _⟩ := h; rfl
theorem JN {ar : α → Array Value} (h : X1 Y Tryz.prog me J ar φ G w nv) : nv.oneCell' = true := by obtain ⟨f, fi, cap, rfl, _⟩ := h; rfl
theorem do_step {b2 b3 : Nat} (B2 : Bx (kpT me) G w b2 [fv]) (B3 : Bx (kpT me) G w b3 [nv]) (ha : ActM Y Tryz.prog me J J' F G w fv) (hn : X5 Y Tryz.prog me J' ψ G w nv) (hJ : J x G w) (hs : Stb me J) :
  Jt Y Tryz.prog me (doP (Xp F ψ x)) G w (.func (.func 122) #[] #[(Zpt b2), (Zpt b3)]) := by
 obtain ⟨f, fi, cap, rfl, e1, h1⟩ := ha
 obtain ⟨f2, fi2, cap2, rfl, e2, h2⟩ := hn
 refine ⟨_, _, rfl, zE, fun G' w' s hS hM hp => ?_⟩
 simp only [Xp, Bool.and_eq_true] at hp
 have hb2 := B2.same hS (.inr (.inl rfl)); have hb3 := B3.same hS (.inr (.inl rfl))
 refine (do1_ok (Y := Y) (r := Xp F ψ x s) w' hb2.2 hb3.2 hb2.1 hb3.1 e1 e2 (fun G1 w1 => Y.SM G1 w1 (F x s).st ∧ J' (F x s).x G1 w1) (h1 x G' w' s hS.myI hM hp.1 (hs x G w G' w' hJ hS)) ?_).mono ?_
 ·intro G1 w1 ht hE hm
  have := h2 (F x s).x G1 w1 (F x s).st (hS.myI.trans (ht.same hE)) hm.1 hp.2 hm.2
  have h4 : MkS Y Tryz.prog me f2 (fi2 ++ cap2) G1 w1 (ψ (F x s).x (F x s).st) := by simpa using this
  exact h4
 ·rintro u w'' hE ⟨v', rfl, G'', k1, k2, k3⟩
  exact ⟨G'', v', true, rfl, k1, rfl, fun _ => ⟨k2, k3⟩, fun h => by cases h⟩
theorem do0_step {b2 b3 : Nat} (B2 : Bx (kpT me) G w b2 [.nilFunc]) (B3 : Bx (kpT me) G w b3 [nv]) (hn : X5 Y Tryz.prog me J φ G w nv) (hJ : J x G w) (hs : Stb me J) :
  Jt Y Tryz.prog me (doP (φ x)) G w (.func (.func 122) #[] #[(Zpt b2), (Zpt b3)]) := by
 obtain ⟨f2, fi2, cap2, rfl, e2, h2⟩ := hn
 refine ⟨_, _, rfl, zE, fun G' w' s hS hM hp => ?_⟩
 have hb2 := B2.same hS (.inr (.inl rfl)); have hb3 := B3.same hS (.inr (.inl rfl))
 refine (do1n_ok (Y := Y) (r := φ x s) w' hb2.1 hb3.1 e2 (by simpa using h2 x G' w' s hS.myI hM hp (hs x G w G' w' hJ hS))).mono ?_
 rintro u w'' hE ⟨v', rfl, G'', k1, k2, k3⟩
 exact ⟨G'', v', true, rfl, k1, rfl, fun _ => ⟨k2, k3⟩, fun h => by cases h⟩
theorem Jp (hM : Y.SM G w s) (ha : ActM Y Tryz.prog me J J' F G w fv) (hn : X5 Y Tryz.prog me J' ψ G w nv) (hJ : J x G w) (hs : Stb me J) {a : Bool} : MkS Y Tryz.prog me 62 #[fv, nv] G w ⟨a, s, doP (Xp F ψ x)⟩ := by
 have h0 : FnM Tryz.prog Non 62 #[fv, nv] w _ := do_ok w (act_cells ha) (next_cells hn)
 refine (h0.mono ?_).sub (fun _ h => h.elim)
 rintro u w' hE ⟨b2, b3, rfl, q2, q3, B2, B3⟩
 exact ⟨_, ZW, Y.same hM (ZV.gx hE), do_step ⟨B2, Xd q2⟩ ⟨B3, Xd q3⟩ (ha.same (ZV.gx hE)) (hn.same (ZV.gx hE)) (hs x _ _ _ _ hJ (ZV.gx hE)) hs⟩
theorem do0_mk (hM : Y.SM G w s) (hn : X5 Y Tryz.prog me J φ G w nv) (hJ : J x G w) (hs : Stb me J) {a : Bool} : MkS Y Tryz.prog me 62 #[.nilFunc, nv] G w ⟨a, s, doP (φ x)⟩ := by
 have h0 : FnM Tryz.prog Non 62 #[.nilFunc, nv] w _ := do_ok w rfl (next_cells hn)
 refine (h0.mono ?_).sub (fun _ h => h.elim)
 rintro u w' hE ⟨b2, b3, rfl, q2, q3, B2, B3⟩
 exact ⟨_, ZW, Y.same hM (ZV.gx hE), do0_step ⟨B2, Xd q2⟩ ⟨B3, Xd q3⟩ (hn.same (ZV.gx hE)) (hs x _ _ _ _ hJ (ZV.gx hE)) hs⟩
def TryM (Y : Sys S) (me : Nat) (lv : Value) (o : Int) (okf : S → Bool) (stf : S → S) (G : Tg) (w : World) : Prop :=
 lv.oneCell' = true ∧ lv.cells = #[lv] ∧ ∀ G' w' s, ZV (MyI me) G w G' w' → Y.SM G' w' s → FnM Tryz.prog (Wr me G') 125 #[lv, .int .i64 o] w' fun u w1 => u = .bool (okf s) ∧ ∃ G1, Tgs me G' w' G1 w1 ∧ ZV (MyT me) G' w' G1 w1 ∧ Y.SM G1 w1 (if okf s = true then stf s else s)
theorem TryM.same {lv : Value} {o : Int} {okf : S → Bool} {stf : S → S} {G' : Tg} {w' : World} (h : TryM Y me lv o okf stf G w) (hS : ZV (MyI me) G w G' w') : TryM Y me lv o okf stf G' w' := ⟨h.1, h.2.1, fun G2 w2 s h4 => h.2.2 G2 w2 s (hS.trans h4)⟩
theorem lock_step {b3 b4 b5 : Nat} {lv : Value} {o : Int} {okf : S → Bool} {stf : S → S} (B3 : Bx (kpT me) G w b3 [lv]) (B4 : Bx (kpT me) G w b4 [.int .i64 o]) (B5 : Bx (kpT me) G w b5 [nv]) (ht : TryM Y me lv o okf stf G w) (hn : X5 Y Tryz.prog me J φ G w nv) (hJ : J x G w) (hs : Stb me J) :
  Jt Y Tryz.prog me (lockP okf fun s => φ x (stf s)) G w (.func (.func 124) #[] #[(Zpt b3), (Zpt b4), (Zpt b5)]) := by
 obtain ⟨f2, fi2, cap2, rfl, e2, h2⟩ := hn
 obtain ⟨hl1, hl2, ht⟩ := ht
 refine ⟨_, _, rfl, zE, fun G' w' s hS hM hp => ?_⟩
 have hb3 := B3.same hS (.inr (.inl rfl)); have hb4 := B4.same hS (.inr (.inl rfl)); have hb5 := B5.same hS (.inr (.inl rfl))
 refine (lock1_ok (Y := Y) (r := φ x (stf s)) w' hb5.2 hl1 hb3.1 hb4.1 hb5.1 e2 (okf s) (fun G1 w1 => ZV (MyT me) G' w' G1 w1 ∧ Y.SM G1 w1 (stf s)) (fun w0 G1 w1 => ZV (MyT me) G' w' G1 w1 ∧ Y.SM G1 w1 s) ((ht G' w' s hS.myI hM).mono ?_) ?_).mono ?_
 ·rintro u w1 hE ⟨rfl, G1, k1, k2, k3⟩
  exact ⟨rfl, G1, k1, fun h => ⟨k2, by rw [if_pos h] at k3; exact k3⟩, fun h => ⟨k2, by rw [if_neg (by rw [h]; simp)] at k3; exact k3⟩⟩
 ·intro hok G1 w1 hT hE hm
  have := h2 x G1 w1 (stf s) (hS.myI.trans (hT.same hE)) hm.2 (by simpa [hok] using hp) (hs x _ _ _ _ (hs x G w G' w' hJ hS) hm.1)
  simpa using this
 ·rintro u w'' hE ⟨v', rfl, k1, k2⟩
  cases hok : okf s with
  | true => obtain ⟨G'', q1, q2, q3⟩ := k1 hok; exact ⟨G'', v', _, rfl, q1, rfl, fun _ => ⟨q2, q3⟩, fun h => by cases h⟩
  | false => obtain ⟨rfl, G'', q1, q2, q3⟩ := k2 hok; exact ⟨G'', _, _, rfl, q1, rfl, fun h => (by cases h), fun _ => ⟨rfl, q3, q2⟩⟩
theorem lock_mk {lv : Value} {o : Int} {okf : S → Bool} {stf : S → S} (hM : Y.SM G w s) (ht : TryM Y me lv o okf stf G w) (hn : X5 Y Tryz.prog me J φ G w nv) (hJ : J x G w) (hs : Stb me J) {a : Bool} : MkS Y Tryz.prog me 67 #[lv, .int .i64 o, nv] G w ⟨a, s, lockP okf fun s => φ x (stf s)⟩ := by
 have h0 : FnM Tryz.prog Non 67 #[lv, .int .i64 o, nv] w _ := lock_ok w o ht.2.1 (next_cells hn)
 refine (h0.mono ?_).sub (fun _ h => h.elim)
 rintro u w' hE ⟨b3, b4, b5, rfl, q3, q4, q5, B3, B4, B5⟩
 exact ⟨_, ZW, Y.same hM (ZV.gx hE), lock_step ⟨B3, Xd q3⟩ ⟨B4, Xd q4⟩ ⟨B5, Xd q5⟩ (ht.same (ZV.gx hE)) (hn.same (ZV.gx hE)) (hs x _ _ _ _ hJ (ZV.gx hE)) hs⟩
end
end
structure XI where
 topic : Str
 payload : Str
 kept : Bool
 deriving DecidableEq
def XI.enc (m : XI) : List Value := [Sv m.topic, Sv m.payload, .bool m.kept]
structure OpD where
 kind : Int
 sub : Int
 text : Str
 payload : Str
 keep : Bool
 deriving DecidableEq
def OpD.enc (o : OpD) : List Value := [.int .i64 o.kind, .int .i64 o.sub, Sv o.text, Sv o.payload, .bool o.keep]
structure Xl where
 err : Int
 a : Int
 b : Int
 msg : XI
 deriving DecidableEq
def Xl.enc (x : Xl) : List Value := [.int .i64 x.err, .int .i64 x.a, .int .i64 x.b] ++ x.msg.enc
structure Z4 where
 thread : Int
 place : Int
 op : OpD
 ans : Xl
 from_ : Int
 to_ : Int
 deriving DecidableEq
def Z4.enc (c : Z4) : List Value := [.int .i64 c.thread, .int .i64 c.place] ++ c.op.enc ++ c.ans.enc ++ [.int .i64 c.from_, .int .i64 c.to_]
theorem XI.one (m : XI) : ∀ v ∈ m.enc, v.oneCell' = true := by intro v hv; simp only [XI.enc, List.mem_cons, List.not_mem_nil, or_false] at hv; rcases hv with rfl | rfl | rfl <;> rfl
theorem OpD.one (m : OpD) : ∀ v ∈ m.enc, v.oneCell' = true := by intro v hv; simp only [OpD.enc, List.mem_cons, List.not_mem_nil, or_false] at hv; rcases hv with rfl | rfl | rfl | rfl | rfl <;> rfl
theorem Xl.one (m : Xl) : ∀ v ∈ m.enc, v.oneCell' = true := by
 intro v hv; simp only [Xl.enc, List.mem_append, List.mem_cons, List.not_mem_nil, or_false] at hv
 rcases hv with (rfl | rfl | rfl) | h
 all_goals first | rfl | exact XI.one _ _ h
theorem Z4.one (m : Z4) : ∀ v ∈ m.enc, v.oneCell' = true := by
 intro v hv; simp only [Z4.enc, List.mem_append, List.mem_cons, List.not_mem_nil, or_false] at hv
 rcases hv with (((rfl | rfl) | h) | h) | (rfl | rfl)
 all_goals first | rfl | exact OpD.one _ _ h | exact Xl.one _ _ h
theorem msg_eqs (x y : XI) : EqS Tryz.prog 2 35 (.agg x.enc.toArray) (.agg y.enc.toArray) (decide (x = y)) := by
 have h := eqs_struct (P := Tryz.prog) (t := 35) (m := 1) (xs := x.enc.toArray) (ys := y.enc.toArray) (by kernel_rfl) sh_35 fs_35
  (EqF.cons rfl (QU p_9 rfl) (QU p_9 rfl) (eqs_str Qj) (EqF.cons rfl (QU p_9 rfl) (QU p_9 rfl) (eqs_str Qj) (EqF.cons rfl (QU p_4 rfl) (QU p_4 rfl) (eqs_bool ub_4) .nil)))
 rw [show decide (x = y) = (decide (x.topic = y.topic) && (decide (x.payload = y.payload) && (decide (x.kept = y.kept) && true))) from ?_]
 ·exact h
 ·obtain ⟨a, b, c⟩ := x; obtain ⟨a', b', c'⟩ := y
  by_cases h1 : a = a' <;> by_cases h2 : b = b' <;> by_cases h3 : c = c' <;> simp [h1, h2, h3]
theorem map_at {α : Type} {f : α → List Value} {l : List α} {i : Nat} {x : α} (h : l[i]? = some x) : (l.map f)[i]? = some (f x) := by simp [h]
section
abbrev Kx (me : Nat) (G : Tg) (w : World) : Tg := gx G w.heap.size fun _ => kpT me
theorem locks_nil (w : World) {S : Type} {Y : Sys S} {me : Nat} {G : Tg} {r : Out S} {f2 : FuncId} {fi2 cap2 : Array Value} (e2 : Xa Tryz.prog f2 = true) {gv : Value} (hg : gv.cells = #[gv]) {a : Option Addr} {c : Nat} {o : Int} (h : ∀ w1, Ext Non w w1 → MkS Y Tryz.prog me f2 (fi2 ++ cap2) (Kx me G w) w1 r) : FnM Tryz.prog (Wr me G) 32 #[gv, .slice a 0 c, .int .i64 o, .func (.func f2) fi2 cap2] w fun u w' => Xh Y Tryz.prog me G w r u w' := by
 have hXn := Ext.refl Non w
 have hX := Ext.refl (Wr me G) w
 refine Zfm (args := [_, _, _, _]) Tryz.func32 rfl rfl ?_
 refine Zs (ZP (by conv => lhs; whnf) hg ?_); intro b4 w1 hb4 E1 B4
 have hq4 := Zq hX hb4
 replace hX := hX.tr E1
 replace hXn := hXn.tr E1
 refine ZP (by conv => lhs; whnf) rfl ?_; intro b5 w2 hb5 E2 B5
 have hn4_5 := Zn B4 hb5
 have hq5 := Zq hX hb5
 replace hX := hX.tr E2
 replace B4 := Zx B4 E2
 replace hXn := hXn.tr E2
 refine ZP (by conv => lhs; whnf) rfl ?_; intro b6 w3 hb6 E3 B6
 have hn4_6 := Zn B4 hb6
 have hn5_6 := Zn B5 hb6
 have hq6 := Zq hX hb6
 replace hX := hX.tr E3
 replace B4 := Zx B4 E3; replace B5 := Zx B5 E3
 replace hXn := hXn.tr E3
 refine ZP (by conv => lhs; whnf) rfl ?_; intro b7 w4 hb7 E4 B7
 have hn4_7 := Zn B4 hb7
 have hn5_7 := Zn B5 hb7
 have hn6_7 := Zn B6 hb7
 have hq7 := Zq hX hb7
 replace hX := hX.tr E4
 replace B4 := Zx B4 E4; replace B5 := Zx B5 E4; replace B6 := Zx B6 E4
 replace hXn := hXn.tr E4
 refine Za ?_
 refine Zc (ZC (Zs (Zb (Zi XT rfl B5 rfl) (Zb (Z1 Xe rfl) (Zb (Xc rfl rfl) (Zc ?_))))))
 refine ZE rfl (fun hc0 => ?_) (fun hc0 => ?_)
 ·refine Zs (Zb (Zi p_94 rfl B7 rfl) ?_)
  have hXc := hXn
  refine ZI zE rfl (then_ok w4 e2 (h w4 hXn)) ?_; intro v13 w5 E5 hR
  replace hX := hX.wr ZW E5
  refine Za ?_
  refine Zc (ZB ?_)
  exact ⟨_, ZD (Zh rfl), hX, hR.pre ZW hXc.size⟩
 ·exact absurd hc0 (by decide)
theorem locks_cons (w : World) {S : Type} {Y : Sys S} {me : Nat} {G : Tg} {r : Out S} {f2 : FuncId} {fi2 cap2 : Array Value} {gv lv : Value} (hg : gv.cells = #[gv]) {a : Addr} {c : Nat} {o i : Int} {l : List Int} {M : Nat → Prop} (hL : Sl M w (.slice (some a) (l.length + 1) c) 1 ((i :: l).map eI)) (hAt : ∀ w1, Ext Non w w1 → Fn Tryz.prog 68 #[gv, .int .i64 i] w1 fun u _ => u = lv) (h : ∀ (w1 : World) (b4 : Nat) (b5 : Nat) (b6 : Nat) (b7 : Nat) , Ext Non w w1 → w.heap.size ≤ b4 → Zj w1 b4 [gv] → w.heap.size ≤ b5 → Zj w1 b5 [.slice (some a) (l.length + 1) c] → w.heap.size ≤ b6 → Zj w1 b6 [.int .i64 o] → w.heap.size ≤ b7 → Zj w1 b7 [.func (.func f2) fi2 cap2] → MkS Y Tryz.prog me 67 #[lv, .int .i64 o, .func (.func 69) #[] #[(Zpt b4), (Zpt b5), (Zpt b6), (Zpt b7)]] (Kx me G w) w1 r) : FnM Tryz.prog (Wr me G) 32 #[gv, .slice (some a) (l.length + 1) c, .int .i64 o, .func (.func f2) fi2 cap2] w fun u w' => Xh Y Tryz.prog me G w r u w' := by
 have hXn := Ext.refl Non w
 have hX := Ext.refl (Wr me G) w
 refine Zfm (args := [_, _, _, _]) Tryz.func32 rfl rfl ?_
 refine Zs (ZP (by conv => lhs; whnf) hg ?_); intro b4 w1 hb4 E1 B4
 have hq4 := Zq hX hb4
 replace hX := hX.tr E1
 replace hXn := hXn.tr E1
 refine ZP (by conv => lhs; whnf) rfl ?_; intro b5 w2 hb5 E2 B5
 have hn4_5 := Zn B4 hb5
 have hq5 := Zq hX hb5
 replace hX := hX.tr E2
 replace B4 := Zx B4 E2
 replace hXn := hXn.tr E2
 refine ZP (by conv => lhs; whnf) rfl ?_; intro b6 w3 hb6 E3 B6
 have hn4_6 := Zn B4 hb6
 have hn5_6 := Zn B5 hb6
 have hq6 := Zq hX hb6
 replace hX := hX.tr E3
 replace B4 := Zx B4 E3; replace B5 := Zx B5 E3
 replace hXn := hXn.tr E3
 refine ZP (by conv => lhs; whnf) rfl ?_; intro b7 w4 hb7 E4 B7
 have hn4_7 := Zn B4 hb7
 have hn5_7 := Zn B5 hb7
 have hn6_7 := Zn B6 hb7
 have hq7 := Zq hX hb7
 replace hX := hX.tr E4
 replace B4 := Zx B4 E4; replace B5 := Zx B5 E4; replace B6 := Zx B6 E4
 replace hXn := hXn.tr E4
 refine Za ?_
 refine Zc (ZC (Zs (Zb (Zi XT rfl B5 rfl) (Zb (Z1 Xe rfl) (Zb (Xc rfl rfl) (Zc ?_))))))
 refine ZE rfl (fun hc0 => ?_) (fun hc0 => ?_)
 ·exact absurd (of_decide_eq_true hc0) (by omega)
 ·refine ZF (ZC (Z5 (fun j => j == 7 || j == 8) mixed ?_)); intro w5 E5
  replace hX := hX.tr E5
  replace B4 := Zx B4 E5; replace B5 := Zx B5 E5; replace B6 := Zx B6 E5; replace B7 := Zx B7 E5
  replace hXn := hXn.tr E5
  have hS := Ext.refl Non w5
  refine Zt 0 [4, 7, 8] rfl hS (Zv p_92 rfl B4 rfl) (Zt 1 [2, 3, 4, 7, 8] rfl hS (Zv XT rfl B5 rfl) (Zt 2 [3, 4, 7, 8] rfl hS (ZG fun A hA => ZH Xe rfl rfl (by omega)) (Zt 3 [4, 7, 8] rfl hS (ZG fun A hA => Xb p_3 rfl (((hL.ext hXn (fun _ h => h.elim)).ext hA (fun _ h => h.elim)).at0 (show ((i :: l).map eI)[0]? = some (eI i) from rfl) rfl)) ?_)))
  refine Zt 5 [7, 8] rfl hS (Zv p_3 rfl B6 rfl) (Zt 6 [7, 8] rfl hS (Zr (ZL rfl)) (Zo 4 rfl (ZK (Zw zE rfl (hAt w5 (hXn.tr hS)) ?_)))); intro v18 w6 E6 R6
  replace hS := hS.tr E6
  subst R6
  refine Zc ⟨fun _ => hS, ?_⟩
  replace hX := hX.tr hS
  replace B4 := Zx B4 hS; replace B5 := Zx B5 hS; replace B6 := Zx B6 hS; replace B7 := Zx B7 hS
  replace hXn := hXn.tr hS
  refine Zo 7 rfl (ZK ?_)
  have hXc := hXn
  refine ZI zE rfl (h w6 b4 b5 b6 b7 hXn hq4 B4 hq5 B5 hq6 B6 hq7 B7) ?_; intro v21 w7 E7 hR
  replace hX := hX.wr ZW E7
  refine Zz ?_
  refine Zo 8 rfl (ZK (Za ?_))
  refine Zz ?_
  refine ZZ (by kernel_rfl) ?_ _
  refine ZB ?_
  exact ⟨_, ZD (Zh rfl), hX, hR.pre ZW hXc.size⟩
theorem locks1_ok (w : World) {S : Type} {Y : Sys S} {me : Nat} {G : Tg} {r : Out S} {b0 : Nat} {b1 : Nat} {b2 : Nat} {b3 : Nat} {gv nv : Value} {a : Addr} {n c : Nat} {o : Int} (hg : gv.oneCell' = true) (hn : nv.oneCell' = true) (hnc : n + 1 ≤ c) (hB0 : Zj w b0 [gv]) (B1 : Zj w b1 [.slice (some a) (n + 1) c]) (B2 : Zj w b2 [.int .i64 o]) (B3 : Zj w b3 [nv]) (h : ∀ w1, Ext Non w w1 → MkS Y Tryz.prog me 32 #[gv, .slice (if c = 1 then some a else (some a).map (·.add (1 * 1))) n (c - 1), .int .i64 o, nv] (Kx me G w) w1 r) : FnM Tryz.prog (Wr me G) 69 #[(Zpt b0), (Zpt b1), (Zpt b2), (Zpt b3)] w fun u w' => Xh Y Tryz.prog me G w r u w' := by
 have hXn := Ext.refl Non w
 have hX := Ext.refl (Wr me G) w
 refine Zfm (args := [_, _, _, _]) Tryz.func69 rfl rfl ?_
 refine Zs (Za ?_)
 refine Zc (ZC (Z5 (fun j => j == 5 || j == 6) mixed ?_)); intro w1 E1
 replace hX := hX.tr E1
 replace hB0 := Zx hB0 E1; replace B1 := Zx B1 E1; replace B2 := Zx B2 E1; replace B3 := Zx B3 E1
 replace hXn := hXn.tr E1
 have hS := Ext.refl Non w1
 refine Zt 0 [5, 6] rfl hS (Zv p_92 rfl hB0 rfl) (Zt 1 [2, 5, 6] rfl hS (Zv XT rfl B1 rfl) (Zt 2 [5, 6] rfl hS (ZG fun A hA => Xs Xe (l := 1) (h := n + 1) (m := c) rfl ⟨_, rfl⟩ rfl rfl (by simp) (by omega) (by omega) (by omega)) ?_))
 refine Zt 3 [5, 6] rfl hS (Zv p_3 rfl B2 rfl) (Zt 4 [5, 6] rfl hS (Zv p_94 rfl B3 rfl) ?_)
 replace hX := hX.tr hS
 replace hB0 := Zx hB0 hS; replace B1 := Zx B1 hS; replace B2 := Zx B2 hS; replace B3 := Zx B3 hS
 replace hXn := hXn.tr hS
 refine Zo 5 rfl (ZK ?_)
 have hXc := hXn
 refine ZI zE rfl (h w1 hXn) ?_; intro v10 w2 E2 hR
 replace hX := hX.wr ZW E2
 refine Zz ?_
 refine Zo 6 rfl (ZK (Za ?_))
 refine Zz ?_
 refine ZZ (by kernel_rfl) ?_ _
 refine ZB ?_
 exact ⟨_, ZD (Zh rfl), hX, hR.pre ZW hXc.size⟩
theorem free1_ok (w : World) {S : Type} {Y : Sys S} {me : Nat} {G : Tg} {r : Out S} {b0 : Nat} {b1 : Nat} {b2 : Nat} {b3 : Nat} {gv nv : Value} {a : Addr} {n c : Nat} {o : Int} (hg : gv.oneCell' = true) (hn : nv.oneCell' = true) (hnc : n + 1 ≤ c) (hB0 : Zj w b0 [gv]) (B1 : Zj w b1 [.slice (some a) (n + 1) c]) (B2 : Zj w b2 [.int .i64 o]) (B3 : Zj w b3 [nv]) (h : ∀ w1, Ext Non w w1 → MkS Y Tryz.prog me 179 #[gv, .slice (if c = 1 then some a else (some a).map (·.add (1 * 1))) n (c - 1), .int .i64 o, nv] (Kx me G w) w1 r) : FnM Tryz.prog (Wr me G) 247 #[(Zpt b0), (Zpt b1), (Zpt b2), (Zpt b3)] w fun u w' => Xh Y Tryz.prog me G w r u w' := by
 have hXn := Ext.refl Non w
 have hX := Ext.refl (Wr me G) w
 refine Zfm (args := [_, _, _, _]) Tryz.func247 rfl rfl ?_
 refine Zs (Za ?_)
 refine Zc (ZC (Z5 (fun j => j == 5 || j == 6) mixed ?_)); intro w1 E1
 replace hX := hX.tr E1
 replace hB0 := Zx hB0 E1; replace B1 := Zx B1 E1; replace B2 := Zx B2 E1; replace B3 := Zx B3 E1
 replace hXn := hXn.tr E1
 have hS := Ext.refl Non w1
 refine Zt 0 [5, 6] rfl hS (Zv p_92 rfl hB0 rfl) (Zt 1 [2, 5, 6] rfl hS (Zv XT rfl B1 rfl) (Zt 2 [5, 6] rfl hS (ZG fun A hA => Xs Xe (l := 1) (h := n + 1) (m := c) rfl ⟨_, rfl⟩ rfl rfl (by simp) (by omega) (by omega) (by omega)) ?_))
 refine Zt 3 [5, 6] rfl hS (Zv p_3 rfl B2 rfl) (Zt 4 [5, 6] rfl hS (Zv p_94 rfl B3 rfl) ?_)
 replace hX := hX.tr hS
 replace hB0 := Zx hB0 hS; replace B1 := Zx B1 hS; replace B2 := Zx B2 hS; replace B3 := Zx B3 hS
 replace hXn := hXn.tr hS
 refine Zo 5 rfl (ZK ?_)
 have hXc := hXn
 refine ZI zE rfl (h w1 hXn) ?_; intro v10 w2 E2 hR
 replace hX := hX.wr ZW E2
 refine Zz ?_
 refine Zo 6 rfl (ZK (Za ?_))
 refine Zz ?_
 refine ZZ (by kernel_rfl) ?_ _
 refine ZB ?_
 exact ⟨_, ZD (Zh rfl), hX, hR.pre ZW hXc.size⟩
theorem free_nil (w : World) {S : Type} {Y : Sys S} {me : Nat} {G : Tg} {r : Out S} {f2 : FuncId} {fi2 cap2 : Array Value} (e2 : Xa Tryz.prog f2 = true) {gv : Value} (hg : gv.cells = #[gv]) {a : Option Addr} {c : Nat} {o : Int} (h : ∀ w1, Ext Non w w1 → MkS Y Tryz.prog me f2 (fi2 ++ cap2) (Kx me G w) w1 r) : FnM Tryz.prog (Wr me G) 179 #[gv, .slice a 0 c, .int .i64 o, .func (.func f2) fi2 cap2] w fun u w' => Xh Y Tryz.prog me G w r u w' := by
 have hXn := Ext.refl Non w
 have hX := Ext.refl (Wr me G) w
 refine Zfm (args := [_, _, _, _]) Tryz.func179 rfl rfl ?_
 refine Zs (ZP (by conv => lhs; whnf) hg ?_); intro b4 w1 hb4 E1 B4
 have hq4 := Zq hX hb4
 replace hX := hX.tr E1
 replace hXn := hXn.tr E1
 refine ZP (by conv => lhs; whnf) rfl ?_; intro b5 w2 hb5 E2 B5
 have hn4_5 := Zn B4 hb5
 have hq5 := Zq hX hb5
 replace hX := hX.tr E2
 replace B4 := Zx B4 E2
 replace hXn := hXn.tr E2
 refine ZP (by conv => lhs; whnf) rfl ?_; intro b6 w3 hb6 E3 B6
 have hn4_6 := Zn B4 hb6
 have hn5_6 := Zn B5 hb6
 have hq6 := Zq hX hb6
 replace hX := hX.tr E3
 replace B4 := Zx B4 E3; replace B5 := Zx B5 E3
 replace hXn := hXn.tr E3
 refine ZP (by conv => lhs; whnf) rfl ?_; intro b7 w4 hb7 E4 B7
 have hn4_7 := Zn B4 hb7
 have hn5_7 := Zn B5 hb7
 have hn6_7 := Zn B6 hb7
 have hq7 := Zq hX hb7
 replace hX := hX.tr E4
 replace B4 := Zx B4 E4; replace B5 := Zx B5 E4; replace B6 := Zx B6 E4
 replace hXn := hXn.tr E4
 refine Za ?_
 refine Zc (ZC (Zs (Zb (Zi XT rfl B5 rfl) (Zb (Z1 Xe rfl) (Zb (Xc rfl rfl) (Zc ?_))))))
 refine ZE rfl (fun hc0 => ?_) (fun hc0 => ?_)
 ·refine Zs (Zb (Zi p_94 rfl B7 rfl) ?_)
  have hXc := hXn
  refine ZI zE rfl (then_ok w4 e2 (h w4 hXn)) ?_; intro v13 w5 E5 hR
  replace hX := hX.wr ZW E5
  refine Za ?_
  refine Zc (ZB ?_)
  exact ⟨_, ZD (Zh rfl), hX, hR.pre ZW hXc.size⟩
 ·exact absurd hc0 (by decide)
theorem free_cons (w : World) {S : Type} {Y : Sys S} {me : Nat} {G : Tg} {r : Out S} {f2 : FuncId} {fi2 cap2 : Array Value} {gv : Value} (hg : gv.cells = #[gv]) {a : Addr} {c : Nat} {o : Int} {l : List Int} (h : ∀ (w1 : World) (b4 : Nat) (b5 : Nat) (b6 : Nat) (b7 : Nat) , Ext Non w w1 → w.heap.size ≤ b4 → Zj w1 b4 [gv] → w.heap.size ≤ b5 → Zj w1 b5 [.slice (some a) (l.length + 1) c] → w.heap.size ≤ b6 → Zj w1 b6 [.int .i64 o] → w.heap.size ≤ b7 → Zj w1 b7 [.func (.func f2) fi2 cap2] → MkS Y Tryz.prog me 62 #[.func (.func 245) #[] #[(Zpt b4), (Zpt b5), (Zpt b6)], .func (.func 247) #[] #[(Zpt b4), (Zpt b5), (Zpt b6), (Zpt b7)]] (Kx me G w) w1 r) : FnM Tryz.prog (Wr me G) 179 #[gv, .slice (some a) (l.length + 1) c, .int .i64 o, .func (.func f2) fi2 cap2] w fun u w' => Xh Y Tryz.prog me G w r u w' := by
 have hXn := Ext.refl Non w
 have hX := Ext.refl (Wr me G) w
 refine Zfm (args := [_, _, _, _]) Tryz.func179 rfl rfl ?_
 refine Zs (ZP (by conv => lhs; whnf) hg ?_); intro b4 w1 hb4 E1 B4
 have hq4 := Zq hX hb4
 replace hX := hX.tr E1
 replace hXn := hXn.tr E1
 refine ZP (by conv => lhs; whnf) rfl ?_; intro b5 w2 hb5 E2 B5
 have hn4_5 := Zn B4 hb5
 have hq5 := Zq hX hb5
 replace hX := hX.tr E2
 replace B4 := Zx B4 E2
 replace hXn := hXn.tr E2
 refine ZP (by conv => lhs; whnf) rfl ?_; intro b6 w3 hb6 E3 B6
 have hn4_6 := Zn B4 hb6
 have hn5_6 := Zn B5 hb6
 have hq6 := Zq hX hb6
 replace hX := hX.tr E3
 replace B4 := Zx B4 E3; replace B5 := Zx B5 E3
 replace hXn := hXn.tr E3
 refine ZP (by conv => lhs; whnf) rfl ?_; intro b7 w4 hb7 E4 B7
 have hn4_7 := Zn B4 hb7
 have hn5_7 := Zn B5 hb7
 have hn6_7 := Zn B6 hb7
 have hq7 := Zq hX hb7
 replace hX := hX.tr E4
 replace B4 := Zx B4 E4; replace B5 := Zx B5 E4; replace B6 := Zx B6 E4
 replace hXn := hXn.tr E4
 refine Za ?_
 refine Zc (ZC (Zs (Zb (Zi XT rfl B5 rfl) (Zb (Z1 Xe rfl) (Zb (Xc rfl rfl) (Zc ?_))))))
 refine ZE rfl (fun hc0 => ?_) (fun hc0 => ?_)
 ·exact absurd (of_decide_eq_true hc0) (by omega)
 ·refine ZF (Zs (Zb (ZL rfl) (Zb (ZL rfl) ?_)))
  have hXc := hXn
  refine ZI zE rfl (h w4 b4 b5 b6 b7 hXn hq4 B4 hq5 B5 hq6 B6 hq7 B7) ?_; intro v16 w5 E5 hR
  replace hX := hX.wr ZW E5
  refine Za ?_
  refine Zc (ZB ?_)
  exact ⟨_, ZD (Zh rfl), hX, hR.pre ZW hXc.size⟩
theorem freeF_ok (w : World) {M M2 : Nat → Prop} {b0 b1 b2 : Nat} {gv lv : Value} {R : World → Prop} {a : Addr} {c : Nat} {o i : Int} {l : List Int} (hg : gv.oneCell' = true) (hl1 : lv.oneCell' = true) (hB0 : Zj w b0 [gv]) (B1 : Zj w b1 [.slice (some a) (l.length + 1) c]) (B2 : Zj w b2 [.int .i64 o]) (hL : Sl M2 w (.slice (some a) (l.length + 1) c) 1 ((i :: l).map eI)) (hAt : ∀ w1, Ext Non w w1 → Fn Tryz.prog 68 #[gv, .int .i64 i] w1 fun u _ => u = lv) (h : ∀ w1, Ext Non w w1 → FnM Tryz.prog M 246 #[lv, .int .i64 o] w1 fun _ w2 => R w2) : FnM Tryz.prog M 245 #[(Zpt b0), (Zpt b1), (Zpt b2)] w fun u w' => R w' := by
 have hXn := Ext.refl Non w
 have hX := Ext.refl M w
 refine Zfm (args := [_, _, _]) Tryz.func245 rfl rfl ?_
 refine Z5 (fun j => j == 6) mixed ?_; intro w1 E1
 replace hX := hX.tr E1
 replace hB0 := Zx hB0 E1; replace B1 := Zx B1 E1; replace B2 := Zx B2 E1
 replace hXn := hXn.tr E1
 have hS := Ext.refl Non w1
 refine Zt 0 [4, 6] rfl hS (Zv p_92 rfl hB0 rfl) (Zt 1 [2, 3, 4, 6] rfl hS (Zv XT rfl B1 rfl) (Zt 2 [3, 4, 6] rfl hS (ZG fun A hA => ZH Xe rfl rfl (by omega)) (Zt 3 [4, 6] rfl hS (ZG fun A hA => Xb p_3 rfl (((hL.ext hXn (fun _ h => h.elim)).ext hA (fun _ h => h.elim)).at0 (show ((i :: l).map eI)[0]? = some (eI i) from rfl) rfl)) ?_)))
 refine Zt 5 [6] rfl hS (Zv p_3 rfl B2 rfl) (Zo 4 rfl (ZK (Zw zE rfl (hAt w1 (hXn.tr hS)) ?_))); intro v7 w2 E2 R2
 replace hS := hS.tr E2
 subst R2
 refine Zc ⟨fun _ => hS, ?_⟩
 replace hX := hX.tr hS
 replace hB0 := Zx hB0 hS; replace B1 := Zx B1 hS; replace B2 := Zx B2 hS
 replace hXn := hXn.tr hS
 refine Zo 6 rfl (ZK (ZI zE rfl (h w2 hXn) ?_)); intro v9 w3 E3 hR
 replace hX := hX.trans E3
 refine Zz ?_
 refine ZZ (by kernel_rfl) ?_ _
 exact ⟨_, rfl, hX, hR⟩
theorem hand_ok (w : World) {S : Type} {Y : Sys S} {me : Nat} {G : Tg} {r : Out S} {f2 : FuncId} {fi2 cap2 : Array Value} (e2 : Xa Tryz.prog f2 = true) (x : Xl) (h : ∀ w1, Ext Non w w1 → MkS Y Tryz.prog me f2 (fi2 ++ #[.agg x.enc.toArray] ++ cap2) (Kx me G w) w1 r) : FnM Tryz.prog (Wr me G) 64 #[.agg x.enc.toArray, .func (.func f2) fi2 cap2] w fun u w' => Xh Y Tryz.prog me G w r u w' := by
 have hXn := Ext.refl Non w
 have hX := Ext.refl (Wr me G) w
 refine Zfm (args := [_, _]) Tryz.func64 rfl rfl ?_
 refine Zs (ZY rfl ?_); intro b2 w1 hb2 E1 B2
 have hq2 := Zq hX hb2
 replace hX := hX.tr E1
 replace hXn := hXn.tr E1
 refine Za ?_
 refine Zc (ZC (Zs (Zm ?_)))
 refine Zb (Q3 uf_49 rfl rfl) (Zc (Xu rfl (ZF (Zs (Zm ?_)))))
 refine Zb (ZR s_37 rfl rfl B2) ?_
 have hXc := hXn
 refine XW (args := [.agg x.enc.toArray]) rfl e2 rfl (h w1 hXn) ?_; intro v9 w2 E2 hR
 replace hX := hX.wr ZW E2
 refine Za ?_
 refine Zc (ZB ?_)
 exact ⟨_, ZD (Zh rfl), hX, hR.pre ZW hXc.size⟩
theorem answer_ok (w : World) {S : Type} {Y : Sys S} {me : Nat} {G : Tg} {r : Out S} {f2 : FuncId} {fi2 cap2 : Array Value} (x : Xl) (h : ∀ (w1 : World) (b2 b3 : Nat), Ext Non w w1 → w.heap.size ≤ b2 → Zj w1 b2 x.enc → w.heap.size ≤ b3 → Zj w1 b3 [.func (.func f2) fi2 cap2] → MkS Y Tryz.prog me 62 #[.nilFunc, .func (.func 63) #[] #[(Zpt b2), (Zpt b3)]] (Kx me G w) w1 r) : FnM Tryz.prog (Wr me G) 30 #[.agg x.enc.toArray, .func (.func f2) fi2 cap2] w fun u w' => Xh Y Tryz.prog me G w r u w' := by
 have hXn := Ext.refl Non w
 have hX := Ext.refl (Wr me G) w
 refine Zfm (args := [_, _]) Tryz.func30 rfl rfl ?_
 refine Zs (ZY rfl ?_); intro b2 w1 hb2 E1 B2
 have hq2 := Zq hX hb2
 replace hX := hX.tr E1
 replace hXn := hXn.tr E1
 refine ZP (by conv => lhs; whnf) rfl ?_; intro b3 w2 hb3 E2 B3
 have hn2_3 := Zn B2 hb3
 have hq3 := Zq hX hb3
 replace hX := hX.tr E2
 replace B2 := Zx B2 E2
 replace hXn := hXn.tr E2
 refine Za ?_
 refine Zc (Zs (Zb (ZL rfl) ?_))
 have hXc := hXn
 refine ZI zE rfl (h w2 b2 b3 hXn hq2 B2 hq3 B3) ?_; intro v6 w3 E3 hR
 replace hX := hX.wr ZW E3
 refine Za ?_
 refine Zc (ZB ?_)
 exact ⟨_, ZD (Zh rfl), hX, hR.pre ZW hXc.size⟩
theorem answer1_ok (w : World) {S : Type} {Y : Sys S} {me : Nat} {G : Tg} {r : Out S} {b0 b1 : Nat} (x : Xl) {nv : Value} (hn : nv.oneCell' = true) (hB0 : Zj w b0 x.enc) (B1 : Zj w b1 [nv]) (h : ∀ w1, Ext Non w w1 → MkS Y Tryz.prog me 64 #[.agg x.enc.toArray, nv] (Kx me G w) w1 r) : FnM Tryz.prog (Wr me G) 63 #[(Zpt b0), (Zpt b1)] w fun u w' => Xh Y Tryz.prog me G w r u w' := by
 have hXn := Ext.refl Non w
 have hX := Ext.refl (Wr me G) w
 refine Zfm (args := [_, _]) Tryz.func63 rfl rfl ?_
 refine Zs (Za ?_)
 refine Zc (Zs (Zb (ZR s_37 rfl rfl hB0) (Zb (Zi p_49 rfl B1 rfl) ?_)))
 have hXc := hXn
 refine ZI zE rfl (h w hXn) ?_; intro v5 w1 E1 hR
 replace hX := hX.wr ZW E1
 refine Za ?_
 refine Zc (ZB ?_)
 exact ⟨_, ZD (Zh rfl), hX, hR.pre ZW hXc.size⟩
section
variable {S : Type} {Y : Sys S} {me : Nat} {α β : Type} {J : α → Tg → World → Prop} {φ : α → S → Out S} {G : Tg} {nv : Value} {x : α} {s : S} {w : World}
theorem Q6 (cap : Array Value) : (#[] : Array Value) ++ #[] ++ cap = cap := by simp
theorem cap1 (cap : Array Value) : (#[] : Array Value) ++ cap = cap := by simp
theorem capF (fi cap : Array Value) : fi ++ #[] ++ cap = fi ++ cap := by simp
theorem X1.call {ar : α → Array Value} (h : X1 Y Tryz.prog me J ar φ G w nv) : ∃ f fi cap, nv = .func (.func f) fi cap ∧ Xa Tryz.prog f = true ∧ ∀ x G' w' s, ZV (MyI me) G w G' w' → Y.SM G' w' s → (φ x s).al = true → J x G' w' → MkS Y Tryz.prog me f (fi ++ ar x ++ cap) G' w' (φ x s) := h
theorem wr_kx {me : Nat} {G : Tg} {w : World} {i : Nat} (h : Wr me (Kx me G w) i) : Wr me G i := by
 by_cases hlt : i < w.heap.size
 ·have e : Kx me G w i = G i := Xf hlt
  unfold Wr at *; rw [e] at h; exact h
 ·exact absurd h (kp_nw (Xd (by omega)))
theorem ZA {T : Nat → Prop} {w1 : World} (hE : Ext Non w w1) : ZV T G w (Kx me G w) w1 := ZV.gx hE
theorem answer_mk {y : Xl} {ψ : α × Xl → S → Out S} (hM : Y.SM G w s) (hn : X1 Y Tryz.prog me (fun p : α × Xl => J p.1) (fun p => #[.agg p.2.enc.toArray]) ψ G w nv) (hJ : J x G w) (hs : Stb me J) {a : Bool} :
  MkS Y Tryz.prog me 30 #[.agg y.enc.toArray, nv] G w ⟨a, s, doP (ψ (x, y))⟩ := by
 obtain ⟨f, fi, cap, rfl, e, h⟩ := hn.call
 refine answer_ok w y fun w1 b2 b3 hE q2 B2 q3 B3 => ?_
 refine do0_mk (φ := fun x => ψ (x, y)) (x := x) (Y.same hM (ZA hE)) ⟨_, #[], _, rfl, zE, fun x' G' w' s' hS hM' ha hJ' => ?_⟩ (hs x _ _ _ _ hJ (ZA hE)) hs
 have k2 := hS.box B2 (.inr (Xd q2)); have k3 := hS.box B3 (.inr (Xd q3))
 have := answer1_ok (Y := Y) (me := me) (G := G') (r := ψ (x', y) s') w' y rfl k2 k3 fun w2 E2 => ?_
 ·rw [Q6]; exact this
 ·refine hand_ok w2 e y fun w3 E3 => ?_
  have E4 : ZV (MyI me) G' w' (Kx me (Kx me G' w') w2) w3 := (ZA E2).trans (ZA E3)
  exact h (x', y) _ w3 s' (((ZA hE).trans hS).trans E4) (Y.same hM' ((ZA E2).trans (ZA E3))) ha (hs x' _ _ _ _ hJ' ((ZA E2).trans (ZA E3)))
def GrpM (Y : Sys S) (me : Nat) (gv : Value) (lvf : Int → Value) (o : Int) (okf : Int → S → Bool) (stf : Int → S → S) (l : List Int) (G : Tg) (w : World) : Prop :=
 gv.oneCell' = true ∧ gv.cells = #[gv] ∧ ∀ i ∈ l, TryM Y me (lvf i) o (okf i) (stf i) G w ∧ ∀ G' w', ZV (MyI me) G w G' w' → Fn Tryz.prog 68 #[gv, .int .i64 i] w' fun u _ => u = lvf i
theorem GrpM.same {gv : Value} {lvf : Int → Value} {o : Int} {okf : Int → S → Bool} {stf : Int → S → S} {l : List Int} {G' : Tg} {w' : World} (h : GrpM Y me gv lvf o okf stf l G w) (hS : ZV (MyI me) G w G' w') : GrpM Y me gv lvf o okf stf l G' w' :=
 ⟨h.1, h.2.1, fun i hi => ⟨(h.2.2 i hi).1.same hS, fun G2 w2 h2 => (h.2.2 i hi).2 G2 w2 (hS.trans h2)⟩⟩
def locksP {S : Type} (okf : Int → S → Bool) (stf : Int → S → S) : List Int → (S → Out S) → S → Out S
 | [], φ => φ
 | i :: l, φ => fun s => ⟨true, s, lockP (okf i) fun s => locksP okf stf l φ (stf i s)⟩
theorem sl_tail {M : Nat → Prop} {a : Addr} {c : Nat} {i : Int} {l : List Int} (hL : Sl M w (.slice (some a) (l.length + 1) c) 1 ((i :: l).map eI)) : Sl M w (.slice (if c = 1 then some a else (some a).map (·.add (1 * 1))) l.length (c - 1)) 1 (l.map eI) ∧ l.length + 1 ≤ c := by
 obtain ⟨a', c', e1, e2, e3, e4⟩ := hL.ex
 simp only [Value.slice.injEq, List.length_map, List.length_cons] at e1 e2
 obtain ⟨_, _, rfl⟩ := e1
 have := hL.cut (l := 1) (h := l.length + 1) (m := c) (by omega) (Nat.le_refl _) (by omega) (Nat.le_refl _)
 simp only [Nat.add_sub_cancel, List.map_cons, List.drop_succ_cons, List.drop_zero] at this
 rw [List.take_of_length_le (by simp)] at this
 exact ⟨this, by omega⟩
theorem locks_mk {gv : Value} {lvf : Int → Value} {o : Int} {okf : Int → S → Bool} {stf : Int → S → S} (hs : Stb me J) : ∀ (l : List Int) (G : Tg) (w : World) (s : S) (x : α) (a : Option Addr) (c : Nat), Y.SM G w s → GrpM Y me gv lvf o okf stf l G w → Sl (fun i => ¬ MyI me (G i)) w (.slice a l.length c) 1 (l.map eI) →
  X5 Y Tryz.prog me J φ G w nv → J x G w → (locksP okf stf l (φ x) s).al = true → MkS Y Tryz.prog me 32 #[gv, .slice a l.length c, .int .i64 o, nv] G w (locksP okf stf l (φ x) s)
 | [], G, w, s, x, a, c, hM, hg, hL, hn, hJ, ha => by
  obtain ⟨f, fi, cap, hnv, e, h⟩ := hn.call
  rw [hnv]
  refine locks_nil w e hg.2.1 fun w1 hE => ?_
  have := h x (Kx me G w) w1 s (ZA hE) (Y.same hM (ZA hE)) ha (hs x _ _ _ _ hJ (ZA hE))
  rw [capF] at this; exact this
 | i :: l, G, w, s, x, a, c, hM, hg, hL, hn, hJ, ha => by
  obtain ⟨f, fi, cap, hnv, e, h⟩ := hn.call
  obtain ⟨b, oo, rfl⟩ := hL.base (by simp)
  rw [hnv]
  refine locks_cons w hg.2.1 hL (fun w1 hE => (hg.2.2 i (by simp)).2 _ w1 (ZA (me := me) hE)) fun w1 b4 b5 b6 b7 hE q4 B4 q5 B5 q6 B6 q7 B7 => ?_
  refine lock_mk (φ := fun x => locksP okf stf l (φ x)) (x := x) (Y.same hM (ZA hE)) ((hg.2.2 i (by simp)).1.same (ZA hE)) ⟨_, #[], _, rfl, zE, fun x' G' w' s' hS hM' ha' hJ' => ?_⟩ (hs x _ _ _ _ hJ (ZA hE)) hs
  have k4 := hS.box B4 (.inr (Xd q4)); have k5 := hS.box B5 (.inr (Xd q5)); have k6 := hS.box B6 (.inr (Xd q6)); have k7 := hS.box B7 (.inr (Xd q7))
  have SS := (ZA (me := me) (G := G) hE).trans hS
  have hL' := sl_tail (SS.sl hL)
  have := locks1_ok (Y := Y) (me := me) (G := G') (r := locksP okf stf l (φ x') s') w' hg.1 rfl hL'.2 k4 k5 k6 k7 fun w2 E2 => ?_
  ·rw [Q6]; exact this
  ·rw [← hnv]; refine locks_mk (lvf := lvf) hs l _ w2 s' x' _ _ (Y.same hM' (ZA E2)) ?_ ((ZA E2).sl hL'.1) ((hn.same SS).same (ZA E2)) (hs x' _ _ _ _ hJ' (ZA E2)) ha'
   exact GrpM.same ⟨hg.1, hg.2.1, fun j hj => hg.2.2 j (by simp [hj])⟩ (SS.trans (ZA E2))
def FreeM (Y : Sys S) (me : Nat) (gv : Value) (lvf : Int → Value) (o : Int) (stf : Int → S → S) (l : List Int) (G : Tg) (w : World) : Prop :=
 gv.oneCell' = true ∧ gv.cells = #[gv] ∧ ∀ i ∈ l, (lvf i).oneCell' = true ∧ (∀ G' w', ZV (MyI me) G w G' w' → Fn Tryz.prog 68 #[gv, .int .i64 i] w' fun u _ => u = lvf i) ∧
  ∀ G' w' s, ZV (MyI me) G w G' w' → Y.SM G' w' s → FnM Tryz.prog (Wr me G') 246 #[lvf i, .int .i64 o] w' fun _ w1 => ∃ G1, Tgs me G' w' G1 w1 ∧ ZV (MyT me) G' w' G1 w1 ∧ Y.SM G1 w1 (stf i s)
theorem FreeM.same {gv : Value} {lvf : Int → Value} {o : Int} {stf : Int → S → S} {l : List Int} {G' : Tg} {w' : World} (h : FreeM Y me gv lvf o stf l G w) (hS : ZV (MyI me) G w G' w') : FreeM Y me gv lvf o stf l G' w' :=
 ⟨h.1, h.2.1, fun i hi => ⟨(h.2.2 i hi).1, fun G2 w2 h2 => (h.2.2 i hi).2.1 G2 w2 (hS.trans h2), fun G2 w2 s h2 => (h.2.2 i hi).2.2 G2 w2 s (hS.trans h2)⟩⟩
def Qx {S : Type} (stf : Int → S → S) : List Int → (S → Out S) → S → Out S
 | [], φ => φ
 | i :: l, φ => fun s => ⟨true, s, doP fun s => Qx stf l φ (stf i s)⟩
theorem doP_thenO {F : α → S → Fo β S} {ψ : β → S → Out S} (g : S → Out S) (h : ∀ s, Xp F ψ x s = g s) : doP (Xp F ψ x) = doP g := by rw [show Xp F ψ x = g from funext h]
theorem free_mk {gv : Value} {lvf : Int → Value} {o : Int} {stf : Int → S → S} (hs : Stb me J) : ∀ (l : List Int) (G : Tg) (w : World) (s : S) (x : α) (a : Option Addr) (c : Nat), Y.SM G w s → FreeM Y me gv lvf o stf l G w → Sl (fun i => ¬ MyI me (G i)) w (.slice a l.length c) 1 (l.map eI) →
  X5 Y Tryz.prog me J φ G w nv → J x G w → (Qx stf l (φ x) s).al = true → MkS Y Tryz.prog me 179 #[gv, .slice a l.length c, .int .i64 o, nv] G w (Qx stf l (φ x) s)
 | [], G, w, s, x, a, c, hM, hg, hL, hn, hJ, ha => by
  obtain ⟨f, fi, cap, hnv, e, h⟩ := hn.call
  rw [hnv]
  refine free_nil w e hg.2.1 fun w1 hE => ?_
  have := h x (Kx me G w) w1 s (ZA hE) (Y.same hM (ZA hE)) ha (hs x _ _ _ _ hJ (ZA hE))
  rw [capF] at this; exact this
 | i :: l, G, w, s, x, a, c, hM, hg, hL, hn, hJ, ha => by
  obtain ⟨f, fi, cap, hnv, e, h⟩ := hn.call
  obtain ⟨b, oo, rfl⟩ := hL.base (by simp)
  rw [hnv]
  refine free_cons w hg.2.1 fun w1 b4 b5 b6 b7 hE q4 B4 q5 B5 q6 B6 q7 B7 => ?_
  show MkS _ _ _ _ _ _ _ ⟨true, s, doP fun s => Qx stf l (φ x) (stf i s)⟩
  rw [← doP_thenO (x := x) (F := fun (x : α) s => (⟨true, x, stf i s⟩ : Fo α S)) (ψ := fun x => Qx stf l (φ x)) (fun s => Qx stf l (φ x) (stf i s)) (fun s => by simp [Xp])]
  refine Jp (J := J) (J' := J) (Y.same hM (ZA hE)) ⟨_, #[], _, rfl, zE, fun x' G' w' s' hS hM' _ hJ' => ?_⟩ ⟨_, #[], _, rfl, zE, fun x' G' w' s' hS hM' ha' hJ' => ?_⟩ (hs x _ _ _ _ hJ (ZA hE)) hs
  ·have k4 := hS.box B4 (.inr (Xd q4)); have k5 := hS.box B5 (.inr (Xd q5)); have k6 := hS.box B6 (.inr (Xd q6))
   have SS := (ZA (me := me) (G := G) hE).trans hS
   obtain ⟨g1, g2, g3⟩ := hg.2.2 i (by simp)
   have := freeF_ok (M := Wr me G') (R := fun w2 => ∃ G'', Tgs me G' w' G'' w2 ∧ Y.SM G'' w2 (stf i s') ∧ J x' G'' w2) w' hg.1 g1 k4 k5 k6 (SS.sl hL) (fun w2 E2 => g2 _ w2 (SS.trans (ZA (me := me) E2))) fun w2 E2 => ?_
   ·rw [cap1]; exact this
   ·have := g3 (Kx me G' w') w2 s' (SS.trans (ZA E2)) (Y.same hM' (ZA E2))
    refine (this.sub fun i => wr_kx).mono ?_
    rintro u w3 hX ⟨G1, k1, k2, k3⟩
    exact ⟨G1, ZW.trans E2.size k1, k3, hs x' _ _ _ _ hJ' ((ZA E2).trans k2)⟩
  ·have k4 := hS.box B4 (.inr (Xd q4)); have k5 := hS.box B5 (.inr (Xd q5)); have k6 := hS.box B6 (.inr (Xd q6)); have k7 := hS.box B7 (.inr (Xd q7))
   have SS := (ZA (me := me) (G := G) hE).trans hS
   have hL' := sl_tail (SS.sl hL)
   have := free1_ok (Y := Y) (me := me) (G := G') (r := Qx stf l (φ x') s') w' hg.1 rfl hL'.2 k4 k5 k6 k7 fun w2 E2 => ?_
   ·rw [Q6]; exact this
   ·rw [← hnv]; refine free_mk (lvf := lvf) hs l _ w2 s' x' _ _ (Y.same hM' (ZA E2)) ?_ ((ZA E2).sl hL'.1) ((hn.same SS).same (ZA E2)) (hs x' _ _ _ _ hJ' (ZA E2)) ha'
    exact FreeM.same ⟨hg.1, hg.2.1, fun j hj => hg.2.2 j (by simp [hj])⟩ (SS.trans (ZA E2))
end
end
abbrev up1 (n : Int) : Int := IntKind.i64.wrap (n + 1)
theorem ref_eqs (a b c d : Int) : EqS Tryz.prog 2 117 (.agg #[.int .i64 a, .int .i64 b]) (.agg #[.int .i64 c, .int .i64 d]) (decide (a = c ∧ b = d)) := by
 have h := eqs_struct (P := Tryz.prog) (t := 117) (m := 1) (xs := #[.int .i64 a, .int .i64 b]) (ys := #[.int .i64 c, .int .i64 d]) (by kernel_rfl) sh_117 fs_117
  (EqF.cons rfl (QU p_3 rfl) (QU p_3 rfl) (eqs_int JF) (EqF.cons rfl (QU p_3 rfl) (QU p_3 rfl) (eqs_int JF) .nil))
 rw [show decide (a = c ∧ b = d) = (decide (a = c) && (decide (b = d) && true)) from ?_]
 ·exact h
 ·by_cases h1 : a = c <;> by_cases h2 : b = d <;> simp [h1, h2]
theorem accR_ok (w : World) {M : Nat → Prop} {R : World → Prop} {b77 : Nat} {x y : Int} {n : Int} {f : FuncId} {cap : Array Value} (hc : M b77) (B77 : Zj w b77 [.int .i64 x, .int .i64 y, .int .i64 n]) (e : Xa Tryz.prog f = true) (h : ∀ w1, Ext (fun i => i = b77) w w1 → w1.heap.size = w.heap.size → Zj w1 b77 [.int .i64 x, .int .i64 y, .int .i64 (up1 n)] → FnM Tryz.prog M f cap w1 fun _ w2 => R w2) : FnM Tryz.prog M 196 #[(Zpt b77), .func (.func f) #[] cap] w fun u w' => R w' := by
 have hl77 : Xo M w b77 := .inl hc
 have hX := Ext.refl M w
 refine Zfm (args := [_, _]) Tryz.func196 rfl rfl ?_
 refine Zs (Zm ?_)
 refine Zb (JL (by kernel_rfl) rfl rfl) (Zc (Qr rfl (Zs (Zm ?_))))
 refine Zb (Zg rfl) (Zb (Zf f_187_1 rfl) (Zb (Zi p_3 rfl B77 rfl) (Zb (rn_addw rfl rfl) (Zb (Zg rfl) (Zb (Zf f_187_1 rfl) (ZN (b := b77) p_3 rfl (by conv => lhs; whnf) rfl rfl B77 Zbl ?_)))))); intro w1 E1 B77 hz1
 replace hX := hX.mine E1 hl77
 refine Zc (ZJ ?_)
 have hX2 := E1
 refine Zm ?_
 refine XW (args := []) rfl e rfl (by have := h w1 hX2 hz1 B77; simpa using this) ?_; intro v14 w2 E2 hR
 replace hX := hX.trans E2
 refine Zc ?_
 exact ⟨_, rfl, hX, hR⟩
theorem ldR1_ok (w : World) {b77 b0 b1 : Nat} {x y : Int} {n : Int} {z : List Value} (hz : z.length = 2) (hn77 : b77 ≠ b1) (hB0 : Zj w b0 [(Zpt b77)]) (B1 : Zj w b1 z) (B77 : Zj w b77 [.int .i64 x, .int .i64 y, .int .i64 n]) : FnM Tryz.prog (fun i => i = b1 ∨ i = b77) 197 #[(Zpt b0), (Zpt b1)] w fun u w' => Zj w' b1 [.int .i64 x, .int .i64 y] ∧ Zj w' b77 [.int .i64 x, .int .i64 y, .int .i64 n] := by
 skip
 have hX := Ext.refl (fun i => i = b1 ∨ i = b77) w
 refine Zfm (args := [_, _]) Tryz.func197 rfl rfl ?_
 refine ZJ (Zb (Zi p_107 rfl hB0 rfl) (Zb (Zg rfl) (Zb (Zf f_187_0 rfl) (Zb (XC Qv (vs := [_, _]) rfl rfl (B77.part rfl Zbl)) (ZS (b := b1) Qv rfl rfl rfl (Qc rfl rfl) B1 hz ?_))))); intro w1 E1 B1 hz1
 replace hX := hX.mine E1 (.inl (.inl rfl)); replace B77 := B77.ext E1 (fun e => hn77 e)
 refine Zc ?_
 exact ⟨_, rfl, hX, ⟨B1, B77⟩⟩
theorem ldR_ok (w : World) {b77 : Nat} {x y : Int} {n : Int} (B77 : Zj w b77 [.int .i64 x, .int .i64 y, .int .i64 n]) : FnM Tryz.prog (fun i => i = b77) 129 #[(Zpt b77)] w fun u w' => u = .agg #[.int .i64 x, .int .i64 y] ∧ Zj w' b77 [.int .i64 x, .int .i64 y, .int .i64 (up1 n)] := by
 have hl77 : Xo (fun i => i = b77) w b77 := .inl rfl
 have hX := Ext.refl (fun i => i = b77) w
 refine Zfm (args := [_]) Tryz.func129 rfl rfl ?_
 refine Zs (ZP (by conv => lhs; whnf) rfl ?_); intro b1 w1 hb1 E1 B1
 have hn77_1 := Zn B77 hb1
 have hq1 := Zq hX hb1
 replace hX := hX.tr E1
 replace B77 := Zx B77 E1
 refine ZT z_117 ?_; intro b2 w2 hb2 E2 B2
 have hn77_2 := Zn B77 hb2
 have hn1_2 := Zn B1 hb2
 have hq2 := Zq hX hb2
 have hl2 := Zl hX hb2
 replace hX := hX.tr E2
 replace B77 := Zx B77 E2; replace B1 := Zx B1 E2
 refine Zc (Zs (Zb (Zi p_107 rfl B1 rfl) (Zb (ZL rfl) (ZI (M := fun i => i = b2 ∨ i = b77) zE rfl (accR_ok w2 (R := fun w2 => Zj w2 b2 [.int .i64 x, .int .i64 y] ∧ Zj w2 b77 [.int .i64 x, .int .i64 y, .int .i64 (up1 n)]) (.inr rfl) B77 zE fun w1 E1 hs1 hB => ldR1_ok w1 rfl (by have := B77.lt; omega) (B1.ext E1 (fun e => by omega)) (B2.ext E1 (fun e => by omega)) hB) ?_)))); intro v5 w3 E3 hR
 obtain ⟨B2, B77⟩ := hR
 replace B1 := B1.ext E3 (fun e => by rcases e with e | e <;> omega)
 replace hX := hX.own2 E3 (fun i hi => by rcases hi with h | h; rw [h]; exact hl2; rw [h]; exact hl77)
 refine Zc (Zs (Zb (ZR Qv rfl rfl B2) (ZS Qv rfl rfl rfl (Qc rfl rfl) B2 rfl ?_))); intro w4 E4 B2 hz4
 replace hX := hX.mine E4 hl2
 replace B77 := B77.ext E4 (fun h => by omega); replace B1 := B1.ext E4 (fun h => by omega)
 refine Zc (ZB ?_)
 exact ⟨_, ZD (Xn Qv rfl B2 rfl), hX, ⟨rfl, B77⟩⟩
theorem accK_ok (w : World) {M : Nat → Prop} {R : World → Prop} {b77 : Nat} {x : Option Addr} {n : Int} {f : FuncId} {cap : Array Value} (hc : M b77) (B77 : Zj w b77 [.pointer x, .int .i64 n]) (e : Xa Tryz.prog f = true) (h : ∀ w1, Ext (fun i => i = b77) w w1 → w1.heap.size = w.heap.size → Zj w1 b77 [.pointer x, .int .i64 (up1 n)] → FnM Tryz.prog M f cap w1 fun _ w2 => R w2) : FnM Tryz.prog M 267 #[(Zpt b77), .func (.func f) #[] cap] w fun u w' => R w' := by
 have hl77 : Xo M w b77 := .inl hc
 have hX := Ext.refl M w
 refine Zfm (args := [_, _]) Tryz.func267 rfl rfl ?_
 refine Zs (Zm ?_)
 refine Zb (JL (by kernel_rfl) rfl rfl) (Zc (Qr rfl (Zs (Zm ?_))))
 refine Zb (Zg rfl) (Zb (Zf f_189_1 rfl) (Zb (Zi p_3 rfl B77 rfl) (Zb (rn_addw rfl rfl) (Zb (Zg rfl) (Zb (Zf f_189_1 rfl) (ZN (b := b77) p_3 rfl (by conv => lhs; whnf) rfl rfl B77 Zbl ?_)))))); intro w1 E1 B77 hz1
 replace hX := hX.mine E1 hl77
 refine Zc (ZJ ?_)
 have hX2 := E1
 refine Zm ?_
 refine XW (args := []) rfl e rfl (by have := h w1 hX2 hz1 B77; simpa using this) ?_; intro v14 w2 E2 hR
 replace hX := hX.trans E2
 refine Zc ?_
 exact ⟨_, rfl, hX, hR⟩
theorem ldK1_ok (w : World) {b77 b0 b1 : Nat} {x : Option Addr} {n : Int} {z : List Value} (hz : z.length = 1) (hn77 : b77 ≠ b1) (hB0 : Zj w b0 [(Zpt b77)]) (B1 : Zj w b1 z) (B77 : Zj w b77 [.pointer x, .int .i64 n]) : FnM Tryz.prog (fun i => i = b1 ∨ i = b77) 288 #[(Zpt b0), (Zpt b1)] w fun u w' => Zj w' b1 [.pointer x] ∧ Zj w' b77 [.pointer x, .int .i64 n] := by
 skip
 have hX := Ext.refl (fun i => i = b1 ∨ i = b77) w
 refine Zfm (args := [_, _]) Tryz.func288 rfl rfl ?_
 refine ZJ (Zb (Zi p_108 rfl hB0 rfl) (Zb (Zg rfl) (Zb (Zf f_189_0 rfl) (Zb (Zi p_119 rfl B77 rfl) (ZN (b := b1) p_119 rfl (by conv => lhs; whnf) rfl rfl B1 (by omega) ?_))))); intro w1 E1 B1 hz1
 replace hX := hX.mine E1 (.inl (.inl rfl)); replace B77 := B77.ext E1 (fun e => hn77 e)
 refine Zc ?_
 exact ⟨_, rfl, hX, ⟨(by obtain ⟨z1, rfl⟩ : ∃ a, z = [a] := by { cases z with | nil => simp at hz | cons a t => cases t with | nil => exact ⟨_, rfl⟩ | cons => simp at hz }; exact B1), B77⟩⟩
theorem ldK_ok (w : World) {b77 : Nat} {x : Option Addr} {n : Int} (B77 : Zj w b77 [.pointer x, .int .i64 n]) : FnM Tryz.prog (fun i => i = b77) 237 #[(Zpt b77)] w fun u w' => u = .pointer x ∧ Zj w' b77 [.pointer x, .int .i64 (up1 n)] := by
 have hl77 : Xo (fun i => i = b77) w b77 := .inl rfl
 have hX := Ext.refl (fun i => i = b77) w
 refine Zfm (args := [_]) Tryz.func237 rfl rfl ?_
 refine Zs (ZP (by conv => lhs; whnf) rfl ?_); intro b1 w1 hb1 E1 B1
 have hn77_1 := Zn B77 hb1
 have hq1 := Zq hX hb1
 replace hX := hX.tr E1
 replace B77 := Zx B77 E1
 refine ZT z_119 ?_; intro b2 w2 hb2 E2 B2
 have hn77_2 := Zn B77 hb2
 have hn1_2 := Zn B1 hb2
 have hq2 := Zq hX hb2
 have hl2 := Zl hX hb2
 replace hX := hX.tr E2
 replace B77 := Zx B77 E2; replace B1 := Zx B1 E2
 refine Zc (Zs (Zb (Zi p_108 rfl B1 rfl) (Zb (ZL rfl) (ZI (M := fun i => i = b2 ∨ i = b77) zE rfl (accK_ok w2 (R := fun w2 => Zj w2 b2 [.pointer x] ∧ Zj w2 b77 [.pointer x, .int .i64 (up1 n)]) (.inr rfl) B77 zE fun w1 E1 hs1 hB => ldK1_ok w1 rfl (by have := B77.lt; omega) (B1.ext E1 (fun e => by omega)) (B2.ext E1 (fun e => by omega)) hB) ?_)))); intro v5 w3 E3 hR
 obtain ⟨B2, B77⟩ := hR
 replace B1 := B1.ext E3 (fun e => by rcases e with e | e <;> omega)
 replace hX := hX.own2 E3 (fun i hi => by rcases hi with h | h; rw [h]; exact hl2; rw [h]; exact hl77)
 refine Zc (Zs (Zb (Zi p_119 rfl B2 rfl) (ZN (b := b2) p_119 rfl (by conv => lhs; whnf) rfl rfl B2 Zbl ?_))); intro w4 E4 B2 hz4
 replace hX := hX.mine E4 hl2
 replace B77 := B77.ext E4 (fun h => by omega); replace B1 := B1.ext E4 (fun h => by omega)
 refine Zc (ZB ?_)
 exact ⟨_, ZD (Q4 p_119 rfl B2), hX, ⟨rfl, B77⟩⟩
theorem casR1_ok (w : World) {b77 b0 b1 b2 b3 : Nat} {x y n x1 y1 x2 y2 : Int} (hn2 : b77 ≠ b2) (hd0 : b0 ≠ b2) (hd3 : b3 ≠ b2) (h0c : b0 ≠ b77) (h3c : b3 ≠ b77) (hB0 : Zj w b0 [(Zpt b77)]) (B1 : Zj w b1 [.int .i64 x1, .int .i64 y1]) (B2 : Zj w b2 [.bool false]) (B3 : Zj w b3 [.int .i64 x2, .int .i64 y2]) (B77 : Zj w b77 [.int .i64 x, .int .i64 y, .int .i64 n]) : FnM Tryz.prog (fun i => i = b2 ∨ i = b77) 311 #[(Zpt b0), (Zpt b1), (Zpt b2), (Zpt b3)] w fun u w' => Zj w' b2 [.bool (decide (x = x1 ∧ y = y1))] ∧ Zj w' b77 (if x = x1 ∧ y = y1 then [.int .i64 x2, .int .i64 y2, .int .i64 n] else [.int .i64 x, .int .i64 y, .int .i64 n]) := by
 have hl2 : Xo (fun i => i = b2 ∨ i = b77) w b2 := .inl (.inl rfl)
 have hl77 : Xo (fun i => i = b2 ∨ i = b77) w b77 := .inl (.inr rfl)
 have hX := Ext.refl (fun i => i = b2 ∨ i = b77) w
 refine Zfm (args := [_, _, _, _]) Tryz.func311 rfl rfl ?_
 refine ZC (Z5 (fun j => j == 6) mixed ?_); intro w1 E1
 replace hX := hX.tr E1
 replace hB0 := Zx hB0 E1; replace B3 := Zx B3 E1; replace B2 := Zx B2 E1; replace B77 := Zx B77 E1
 replace B1 := Zx B1 E1
 have hS := Ext.refl Non w1
 refine Zt 0 [1, 2, 3, 5, 6] rfl hS (Zv p_107 rfl hB0 rfl) (Zt 1 [2, 3, 5, 6] rfl hS (Zr (Zg rfl)) (Zt 2 [3, 5, 6] rfl hS (Zr (Zf f_187_0 rfl)) (Zt 3 [5, 6] rfl hS (ZG fun A hA => XC Qv (vs := [_, _]) rfl rfl ((B77.ext hA id).part rfl Zbl)) (Zt 4 [5, 6] rfl hS (ZG fun A hA => ZR Qv rfl rfl (B1.ext hA id)) (Zt 5 [6] rfl hS (ZG fun A hA => rn_eqlS rfl rfl eg_117 (by decide) (ref_eqs _ _ _ _)) ?_)))))
 replace hX := hX.tr hS
 replace hB0 := Zx hB0 hS; replace B3 := Zx B3 hS; replace B2 := Zx B2 hS; replace B77 := Zx B77 hS
 replace B1 := Zx B1 hS
 refine Zo 6 rfl (ZK ?_)
 have Bo := B2
 refine ZN (b := b2) p_4 rfl (by conv => lhs; whnf) rfl rfl B2 Zbl ?_; intro w2 E2 B2 hz2
 replace hX := hX.mine E2 hl2
 replace hB0 := hB0.ext E2 (fun h => by omega); replace B3 := B3.ext E2 (fun h => by omega); replace B77 := B77.ext E2 (fun h => by omega)
 replace B1 := B1
 refine Zz ?_
 refine ZZ (by kernel_rfl) ?_ _
 refine Zs (Zb (Zi p_4 rfl B2 rfl) (Zc ?_))
 refine ZE rfl (fun hc0 => ?_) (fun hc0 => ?_)
 ·refine ZJ (Zb (Zi p_107 rfl hB0 rfl) (Zb (ZR Qv rfl rfl B3) (Zb (Zg rfl) (Zb (Zf f_187_0 rfl) ?_))))
  have Bo := B77
  refine J4 (b := b77) Qv rfl rfl rfl (Qc rfl rfl) B77 Zbl ?_; intro w3 E3 B77 hz3
  replace hX := hX.mine E3 hl77
  replace hB0 := hB0.ext E3 (fun h => by omega); replace B3 := B3.ext E3 (fun h => by omega); replace B2 := B2.ext E3 (fun h => by omega)
  replace B1 := B1
  refine Zc ?_
  exact ⟨_, rfl, hX, ⟨B2, by rw [if_pos (of_decide_eq_true hc0)]; exact B77⟩⟩
 ·refine ZF ?_
  exact ⟨_, rfl, hX, ⟨B2, by rw [if_neg (of_decide_eq_false hc0)]; exact B77⟩⟩
theorem casR_ok (w : World) {b77 : Nat} {x y n : Int} (x1 y1 x2 y2 : Int) (B77 : Zj w b77 [.int .i64 x, .int .i64 y, .int .i64 n]) : FnM Tryz.prog (fun i => i = b77) 272 #[(Zpt b77), .agg #[.int .i64 x1, .int .i64 y1], .agg #[.int .i64 x2, .int .i64 y2]] w fun u w' => u = .bool (decide (x = x1 ∧ y = y1)) ∧ Zj w' b77 (if x = x1 ∧ y = y1 then [.int .i64 x2, .int .i64 y2, .int .i64 (up1 n)] else [.int .i64 x, .int .i64 y, .int .i64 (up1 n)]) := by
 have hl77 : Xo (fun i => i = b77) w b77 := .inl rfl
 have hX := Ext.refl (fun i => i = b77) w
 refine Zfm (args := [_, _, _]) Tryz.func272 rfl rfl ?_
 refine Zs (ZP (by conv => lhs; whnf) rfl ?_); intro b3 w1 hb3 E1 B3
 have hn77_3 := Zn B77 hb3
 have hq3 := Zq hX hb3
 replace hX := hX.tr E1
 replace B77 := Zx B77 E1
 refine ZY rfl ?_; intro b4 w2 hb4 E2 B4
 have hn77_4 := Zn B77 hb4
 have hn3_4 := Zn B3 hb4
 have hq4 := Zq hX hb4
 replace hX := hX.tr E2
 replace B77 := Zx B77 E2; replace B3 := Zx B3 E2
 refine ZY rfl ?_; intro b5 w3 hb5 E3 B5
 have hn77_5 := Zn B77 hb5
 have hn3_5 := Zn B3 hb5
 have hn4_5 := Zn B4 hb5
 have hq5 := Zq hX hb5
 replace hX := hX.tr E3
 replace B77 := Zx B77 E3; replace B3 := Zx B3 E3; replace B4 := Zx B4 E3
 refine ZT z_4 ?_; intro b6 w4 hb6 E4 B6
 have hn77_6 := Zn B77 hb6
 have hn3_6 := Zn B3 hb6
 have hn4_6 := Zn B4 hb6
 have hn5_6 := Zn B5 hb6
 have hq6 := Zq hX hb6
 have hl6 := Zl hX hb6
 replace hX := hX.tr E4
 replace B77 := Zx B77 E4; replace B3 := Zx B3 E4; replace B4 := Zx B4 E4; replace B5 := Zx B5 E4
 refine Zc (Zs (Zb (Zi p_107 rfl B3 rfl) (Zb (ZL rfl) ?_)))
 have hlt := B77.lt
 refine ZI (M := fun i => i = b6 ∨ i = b77) zE rfl (accR_ok w4 (R := fun w2 => Zj w2 b6 [.bool (decide (x = x1 ∧ y = y1))] ∧ Zj w2 b77 (if x = x1 ∧ y = y1 then [.int .i64 x2, .int .i64 y2, .int .i64 (up1 n)] else [.int .i64 x, .int .i64 y, .int .i64 (up1 n)])) (.inr rfl) B77 zE fun w1 E1 hs1 hB => casR1_ok w1 (by omega) (by omega) (by omega) (by omega) (by omega) (B3.ext E1 (fun e => by omega)) (B4.ext E1 (fun e => by omega)) (B6.ext E1 (fun e => by omega)) (B5.ext E1 (fun e => by omega)) hB) ?_; intro v9 w5 E5 hR
 obtain ⟨B6, B77⟩ := hR
 replace B3 := B3.ext E5 (fun e => by rcases e with e | e <;> omega); replace B4 := B4.ext E5 (fun e => by rcases e with e | e <;> omega); replace B5 := B5.ext E5 (fun e => by rcases e with e | e <;> omega)
 replace hX := hX.own2 E5 (fun i hi => by rcases hi with h | h; rw [h]; exact hl6; rw [h]; exact hl77)
 refine Zc (Zs (Zb (Zi p_4 rfl B6 rfl) (ZN (b := b6) p_4 rfl (by conv => lhs; whnf) rfl rfl B6 Zbl ?_))); intro w6 E6 B6 hz6
 replace hX := hX.mine E6 hl6
 replace B77 := B77.ext E6 (fun h => by omega); replace B3 := B3.ext E6 (fun h => by omega); replace B4 := B4.ext E6 (fun h => by omega); replace B5 := B5.ext E6 (fun h => by omega)
 refine Zc (ZB ?_)
 exact ⟨_, ZD (Q4 p_4 rfl B6), hX, ⟨rfl, B77⟩⟩
theorem accI_ok (w : World) {M : Nat → Prop} {R : World → Prop} {b77 o : Nat} {cs : List Value} {n : Int} (hcn : cs[o + 1]? = some (.int .i64 n)) {f : FuncId} {cap : Array Value} (hc : M b77) (B77 : Zj w b77 cs) (e : Xa Tryz.prog f = true) (h : ∀ w1, Ext (fun i => i = b77) w w1 → w1.heap.size = w.heap.size → Zj w1 b77 (cs.set (o + 1) (.int .i64 (up1 n))) → FnM Tryz.prog M f cap w1 fun _ w2 => R w2) : FnM Tryz.prog M 258 #[.pointer (some ⟨b77, o, none⟩), .func (.func f) #[] cap] w fun u w' => R w' := by
 have hlo : o + 1 < cs.length := (List.getElem?_eq_some_iff.1 hcn).1
 have hl77 : Xo M w b77 := .inl hc
 have hX := Ext.refl M w
 refine Zfm (args := [_, _]) Tryz.func258 rfl rfl ?_
 refine Zs (Zm ?_)
 refine Zb (JL (by kernel_rfl) rfl rfl) (Zc (Qr rfl (Zs (Zm ?_))))
 refine Zb (Zg rfl) (Zb (Zf f_216_1 rfl) (Zb (Zi p_3 rfl B77 hcn) (Zb (rn_addw rfl rfl) (Zb (Zg rfl) (Zb (Zf f_216_1 rfl) (ZN (b := b77) p_3 rfl (by conv => lhs; whnf) rfl rfl B77 hlo ?_)))))); intro w1 E1 B77 hz1
 replace hX := hX.mine E1 hl77
 refine Zc (ZJ ?_)
 have hX2 := E1
 refine Zm ?_
 refine XW (args := []) rfl e rfl (by have := h w1 hX2 hz1 B77; simpa using this) ?_; intro v14 w2 E2 hR
 replace hX := hX.trans E2
 refine Zc ?_
 exact ⟨_, rfl, hX, hR⟩
theorem casI1_ok (w : World) {b77 o b0 b1 b2 b3 : Nat} {cs : List Value} {x x1 x2 : Int} (hcx : cs[o]? = some (.int .i64 x)) (hn2 : b77 ≠ b2) (hd0 : b0 ≠ b2) (hd3 : b3 ≠ b2) (h0c : b0 ≠ b77) (h3c : b3 ≠ b77) (hB0 : Zj w b0 [.pointer (some ⟨b77, o, none⟩)]) (B1 : Zj w b1 [.int .i64 x1]) (B2 : Zj w b2 [.bool false]) (B3 : Zj w b3 [.int .i64 x2]) (B77 : Zj w b77 cs) : FnM Tryz.prog (fun i => i = b2 ∨ i = b77) 259 #[(Zpt b0), (Zpt b1), (Zpt b2), (Zpt b3)] w fun u w' => Zj w' b2 [.bool (decide (x = x1))] ∧ Zj w' b77 (if x = x1 then cs.set o (.int .i64 x2) else cs) := by
 have hlo : o < cs.length := (List.getElem?_eq_some_iff.1 hcx).1
 have hl2 : Xo (fun i => i = b2 ∨ i = b77) w b2 := .inl (.inl rfl)
 have hl77 : Xo (fun i => i = b2 ∨ i = b77) w b77 := .inl (.inr rfl)
 have hX := Ext.refl (fun i => i = b2 ∨ i = b77) w
 refine Zfm (args := [_, _, _, _]) Tryz.func259 rfl rfl ?_
 refine ZC (Z5 (fun j => j == 6) mixed ?_); intro w1 E1
 replace hX := hX.tr E1
 replace hB0 := Zx hB0 E1; replace B3 := Zx B3 E1; replace B2 := Zx B2 E1; replace B77 := Zx B77 E1
 replace B1 := Zx B1 E1
 have hS := Ext.refl Non w1
 refine Zt 0 [1, 2, 3, 5, 6] rfl hS (Zv p_299 rfl hB0 rfl) (Zt 1 [2, 3, 5, 6] rfl hS (Zr (Zg rfl)) (Zt 2 [3, 5, 6] rfl hS (Zr (Zf f_216_0 rfl)) (Zt 3 [5, 6] rfl hS (ZG fun A hA => Zi p_3 rfl (B77.ext hA id) hcx) (Zt 4 [5, 6] rfl hS (Zv p_3 rfl B1 rfl) (Zt 5 [6] rfl hS (Zr (Xc rfl rfl)) ?_)))))
 replace hX := hX.tr hS
 replace hB0 := Zx hB0 hS; replace B3 := Zx B3 hS; replace B2 := Zx B2 hS; replace B77 := Zx B77 hS
 replace B1 := Zx B1 hS
 refine Zo 6 rfl (ZK ?_)
 have Bo := B2
 refine ZN (b := b2) p_4 rfl (by conv => lhs; whnf) rfl rfl B2 Zbl ?_; intro w2 E2 B2 hz2
 replace hX := hX.mine E2 hl2
 replace hB0 := hB0.ext E2 (fun h => by omega); replace B3 := B3.ext E2 (fun h => by omega); replace B77 := B77.ext E2 (fun h => by omega)
 replace B1 := B1
 refine Zz ?_
 refine ZZ (by kernel_rfl) ?_ _
 refine Zs (Zb (Zi p_4 rfl B2 rfl) (Zc ?_))
 refine ZE rfl (fun hc0 => ?_) (fun hc0 => ?_)
 ·refine ZJ (Zb (Zi p_299 rfl hB0 rfl) (Zb (Zi p_3 rfl B3 rfl) (Zb (Zg rfl) (Zb (Zf f_216_0 rfl) ?_))))
  have Bo := B77
  refine ZN (b := b77) p_3 rfl (by conv => lhs; whnf) rfl rfl B77 hlo ?_; intro w3 E3 B77 hz3
  replace hX := hX.mine E3 hl77
  replace hB0 := hB0.ext E3 (fun h => by omega); replace B3 := B3.ext E3 (fun h => by omega); replace B2 := B2.ext E3 (fun h => by omega)
  replace B1 := B1
  refine Zc ?_
  exact ⟨_, rfl, hX, ⟨B2, by rw [if_pos (of_decide_eq_true hc0)]; exact B77⟩⟩
 ·refine ZF ?_
  exact ⟨_, rfl, hX, ⟨B2, by rw [if_neg (of_decide_eq_false hc0)]; exact B77⟩⟩
theorem casI_ok (w : World) {b77 o : Nat} {cs : List Value} {x n : Int} (hcx : cs[o]? = some (.int .i64 x)) (hcn : cs[o + 1]? = some (.int .i64 n)) (x1 x2 : Int) (B77 : Zj w b77 cs) : FnM Tryz.prog (fun i => i = b77) 195 #[.pointer (some ⟨b77, o, none⟩), .int .i64 x1, .int .i64 x2] w fun u w' => u = .bool (decide (x = x1)) ∧ Zj w' b77 (if x = x1 then (cs.set (o + 1) (.int .i64 (up1 n))).set o (.int .i64 x2) else cs.set (o + 1) (.int .i64 (up1 n))) := by
 have hlo : o + 1 < cs.length := (List.getElem?_eq_some_iff.1 hcn).1
 have hl77 : Xo (fun i => i = b77) w b77 := .inl rfl
 have hX := Ext.refl (fun i => i = b77) w
 refine Zfm (args := [_, _, _]) Tryz.func195 rfl rfl ?_
 refine Zs (ZP (by conv => lhs; whnf) rfl ?_); intro b3 w1 hb3 E1 B3
 have hn77_3 := Zn B77 hb3
 have hq3 := Zq hX hb3
 replace hX := hX.tr E1
 replace B77 := Zx B77 E1
 refine ZP (by conv => lhs; whnf) rfl ?_; intro b4 w2 hb4 E2 B4
 have hn77_4 := Zn B77 hb4
 have hn3_4 := Zn B3 hb4
 have hq4 := Zq hX hb4
 replace hX := hX.tr E2
 replace B77 := Zx B77 E2; replace B3 := Zx B3 E2
 refine ZP (by conv => lhs; whnf) rfl ?_; intro b5 w3 hb5 E3 B5
 have hn77_5 := Zn B77 hb5
 have hn3_5 := Zn B3 hb5
 have hn4_5 := Zn B4 hb5
 have hq5 := Zq hX hb5
 replace hX := hX.tr E3
 replace B77 := Zx B77 E3; replace B3 := Zx B3 E3; replace B4 := Zx B4 E3
 refine ZT z_4 ?_; intro b6 w4 hb6 E4 B6
 have hn77_6 := Zn B77 hb6
 have hn3_6 := Zn B3 hb6
 have hn4_6 := Zn B4 hb6
 have hn5_6 := Zn B5 hb6
 have hq6 := Zq hX hb6
 have hl6 := Zl hX hb6
 replace hX := hX.tr E4
 replace B77 := Zx B77 E4; replace B3 := Zx B3 E4; replace B4 := Zx B4 E4; replace B5 := Zx B5 E4
 refine Zc (Zs (Zb (Zi p_299 rfl B3 rfl) (Zb (ZL rfl) ?_)))
 have hlt := B77.lt
 refine ZI (M := fun i => i = b6 ∨ i = b77) zE rfl (accI_ok w4 hcn (R := fun w2 => Zj w2 b6 [.bool (decide (x = x1))] ∧ Zj w2 b77 (if x = x1 then (cs.set (o + 1) (.int .i64 (up1 n))).set o (.int .i64 x2) else cs.set (o + 1) (.int .i64 (up1 n)))) (.inr rfl) B77 zE fun w1 E1 hs1 hB => casI1_ok w1 (by rw [List.getElem?_set_ne (by omega)]; exact hcx) (by omega) (by omega) (by omega) (by omega) (by omega) (B3.ext E1 (fun e => by omega)) (B4.ext E1 (fun e => by omega)) (B6.ext E1 (fun e => by omega)) (B5.ext E1 (fun e => by omega)) hB) ?_; intro v9 w5 E5 hR
 obtain ⟨B6, B77⟩ := hR
 replace B3 := B3.ext E5 (fun e => by rcases e with e | e <;> omega); replace B4 := B4.ext E5 (fun e => by rcases e with e | e <;> omega); replace B5 := B5.ext E5 (fun e => by rcases e with e | e <;> omega)
 replace hX := hX.own2 E5 (fun i hi => by rcases hi with h | h; rw [h]; exact hl6; rw [h]; exact hl77)
 refine Zc (Zs (Zb (Zi p_4 rfl B6 rfl) (ZN (b := b6) p_4 rfl (by conv => lhs; whnf) rfl rfl B6 Zbl ?_))); intro w6 E6 B6 hz6
 replace hX := hX.mine E6 hl6
 replace B77 := B77.ext E6 (fun h => by omega); replace B3 := B3.ext E6 (fun h => by omega); replace B4 := B4.ext E6 (fun h => by omega); replace B5 := B5.ext E6 (fun h => by omega)
 refine Zc (ZB ?_)
 exact ⟨_, ZD (Q4 p_4 rfl B6), hX, ⟨rfl, B77⟩⟩
theorem try_ok (w : World) {b77 o : Nat} {cs : List Value} {x n : Int} (hcx : cs[o]? = some (.int .i64 x)) (hcn : cs[o + 1]? = some (.int .i64 n)) {k : Int} (hck : cs[o + 2]? = some (.int .i64 k)) (ow : Int) (how : 1 ≤ ow) (B77 : Zj w b77 cs) : FnM Tryz.prog (fun i => i = b77) 125 #[.pointer (some ⟨b77, o, none⟩), .int .i64 ow] w fun u w' => u = .bool (decide (x = 0)) ∧ Zj w' b77 (if x = 0 then ((cs.set (o + 1) (.int .i64 (up1 n))).set o (.int .i64 ow)).set (o + 2) (.int .i64 (up1 k)) else cs.set (o + 1) (.int .i64 (up1 n))) := by
 skip
 have hlo : o + 2 < cs.length := (List.getElem?_eq_some_iff.1 hck).1
 have hl77 : Xo (fun i => i = b77) w b77 := .inl rfl
 have hX := Ext.refl (fun i => i = b77) w
 refine Zfm (args := [_, _]) Tryz.func125 rfl rfl ?_
 refine Zs (Za ?_)
 refine Zc (ZC (Zs (Zm ?_)))
 refine Zb (Z9 (by kernel_rfl) rfl rfl) (Zm ?_)
 refine Zu rfl rfl (Zm ?_)
 refine Zu rfl rfl (Zb (Xj rfl rfl) (Zb (ZQ rfl (by conv => lhs; whnf)) ?_))
 refine Zm ?_
 refine Z3 (d := 11) rfl (fun hg11 => ?_) (fun hg11 => ?_)
 ·exact absurd (of_decide_eq_true hg11) (by omega)
 ·refine Zu rfl (Zcb hg11) (Zm ?_)
  refine Zu rfl (Zcb hg11) (Zb (Zg rfl) (Zu rfl (Zcb hg11) (Zb (rn_fieldAddr0 f_218_0 (by decide) rfl) (Zu rfl (Zcb hg11) (Zm ?_)))))
  refine Zu rfl (Zcb hg11) (ZI zE rfl (casI_ok w hcx hcn 0 ow B77) ?_); intro v16 w1 E1 hR
  obtain ⟨rfl, B77⟩ := hR
  replace hX := hX.trans E1
  refine Zu rfl (Zcb hg11) (Zb (Xy rfl) (Zb (ZQ (Zcb hg11) (by conv => lhs; whnf)) ?_))
  refine Zc ?_
  refine ZE rfl (fun hc0 => ?_) (fun hc0 => ?_)
  ·have h0 : ¬ x = 0 := by simpa using hc0
   refine Zs (Za ?_)
   refine Zc (ZB ?_)
   exact ⟨_, ZD (Zh rfl), hX, ⟨by rw [decide_eq_false h0]; rfl, by rw [if_neg h0]; rw [if_neg h0] at B77; exact B77⟩⟩
  ·have h0 : x = 0 := by simpa using hc0
   refine ZF (Zs (Zm ?_))
   refine Zb (Zg rfl) (Zb (Zf f_218_1 rfl) ?_)
   refine Zb (Zi p_3 rfl B77 (v := .int .i64 k) (by rw [if_pos h0]; rw [List.getElem?_set_ne (by simp), List.getElem?_set_ne (by simp)]; exact hck)) ?_
   refine Zb (rn_addw rfl rfl) (Zb (Zg rfl) (Zb (Zf f_218_1 rfl) (ZN (b := b77) p_3 rfl (by conv => lhs; whnf) rfl rfl B77 (by rw [if_pos h0]; simp only [List.length_set]; exact hlo) ?_))); intro w2 E2 B77 hz2
   replace hX := hX.mine E2 hl77
   refine Zc (Zs (Za ?_))
   refine Zc (ZB ?_)
   exact ⟨_, ZD (Zh rfl), hX, ⟨by rw [decide_eq_true h0]; rfl, by rw [if_pos h0]; rw [if_pos h0] at B77; exact B77⟩⟩
theorem lfree_ok (w : World) {b77 o : Nat} {cs : List Value} {x n : Int} (hcx : cs[o]? = some (.int .i64 x)) (hcn : cs[o + 1]? = some (.int .i64 n)) (ow : Int) (how : 1 ≤ ow) (B77 : Zj w b77 cs) : FnM Tryz.prog (fun i => i = b77) 246 #[.pointer (some ⟨b77, o, none⟩), .int .i64 ow] w fun u w' => Zj w' b77 (if x = ow then (cs.set (o + 1) (.int .i64 (up1 n))).set o (.int .i64 0) else cs.set (o + 1) (.int .i64 (up1 n))) := by
 skip
 have hl77 : Xo (fun i => i = b77) w b77 := .inl rfl
 have hX := Ext.refl (fun i => i = b77) w
 refine Zfm (args := [_, _]) Tryz.func246 rfl rfl ?_
 refine Zs (Za ?_)
 refine Zc (ZC (Zs (Zm ?_)))
 refine Zb (Z9 (by kernel_rfl) rfl rfl) (Zm ?_)
 refine Zu rfl rfl (Zm ?_)
 refine Zu rfl rfl (Zb (Xj rfl rfl) (Zb (ZQ rfl (by conv => lhs; whnf)) ?_))
 refine Zm ?_
 refine Z3 (d := 11) rfl (fun hg11 => ?_) (fun hg11 => ?_)
 ·exact absurd (of_decide_eq_true hg11) (by omega)
 ·refine Zu rfl (Zcb hg11) (Zm ?_)
  refine Zu rfl (Zcb hg11) (Zb (Zg rfl) (Zu rfl (Zcb hg11) (Zb (rn_fieldAddr0 f_218_0 (by decide) rfl) (Zu rfl (Zcb hg11) (Zm ?_)))))
  refine Zu rfl (Zcb hg11) (ZI zE rfl (casI_ok w hcx hcn ow 0 B77) ?_); intro v16 w1 E1 hR
  obtain ⟨rfl, B77⟩ := hR
  replace hX := hX.trans E1
  refine Zu rfl (Zcb hg11) (Zb (Xy rfl) (Zb (ZQ (Zcb hg11) (by conv => lhs; whnf)) ?_))
  refine Zc ?_
  refine ZE rfl (fun hc0 => ?_) (fun hc0 => ?_)
  ·refine Zs (Za ?_)
   refine Zc (ZB ?_)
   exact ⟨_, ZD (Zh rfl), hX, B77⟩
  ·refine ZF (Zs (Za ?_))
   refine Zc (ZB ?_)
   exact ⟨_, ZD (Zh rfl), hX, B77⟩
end Go.Proofs.YtjklgohpminefaaGreatDoorC
