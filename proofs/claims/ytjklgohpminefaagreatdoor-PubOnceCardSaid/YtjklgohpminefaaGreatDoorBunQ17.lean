/- A new core. -/
import Derived.Test.YtjklgohpminefaaGreatDoorBunQ16

set_option linter.unusedVariables false
set_option linter.unusedSimpArgs false
set_option maxRecDepth 1000000
namespace Go.Proofs.YtjklgohpminefaaGreatDoorC
open Go.RowKit
def rgR (n i : Nat) : List (List Value) := (List.range n).map fun j => Qk (JX, if j < i then 2 * (j : Int) else 0)
theorem rgR_at {n i j : Nat} (h : j < n) : (rgR n i)[j]? = some (Qk (JX, if j < i then 2 * (j : Int) else 0)) := by
 unfold rgR; rw [List.getElem?_map, List.getElem?_range h]; rfl
theorem rgR_set {n i : Nat} (h : i < n) : (rgR n i).set i (XZ (Qk (JX, 0)) 3 [.int .i64 (2 * (i : Int))]) = rgR n (i + 1) := by
 apply List.ext_getElem?
 intro j
 by_cases hj : j < n
 ·rw [rgR_at hj]
  by_cases e : i = j
  ·subst e
   rw [List.getElem?_set_self (by simp [rgR, h]), if_pos (by omega)]; rfl
  ·rw [List.getElem?_set_ne e, rgR_at hj]
   by_cases h1 : j < i
   ·rw [if_pos h1, if_pos (by omega)]
   ·rw [if_neg h1, if_neg (by omega)]
 ·rw [List.getElem?_eq_none (by simp [rgR]; omega), List.getElem?_eq_none (by simp [rgR]; omega)]
theorem rgR_zero (n : Nat) : rgR n 0 = List.replicate n [Sv [], Sv [], .bool false, .int .i64 0] := by
 unfold rgR
 apply List.ext_getElem?
 intro j
 by_cases hj : j < n
 ·rw [List.getElem?_map, List.getElem?_range hj, List.getElem?_replicate, if_pos hj]; rfl
 ·rw [List.getElem?_eq_none (by simp; omega), List.getElem?_eq_none (by simp; omega)]
abbrev flP (l : List (Nat × Nat)) : List Nat := l.flatMap fun p => [p.2, p.1]
structure Inc (l : List (Nat × Nat)) (n N : Nat) : Prop where
 inc : (flP l).Pairwise (· < ·)
 bd : ∀ x ∈ flP l, n ≤ x ∧ x < N
theorem Inc.nil {n N : Nat} : Inc [] n N := ⟨List.Pairwise.nil, fun x h => by simp [flP] at h⟩
theorem Inc.mono {l : List (Nat × Nat)} {n N N' : Nat} (h : Inc l n N) (hN : N ≤ N') : Inc l n N' := ⟨h.inc, fun x hx => ⟨(h.bd x hx).1, Zlt (h.bd x hx).2 hN⟩⟩
theorem Inc.snoc {l : List (Nat × Nat)} {n N N' a b : Nat} (h : Inc l n N) (hn : n ≤ N) (h1 : N ≤ b) (h2 : b < a) (h3 : a < N') : Inc (l ++ [(a, b)]) n N' := by
 have e : flP (l ++ [(a, b)]) = flP l ++ [b, a] := by simp [flP]
 refine ⟨?_, fun x hx => ?_⟩
 ·rw [e, List.pairwise_append]
  refine ⟨h.inc, by simp [h2], fun x hx y hy => ?_⟩
  have := (h.bd x hx).2
  simp only [List.mem_cons, List.not_mem_nil, or_false] at hy
  rcases hy with rfl | rfl <;> omega
 ·rw [e, List.mem_append] at hx
  rcases hx with hx | hx
  ·have := h.bd x hx; omega
  ·simp only [List.mem_cons, List.not_mem_nil, or_false] at hx
   rcases hx with rfl | rfl <;> omega
def New1 (ep pn : Nat) (c : Nat) (spare : List Value) (gp lk : Nat) (A : World) : Prop :=
 Zj A ep [.int .i64 0, .slice (some ⟨pn, 0, none⟩) 64 c, XV, XV, XV] ∧ Ow A (.slice (some ⟨pn, 0, none⟩) 64 c) pn 1 ((List.replicate 64 (-1 : Int)).map eI) spare ∧ Zj A gp [.slice (some ⟨lk, 0, none⟩) 12 12] ∧ Zj A lk (List.replicate 36 (.int .i64 0))
theorem New1.ext {ep pn c gp lk : Nat} {spare : List Value} {A B : World} {M : Nat → Prop} (h : New1 ep pn c spare gp lk A) (hE : Ext M A B) (h1 : ¬ M ep) (h2 : ¬ M pn) (h3 : ¬ M gp) (h4 : ¬ M lk) : New1 ep pn c spare gp lk B :=
 ⟨h.1.ext hE h1, h.2.1.ext hE h2, h.2.2.1.ext hE h3, h.2.2.2.ext hE h4⟩
def New2 (pl : Nat) (lv : Value) (o : Option Nat) (A : World) : Prop := Zj A pl [lv, XV, .int .i64 65536] ∧ OwO A lv o 4 [plC none 0 0 true]
theorem New2.ext {pl : Nat} {lv : Value} {o : Option Nat} {A B : World} {M : Nat → Prop} (h : New2 pl lv o A) (hE : Ext M A B) (h1 : ¬ M pl) (h2 : ∀ i, o = some i → ¬ M i) : New2 pl lv o B := ⟨h.1.ext hE h1, h.2.ext hE h2⟩
def KsM (ps : List (Nat × Nat)) (A : World) : Prop := ∀ p ∈ ps, Zj A p.1 [pt p.2, .int .i64 0] ∧ Zj A p.2 [XV, XV, .int .i64 0]
theorem KsM.ext {ps : List (Nat × Nat)} {A B : World} {M : Nat → Prop} (h : KsM ps A) (hE : Ext M A B) (hm : ∀ x ∈ flP ps, ¬ M x) : KsM ps B := fun p hp =>
 ⟨(h p hp).1.ext hE (hm _ (List.mem_flatMap.2 ⟨p, hp, by simp⟩)), (h p hp).2.ext hE (hm _ (List.mem_flatMap.2 ⟨p, hp, by simp⟩))⟩
theorem KsM.snoc {ps : List (Nat × Nat)} {A : World} {k s : Nat} (h : KsM ps A) (h1 : Zj A k [pt s, .int .i64 0]) (h2 : Zj A s [XV, XV, .int .i64 0]) : KsM (ps ++ [(k, s)]) A := fun p hp => by
 rcases List.mem_append.1 hp with hp | hp
 ·exact h p hp
 ·simp only [List.mem_cons, List.not_mem_nil, or_false] at hp; subst hp; exact ⟨h1, h2⟩
theorem KsM.non {ps : List (Nat × Nat)} {A B : World} (h : KsM ps A) (hE : Ext Non A B) : KsM ps B := fun p hp => ⟨(h p hp).1.ext hE id, (h p hp).2.ext hE id⟩
def RsM (m : Nat) (ps : List (Nat × Nat)) (A : World) : Prop := ∀ p ∈ ps, Zj A p.1 [.slice (some ⟨p.2, 0, none⟩) m m, .int .i64 0, .int .i64 0, .int .i64 0] ∧ Ow A (.slice (some ⟨p.2, 0, none⟩) m m) p.2 4 (rgR m m) []
theorem RsM.ext {m : Nat} {ps : List (Nat × Nat)} {A B : World} {M : Nat → Prop} (h : RsM m ps A) (hE : Ext M A B) (hm : ∀ x ∈ flP ps, ¬ M x) : RsM m ps B := fun p hp =>
 ⟨(h p hp).1.ext hE (hm _ (List.mem_flatMap.2 ⟨p, hp, by simp⟩)), (h p hp).2.ext hE (hm _ (List.mem_flatMap.2 ⟨p, hp, by simp⟩))⟩
theorem RsM.snoc {m : Nat} {ps : List (Nat × Nat)} {A : World} {k s : Nat} (h : RsM m ps A) (h1 : Zj A k [.slice (some ⟨s, 0, none⟩) m m, .int .i64 0, .int .i64 0, .int .i64 0]) (h2 : Ow A (.slice (some ⟨s, 0, none⟩) m m) s 4 (rgR m m) []) : RsM m (ps ++ [(k, s)]) A := fun p hp => by
 rcases List.mem_append.1 hp with hp | hp
 ·exact h p hp
 ·simp only [List.mem_cons, List.not_mem_nil, or_false] at hp; subst hp; exact ⟨h1, h2⟩
theorem RsM.non {m : Nat} {ps : List (Nat × Nat)} {A B : World} (h : RsM m ps A) (hE : Ext Non A B) : RsM m ps B := h.ext hE fun _ _ => id
def kC (ep pl gp rt : Nat) (ps : List (Nat × Nat)) (rv : Value) : List Value := [pt ep, pt pl, pt gp, pt rt] ++ (ps.map fun p => pt p.1) ++ List.replicate (4 - ps.length) (.pointer none) ++ [rv, .int .i64 0]
theorem kC_set {ep pl gp rt k s : Nat} {rv : Value} : ∀ {ps : List (Nat × Nat)} {i : Nat}, ps.length = i → i < 4 → (kC ep pl gp rt ps rv).set (4 + i) (pt k) = kC ep pl gp rt (ps ++ [(k, s)]) rv
 | [], _, rfl, _ => rfl
 | [_], _, rfl, _ => rfl
 | [_, _], _, rfl, _ => rfl
 | [_, _, _], _, rfl, _ => rfl
 | _ :: _ :: _ :: _ :: _, _, rfl, h => by simp at h; omega
theorem kC_len {ep pl gp rt : Nat} {rv : Value} {ps : List (Nat × Nat)} (h : ps.length ≤ 4) : (kC ep pl gp rt ps rv).length = 10 := by simp [kC]; omega
theorem kC_rv {ep pl gp rt : Nat} {rv v : Value} : ∀ {ps : List (Nat × Nat)}, ps.length = 4 → (kC ep pl gp rt ps rv)[8]? = some rv ∧ (kC ep pl gp rt ps rv).set 8 v = kC ep pl gp rt ps v
 | [_, _, _, _], _ => ⟨rfl, rfl⟩
 | [], h => by simp at h
 | [_], h => by simp at h
 | [_, _], h => by simp at h
 | [_, _, _], h => by simp at h
 | _ :: _ :: _ :: _ :: _ :: _, h => by simp at h
theorem rnew_ok (w : World) (n : Nat) (h1 : 1 ≤ n) (h16 : n ≤ 16) : Fn Tryz.prog 45 #[.int .i64 (n : Nat)] w fun u w' => ∃ b sb, u = pt b ∧ w.heap.size ≤ sb ∧ sb < b ∧ Zj w' b [(.slice (some ⟨sb, 0, none⟩) n n), .int .i64 0, .int .i64 0, .int .i64 0] ∧ Ow w' (.slice (some ⟨sb, 0, none⟩) n n) sb 4 (rgR n n) [] := by
 have hX := Ext.refl Non w
 refine Zfw (args := [_]) Tryz.func45 rfl rfl ?_
 refine Zs (Za ?_)
 refine Zc (Zs (Zm ?_))
 refine Zb (Rn.cast (J8 rfl rfl) (show _ = Value.int .i64 (n : Nat) by first | rfl | (rw [if_neg (by omega)]) | (rw [if_pos (by omega)]))) ?_
 refine Zb (Rn.cast (rn_max2 rfl rfl) (show _ = Value.int .i64 (n : Nat) by first | rfl | (rw [if_neg (by omega)]) | (rw [if_pos (by omega)]))) ?_
 refine JR sl_190 rfl (m := n) rfl rfl (by omega) (by simp only [big]; omega) ?_; intro w1 sb hsb E1 hO
 have hsz : w.heap.size ≤ sb := Zle hX.size hsb
 rw [← rgR_zero] at hO
 have hsl := hO.box.lt
 replace hX := hX.tr E1
 refine Zb (Z2 b_192 rfl rfl (cs := _) rfl) (ZY rfl ?_); intro b10 w2 hb10 E2 hB10
 have hq10 := Zq hX hb10
 have hl10 := Zl hX hb10
 have hsb10 : sb < b10 := Zlt hO.box.lt hb10
 replace hX := hX.tr E2
 replace hO := hO.ext E2 id
 refine Za ?_
 refine Zc (ZC (Zs (Zm ?_)))
 refine Zb (Zg rfl) (Zb (Zf f_192_0 rfl) (Zb (Zi p_190 rfl hB10 rfl) (Zb (Z1 sl_190 rfl) (Zm ?_))))
 refine Zc (ZO (Xt (S := Nat) [3, 10, 15, 16] (fun i => [(Zpt b10), (Zpt b10), .int .i64 (n : Nat), .int .i64 (i : Nat)]) (fun i A => (Ext Non w A) ∧ (Zj A b10 [(.slice (some ⟨sb, 0, none⟩) n n), .int .i64 0, .int .i64 0, .int .i64 0]) ∧ (Xo Non w b10) ∧ (i ≤ n ∧ Ow A (.slice (some ⟨sb, 0, none⟩) n n) sb 4 (rgR n i) [])) (fun i => n - i) 0 ⟨rfl, rfl, rfl, rfl, trivial⟩ ⟨hX, hB10, hl10, ⟨Nat.zero_le _, hO⟩⟩ ?_))
 rintro τ0 i A0 ⟨hX, hB10, hl10, I0⟩
 obtain ⟨hin, hO⟩ := I0
 refine Zs (Zb (Xj rfl rfl) (Zc (ZC ?_)))
 refine ZE rfl (fun hc0 => ?_) (fun hc0 => ?_)
 ·have hlt : i < n := by have := of_decide_eq_true hc0; omega
  refine ZF (ZC (ZO (Zs (Zm (Za ?_)))))
  refine Zc (ZJ (Zm ?_))
  refine Zb (Zg rfl) (Zb (Zf f_192_0 rfl) (Zb (Zi p_190 rfl hB10 rfl) (Zm (Zm ?_))))
  refine Zb (rn_mul rfl rfl (by omega)) (Zb (ZH sl_190 rfl rfl (by omega)) (Zb (Zf f_194_1 rfl) (X6 (u := .int .i64 (2 * (i : Int))) (d := 3) (i := i) (r := Qk (JX, 0)) p_3.2 rfl (by simp only [XF, Nat.zero_add, Nat.add_zero, Int.toNat_natCast]) rfl (J1 rfl) hO (by rw [rgR_at hlt, if_neg (by omega)]) Zbl ?_))); intro w3 E3 hz3 hO
  replace hX := hX.own E3 hsz
  replace hB10 := hB10.ext E3 (fun e => by omega)
  replace hO : Ow w3 (.slice (some ⟨sb, 0, none⟩) n n) sb 4 (rgR n (i + 1)) [] := by rw [← rgR_set hlt]; exact hO
  refine Zc (ZJ (Zb (ZX rfl rfl (by omega)) (Zm ?_)))
  refine Zc ?_
  exact ⟨rfl, i + 1, ⟨rfl, rfl, rfl, rfl, trivial⟩, ⟨hX, hB10, hl10, ⟨hlt, hO⟩⟩, by show n - (i + 1) < n - i; omega⟩
 ·have hie : i = n := by have := of_decide_eq_false hc0; omega
  subst hie
  refine XL ?_
  refine Zs (Zm (Za ?_))
  refine Zc (ZB ?_)
  exact ⟨_, ZD (Zh rfl), hX, ⟨b10, sb, rfl, hsz, hsb10, hB10, hO⟩⟩
set_option maxHeartbeats 4000000 in
theorem cnew_w (w : World) (n m : Nat) (hn8 : n ≤ 8) (hm1 : 1 ≤ m) (hm16 : m ≤ 16) : Fn Tryz.prog 12 #[.int .i64 (n : Nat), .int .i64 (m : Nat)] w fun u w' => ∃ (ep pn pc : Nat) (psp : List Value) (pl gp lk rt c : Nat) (lv rv : Value) (po ro : Option Nat) (ps rg : List (Nat × Nat)) (N1 N2 N3 N4 N5 N6 : Nat), u = pt c ∧ Zj w' c (kC ep pl gp rt ps rv) ∧ New1 ep pn pc psp gp lk w' ∧ New2 pl lv po w' ∧ Zj w' rt [.int .i64 1, .int .i64 0, .int .i64 0] ∧ KsM ps w' ∧ ps.length = 4 ∧ RsM m rg w' ∧ rg.length = n ∧ OwO w' rv ro 1 (rg.map fun p => [pt p.1]) ∧ w.heap.size ≤ ep ∧ w.heap.size ≤ pn ∧ ep ≠ pn ∧ ep < N1 ∧ pn < N1 ∧ N1 ≤ pl ∧ pl < N2 ∧ N2 ≤ gp ∧ N2 ≤ lk ∧ gp ≠ lk ∧ gp < N3 ∧ lk < N3 ∧ N3 ≤ c ∧ c < N4 ∧ (∀ i, po = some i → N4 ≤ i ∧ i < N5) ∧ N5 ≤ rt ∧ rt < N6 ∧ (∃ N7, Inc ps N6 N7 ∧ N7 ≤ w'.heap.size ∧ ∃ N8, Inc rg N7 N8 ∧ ∀ i, ro = some i → N7 ≤ i ∧ i ∉ flP rg) := by
 have hX := Ext.refl Non w
 refine Zfw (args := [_, _]) Tryz.func12 rfl rfl ?_
 refine Zs (Za ?_)
 refine Zc (Zs (Zw zE rfl (epnew_ok w) ?_)); intro v10 w1 E1 R1
 replace hX := hX.tr E1
 obtain ⟨ep, pn, pc, psp, rfl, hep1, hpn1, hepn, Ep, hPn⟩ := R1
 have hepl := Ep.lt; have hpnl := hPn.box.lt
 refine Zw zE rfl (plnew_ok w1) ?_; intro v11 w2 E2 R2
 replace hX := hX.tr E2
 replace Ep := Ep.ext E2 id
 replace hPn := hPn.ext E2 id
 obtain ⟨pl, rfl, hpl1, hPl⟩ := R2
 have hpll := hPl.lt
 refine Zw zE rfl (lknew_ok w2) ?_; intro v12 w3 E3 R3
 replace hX := hX.tr E3
 replace Ep := Ep.ext E3 id
 replace hPn := hPn.ext E3 id
 replace hPl := hPl.ext E3 id
 obtain ⟨gp, lk, rfl, hgp1, hlk1, hgl, hGp, hLk⟩ := R3
 have hgpl := hGp.lt; have hlkl := hLk.lt
 have hN1 : New1 ep pn pc psp gp lk w3 := ⟨Ep, hPn, hGp, hLk⟩
 refine Zb (Z2 b_106 rfl rfl (cs := [_, _, _]) rfl) (Zb (Z2 b_112 rfl rfl (cs := [pt ep, pt pl, pt gp, .pointer none, .pointer none, .pointer none, .pointer none, .pointer none, XV, .int .i64 0]) rfl) ?_)
 refine ZY rfl ?_; intro b15 w4 hb15 E4 B15
 have hq15 := Zq hX hb15
 have hl15 := Zl hX hb15
 replace hX := hX.tr E4
 replace hPl := hPl.ext E4 id
 replace hN1 := hN1.ext E4 id id id id
 refine Za ?_
 refine Zc (Zs (Zm ?_))
 refine Zb (Zg rfl) (Zb (Zf Qp rfl) (Zb (Zf f_106_1 rfl) (Zb (Zi p_99 rfl B15 rfl) (Zb (Z2 b_103 rfl rfl (cs := _) rfl) ?_))))
 have hB15o := B15.lt
 refine ZI zE rfl (ptake_ok (rows := []) w4 OwO.nil (fun i h => by cases h) (show ([] : List (List Value)).length < 60000 by decide) none 0 hPl) ?_; intro v23 w5 EE hR23
 obtain ⟨lv, po, hPl, hPo, hpo0, hu23⟩ := hR23
 obtain rfl : v23 = .tuple #[.int .i64 1, .int .i64 0, .int .i64 0] := hu23
 replace EE := EE.mono (M' := fun i => i = pl) (fun i h => h.elim id (fun h => by cases h))
 replace hX := hX.own EE (by omega)
 replace B15 := B15.ext EE (fun e => by omega)
 replace hN1 := hN1.ext EE (fun e => by omega) (fun e => by omega) (fun e => by omega) (fun e => by omega)
 have hN2 : New2 pl lv po w5 := ⟨hPl, hPo⟩
 have hpo : ∀ i, po = some i → b15 < i := fun i hi => (hpo0 i hi).elim (fun h => by cases h) (fun h => Zlt hB15o h)
 have hpl : ∀ i, po = some i → i < (World.heap w5).size := fun i hi => hPo.lt hi
 have hz45 := EE.size
 have hpo4 := fun i (hi : po = some i) => (hpo0 i hi).resolve_left (fun h => by cases h)
 refine Zm ?_
 refine Zb (ZM rfl rfl) (Zb (ZM rfl rfl) (Zb (ZM rfl rfl) (Za (Za (Za ?_)))))
 refine Zc (Zs (Zm (Zm (Zm ?_))))
 refine Zb (Z2 b_117 rfl rfl (cs := [_, _]) rfl) (Zw zE rfl (crnew_ok w5 (1, 0)) ?_); intro v31 w6 E6 R6
 replace hX := hX.tr E6
 replace B15 := Zx B15 E6
 replace hN1 := hN1.ext E6 id id id id
 replace hN2 := hN2.ext E6 id (fun _ _ => id)
 obtain ⟨rt, rfl, hrt1, Rt⟩ := R6
 have hrtl := Rt.lt
 refine Zb (Zg rfl) (Zb (Zf f_112_1 rfl) ?_)
 have Bo := B15
 refine ZN (b := b15) p_107 rfl (by conv => lhs; whnf) rfl rfl B15 Zbl ?_; intro w7 E7 B15 hz7
 replace hX := hX.mine E7 hl15
 replace hN1 := hN1.ext E7 (fun e => by omega) (fun e => by omega) (fun e => by omega) (fun e => by omega)
 replace hN2 := hN2.ext E7 (fun e => by omega) (fun i hi e => by have := hpo i hi; omega)
 replace Rt := Rt.ext E7 (fun e => by omega)
 refine Zc (ZC (Zs ?_))
 obtain ⟨n6, hn6⟩ : ∃ k, k = (World.heap w7).size := ⟨_, rfl⟩
 refine Zm ?_
 refine Zc (ZO (Xt (S := Nat × List (Nat × Nat) × Nat) [0, 1, 5, 15, 34] (fun ⟨i, ps, N⟩ => [.int .i64 (n : Nat), .int .i64 (m : Nat), (Zpt b15), (Zpt b15), .int .i64 (i : Nat)]) (fun ⟨i, ps, N⟩ A => (Ext Non w A) ∧ (Zj A b15 (kC ep pl gp rt ps XV)) ∧ (Xo Non w b15) ∧ (i ≤ 4 ∧ ps.length = i ∧ KsM ps A ∧ Inc ps n6 N ∧ n6 ≤ N ∧ N ≤ A.heap.size ∧ New1 ep pn pc psp gp lk A ∧ New2 pl lv po A ∧ Zj A rt [.int .i64 1, .int .i64 0, .int .i64 0])) (fun ⟨i, ps, N⟩ => 4 - i) (0, [], n6) ⟨rfl, rfl, rfl, rfl, rfl, trivial⟩ ⟨hX, B15, hl15, ⟨by omega, rfl, fun p h => by simp at h, Inc.nil, Nat.le_refl _, Nat.le_of_eq hn6, hN1, hN2, Rt⟩⟩ ?_))
 rintro τ0 ⟨i, ps, N⟩ A0 ⟨hX, B15, hl15, I0⟩
 obtain ⟨hi4, hpsl, Ks, hInc, hnN, hNA, hN1, hN2, Rt⟩ := I0
 refine Zs (Zb (Xj rfl rfl) (Zc (ZC ?_)))
 refine ZE rfl (fun hc0 => ?_) (fun hc0 => ?_)
 ·have hlt : i < 4 := by have := of_decide_eq_true hc0; omega
  refine ZF (ZC (ZO (Zs (Zm (Za ?_)))))
  refine Zc (Z5 (fun j => j == 8) mixed ?_); intro w8 E8
  replace hX := hX.tr E8
  replace B15 := Zx B15 E8
  replace hN1 := hN1.ext E8 id id id id
  replace hN2 := hN2.ext E8 id (fun _ _ => id)
  replace Rt := Rt.ext E8 id
  replace Ks := Ks.non E8
  replace hNA := Zle hNA E8.size
  have hS := Ext.refl Non w8
  have hNA0 := hNA
  refine Qg 0 [5, 6, 7, 8] _ _ rfl (by kernel_rfl) hS Zy ?_
  refine Qg 1 [7, 8] _ _ rfl (by kernel_rfl) hS Zy ?_
  refine Qg 2 [3, 4, 7, 8] _ _ rfl (by kernel_rfl) hS (ZG fun A hA => Z2 b_84 rfl rfl (cs := [XV, XV, .int .i64 0]) rfl) ?_
  refine Qg 5 [6, 7, 8] _ _ rfl (by kernel_rfl) hS (Zr (Zg rfl)) ?_
  refine Qg 6 [7, 8] _ _ rfl (by kernel_rfl) hS (Zr (Zf f_112_2 rfl)) ?_
  refine Zo 3 rfl (ZK (ZY rfl ?_)); intro b40 w9 hb40 E9 hB40
  have hn40 : b15 < b40 := Zlt B15.lt (Zle hS.size hb40)
  replace hb40 := Zle hS.size hb40
  replace hS := hS.tr E9
  refine Zc ⟨fun _ => hS, ?_⟩
  have hB40x := hB40.lt
  refine Zo 4 rfl (ZK (Zw zE rfl (cknew_ok w9) ?_)); intro v41 w10 E10 hR10
  replace hS := hS.tr E10
  replace hB40 := Zx hB40 E10
  obtain ⟨k41, rfl, hk41, hK41⟩ := hR10
  have hk40 : b40 < k41 := Zlt hB40x hk41
  refine Zc ⟨fun _ => hS, ?_⟩
  refine Qg 7 [8] _ _ rfl (by kernel_rfl) hS (ZG fun A hA => rn_indexArr ua_kept ui_kept rfl rfl (by omega)) ?_
  replace hX := hX.tr hS
  replace B15 := Zx B15 hS
  replace hN1 := hN1.ext hS id id id id
  replace hN2 := hN2.ext hS id (fun _ _ => id)
  replace Rt := Rt.ext hS id
  replace Ks := Ks.non hS
  replace hNA := Zle hNA hS.size
  refine Zo 8 rfl (ZK ?_)
  refine ZN (b := b15) (i := 4 + i) (v := pt k41) p_108 (by refine congrArg (fun a => Value.pointer (some a)) ?_; simp [Addr.add]) rfl rfl rfl B15 (by rw [kC_len (by omega)]; omega) ?_; intro w11 E11 B15 hz11
  rw [kC_set (s := b40) hpsl hlt] at B15
  replace hX := hX.mine E11 hl15
  replace hN1 := hN1.ext E11 (fun e => by omega) (fun e => by omega) (fun e => by omega) (fun e => by omega)
  replace hN2 := hN2.ext E11 (fun e => by omega) (fun i hi e => by have := hpo i hi; omega)
  replace Rt := Rt.ext E11 (fun e => by omega)
  replace Ks := Ks.ext E11 (fun x hx e => by have := hInc.bd x hx; omega)
  replace hB40 := hB40.ext E11 (fun e => by omega)
  replace hK41 := hK41.ext E11 (fun e => by omega)
  obtain ⟨NN, hNN⟩ : ∃ k, k = (World.heap w11).size := ⟨_, rfl⟩
  have hkN : k41 < NN := by rw [hNN]; exact hK41.lt
  refine Zz ?_
  refine ZZ (by kernel_rfl) ?_ _
  refine ZJ (Zb (ZX rfl rfl (by omega)) (Zm ?_))
  refine Zc ?_
  exact ⟨rfl, (i + 1, ps ++ [(k41, b40)], NN), ⟨rfl, rfl, rfl, rfl, rfl, trivial⟩, ⟨hX, B15, hl15, ⟨hlt, by simp [hpsl], Ks.snoc hK41 hB40, hInc.snoc hnN (Zle hNA0 hb40) hk40 hkN, by omega, Nat.le_of_eq hNN, hN1, hN2, Rt⟩⟩, by show 4 - (i + 1) < 4 - i; omega⟩
 ·have hie : i = 4 := by have := of_decide_eq_false hc0; omega
  have hps4 : ps.length = 4 := by omega
  refine XL ?_
  refine ZC (Zs (Zm ?_))
  refine Zb (Rn.cast (J8 rfl rfl) (show _ = Value.int .i64 (n : Nat) by first | rfl | (rw [if_neg (by omega)]) | (rw [if_pos (by omega)]))) ?_
  refine Zb (Rn.cast (rn_max2 rfl rfl) (show _ = Value.int .i64 (n : Nat) by first | rfl | (rw [if_neg (by omega)]) | (rw [if_pos (by omega)]))) ?_
  obtain ⟨n7, hn7⟩ : ∃ k, k = (World.heap A0).size := ⟨_, rfl⟩
  have hIncK : Inc ps n6 n7 := hInc.mono (by rw [hn7]; exact hNA)
  refine Zm ?_
  refine Zc (ZO (Xt (S := Nat × List (Nat × Nat) × Nat × Value × Option Nat) [1, 5, 15, 48, 49] (fun ⟨i, rg, N, rv, ro⟩ => [.int .i64 (m : Nat), (Zpt b15), (Zpt b15), .int .i64 (n : Nat), .int .i64 (i : Nat)]) (fun ⟨i, rg, N, rv, ro⟩ A => (Ext Non w A) ∧ (Zj A b15 (kC ep pl gp rt ps rv)) ∧ (Xo Non w b15) ∧ (i ≤ n ∧ rg.length = i ∧ RsM m rg A ∧ Inc rg n7 N ∧ n7 ≤ N ∧ N ≤ A.heap.size ∧ OwO A rv ro 1 (rg.map fun p => [pt p.1]) ∧ (∀ j, ro = some j → n7 ≤ j ∧ j ∉ flP rg ∧ j < N) ∧ KsM ps A ∧ New1 ep pn pc psp gp lk A ∧ New2 pl lv po A ∧ Zj A rt [.int .i64 1, .int .i64 0, .int .i64 0])) (fun ⟨i, rg, N, rv, ro⟩ => n - i) (0, [], n7, XV, none) ⟨rfl, rfl, rfl, rfl, rfl, trivial⟩ ⟨hX, B15, hl15, ⟨Nat.zero_le _, rfl, fun p h => by simp at h, Inc.nil, Nat.le_refl _, Nat.le_of_eq hn7, OwO.nil, fun j h => absurd h (by simp), Ks, hN1, hN2, Rt⟩⟩ ?_))
  rintro τ1 ⟨i, rg, N, rv, ro⟩ A1 ⟨hX, B15, hl15, hI1⟩
  obtain ⟨hin, hrgl, hRs, hInc2, hnN2, hNA2, hO, hro, Ks, hN1, hN2, Rt⟩ := hI1
  refine Zs (Zb (Xj rfl rfl) (Zc (ZC ?_)))
  refine ZE rfl (fun hc1 => ?_) (fun hc1 => ?_)
  ·have hlt : i < n := by have := of_decide_eq_true hc1; omega
   refine ZF (ZC (ZO (Z5 (fun j => j == 0 || j == 10 || j == 11 || j == 12 || j == 13) mixed ?_))); intro w12 E12
   replace hX := hX.tr E12
   replace B15 := Zx B15 E12
   replace hN1 := hN1.ext E12 id id id id
   replace hN2 := hN2.ext E12 id (fun _ _ => id)
   replace Rt := Rt.ext E12 id
   replace Ks := Ks.non E12
   replace hRs := hRs.non E12
   replace hO := hO.ext E12 (fun _ _ h => h)
   replace hNA2 := Zle hNA2 E12.size
   have hS := Ext.refl Non w12
   have hNA0 := hNA2
   refine XK 0 _ _ rfl rfl (by kernel_rfl) (ZG fun A _ => XO (by conv => lhs; whnf)) ?_
   refine Qg 1 [2, 3, 4, 10, 11, 12, 13] _ _ rfl (by kernel_rfl) hS Zy ?_
   refine Qg 2 [3, 4, 10, 11, 12, 13] _ _ rfl (by kernel_rfl) hS (Zr (Zg rfl)) ?_
   refine Qg 3 [4, 10, 11, 12, 13] _ _ rfl (by kernel_rfl) hS (Zr (Zf f_112_3 rfl)) ?_
   refine Qg 4 [10, 11, 12, 13] _ _ rfl (by kernel_rfl) hS (ZG fun A hA => Zi p_110 rfl (B15.ext hA id) (kC_rv (v := rv) hps4).1) ?_
   refine Qg 5 [6, 7, 8, 9, 10, 11, 12, 13] _ _ rfl (by kernel_rfl) hS Zy ?_
   refine Qg 6 [7, 8, 9, 10, 11, 12, 13] _ _ rfl (by kernel_rfl) hS (ZG fun A hA => Rn.cast (J8 rfl rfl) (show _ = Value.int .i64 (m : Nat) by first | rfl | (rw [if_neg (by omega)]) | (rw [if_pos (by omega)]))) ?_
   refine Qg 7 [8, 9, 10, 11, 12, 13] _ _ rfl (by kernel_rfl) hS (ZG fun A hA => Rn.cast (rn_max2 rfl rfl) (show _ = Value.int .i64 (m : Nat) by first | rfl | (rw [if_neg (by omega)]) | (rw [if_pos (by omega)]))) ?_
   refine Zo 8 rfl (ZK (Zw zE rfl (rnew_ok w12 m hm1 hm16) ?_)); intro v59 w13 E13 hR13
   replace hS := hS.tr E13
   obtain ⟨r59, s59, rfl, hs59, hsr59, hR59, hW59⟩ := hR13
   have hrl59 := hR59.lt
   refine Zc ⟨fun _ => hS, ?_⟩
   refine Zo 9 rfl (ZK (Xz (r := [pt r59]) sl_110 rfl rfl rfl rfl (by decide) ?_)); intro v60 w14 b60 hb60 E14 hO60
   replace hS := hS.tr E14
   replace hR59 := hR59.ext E14 id
   replace hW59 := hW59.ext E14 id
   refine Zc ⟨fun _ => hS, ?_⟩
   replace hX := hX.tr hS
   replace B15 := Zx B15 hS
   replace hN1 := hN1.ext hS id id id id
   replace hN2 := hN2.ext hS id (fun _ _ => id)
   replace Rt := Rt.ext hS id
   replace Ks := Ks.non hS
   replace hRs := hRs.non hS
   replace hO := hO.ext hS (fun _ _ h => h)
   replace hNA2 := Zle hNA2 hS.size
   refine Zo 10 rfl (ZK ?_)
   have hXo := hX
   have hrw := hR59.lt
   have hBl15 := B15.lt
   refine Qm sl_110 rfl rfl rfl hO (hO60.sl (M := Non) id) (fun r hr => by simp only [List.mem_singleton] at hr; subst hr; exact J1 rfl) (by simp only [List.length_map, List.length_cons, List.length_nil]; omega) (by simp only [List.length_map, List.length_cons, List.length_nil, big]; omega) ?_; intro v61 w15 o61 E15 hO61 hf61
   replace hX := hX.mineO E15 (fun i hi => .inr (by have := (hro i hi).1; omega))
   replace B15 := B15.ext E15 (fun e => by have := (hro _ e).1; omega)
   replace hN1 := hN1.ext E15 (fun e => by have := (hro _ e).1; omega) (fun e => by have := (hro _ e).1; omega) (fun e => by have := (hro _ e).1; omega) (fun e => by have := (hro _ e).1; omega)
   replace hN2 := hN2.ext E15 (fun e => by have := (hro _ e).1; omega) (fun i hi e => by have := hpo i hi; have := hpl i hi; have := (hro _ e).1; omega)
   replace Rt := Rt.ext E15 (fun e => by have := (hro _ e).1; omega)
   replace Ks := Ks.ext E15 (fun x hx e => by have := hInc.bd x hx; have := (hro _ e).1; omega)
   replace hRs := hRs.ext E15 (fun x hx e => (hro x e).2.1 hx)
   replace hR59 := hR59.ext E15 (fun e => by have := (hro _ e).2.2; omega)
   replace hW59 := hW59.ext E15 (fun e => by have := (hro _ e).2.2; omega)
   have ho61a : ∀ j, o61 = some j → n7 ≤ j ∧ j ∉ flP (rg ++ [(r59, s59)]) ∧ j < (World.heap w15).size := fun j hj => by
    have e : flP (rg ++ [(r59, s59)]) = flP rg ++ [s59, r59] := by simp [flP]
    rw [e, List.mem_append, not_or]
    rcases hf61 j hj with h | h
    ·obtain ⟨q1, q2, q3⟩ := hro j h
     exact ⟨q1, ⟨q2, by simp only [List.mem_cons, List.not_mem_nil, or_false, not_or]; omega⟩, hO61.lt hj⟩
    ·exact ⟨by omega, ⟨fun hx => by have := hInc2.bd j hx; omega, by simp only [List.mem_cons, List.not_mem_nil, or_false, not_or]; omega⟩, hO61.lt hj⟩
   obtain ⟨va61, vc61, rfl⟩ := id hO61.len
   refine Zz ?_
   refine Zo 11 rfl (ZK (Zb (Zg rfl) (Zz (Zo 12 rfl (ZK (Zb (Zf f_112_3 rfl) (Zz (Zo 13 rfl ?_))))))))
   refine ZK (ZN (b := b15) (i := 8) p_110 rfl (by conv => lhs; whnf) rfl rfl B15 (by rw [kC_len (by omega)]; omega) ?_); intro w16 E16 B15 hz16
   rw [(kC_rv hps4).2] at B15
   replace hX := hX.mine E16 hl15
   replace hN1 := hN1.ext E16 (fun e => by omega) (fun e => by omega) (fun e => by omega) (fun e => by omega)
   replace hN2 := hN2.ext E16 (fun e => by omega) (fun i hi e => by have := hpo i hi; have := hpl i hi; omega)
   replace Rt := Rt.ext E16 (fun e => by omega)
   replace Ks := Ks.ext E16 (fun x hx e => by have := hInc.bd x hx; omega)
   replace hRs := hRs.ext E16 (fun x hx e => by have := hInc2.bd x hx; omega)
   replace hR59 := hR59.ext E16 (fun e => by omega)
   replace hW59 := hW59.ext E16 (fun e => by omega)
   replace hO61 := hO61.ext E16 (fun i hi e => by have := (ho61a i hi).1; omega)
   obtain ⟨NN, hNN⟩ : ∃ k, k = (World.heap w16).size := ⟨_, rfl⟩
   have hrN : r59 < NN := by rw [hNN]; exact hR59.lt
   have ho61 : ∀ j, o61 = some j → n7 ≤ j ∧ j ∉ flP (rg ++ [(r59, s59)]) ∧ j < NN := fun j hj => by have := ho61a j hj; refine ⟨this.1, this.2.1, ?_⟩; rw [hNN, hz16]; exact this.2.2
   refine Zz ?_
   refine ZZ (by kernel_rfl) ?_ _
   refine ZJ (Zb (ZX rfl rfl (by omega)) (Zm ?_))
   refine Zc ?_
   exact ⟨rfl, (i + 1, rg ++ [(r59, s59)], NN, _, o61), ⟨rfl, rfl, rfl, rfl, rfl, trivial⟩, ⟨hX, B15, hl15, ⟨hlt, by simp [hrgl], hRs.snoc hR59 hW59, hInc2.snoc hnN2 (Zle hNA0 hs59) hsr59 hrN, by omega, Nat.le_of_eq hNN, by rw [List.map_append]; exact hO61, ho61, Ks, hN1, hN2, Rt⟩⟩, by show n - (i + 1) < n - i; omega⟩
  ·have hie : i = n := by have := of_decide_eq_false hc1; omega
   refine XL ?_
   refine Zs (Zm (Za ?_))
   refine Zc (ZB ?_)
   exact ⟨_, ZD (Zh rfl), hX, ⟨ep, pn, pc, psp, pl, gp, lk, rt, b15, lv, rv, po, ro, ps, rg, _, _, _, _, _, n6, rfl, B15, hN1, hN2, Rt, Ks, hps4, hRs, by omega, hO, hep1, hpn1, hepn, hepl, hpnl, hpl1, hpll, hgp1, hlk1, hgl, hgpl, hlkl, hb15, hB15o, fun i hi => ⟨hpo4 i hi, hpl i hi⟩, hrt1, by omega, n7, hIncK, by omega, _, hInc2, fun i hi => ⟨(hro i hi).1, (hro i hi).2.1⟩⟩⟩
def rg0 (m : Nat) : RgD := ⟨(List.range m).map fun j : Nat => (JX, 2 * (j : Int)), 0, 0, 0⟩
def st00 (n m : Nat) : St := ⟨List.replicate 12 0, 0, List.replicate 64 (-1), [[], [], []], [⟨.bare, 0, 0, true⟩], [], (1, 0), List.replicate n (rg0 m), [], 0⟩
theorem rg0_slots (m : Nat) : (rg0 m).slots.map Qk = rgR m m := by
 unfold rg0 rgR
 rw [List.map_map]
 refine List.map_congr_left fun j hj => ?_
 have : j < m := by simpa using hj
 simp [this]
theorem flP_perm : ∀ l : List (Nat × Nat), (l.map (·.1) ++ l.map (·.2)).Perm (flP l)
 | [] => List.Perm.refl _
 | p :: l => by
  have h := flP_perm l
  have e : flP (p :: l) = p.2 :: p.1 :: flP l := by simp [flP]
  rw [e]
  show (p.1 :: (l.map (·.1) ++ p.2 :: l.map (·.2))).Perm _
  refine List.Perm.trans (List.Perm.cons _ List.perm_middle) ?_
  exact List.Perm.trans (List.Perm.swap _ _ _) (List.Perm.cons _ (List.Perm.cons _ h))
theorem Inc.nd {l : List (Nat × Nat)} {n N : Nat} (h : Inc l n N) : (l.map (·.1) ++ l.map (·.2)).Nodup := (flP_perm l).nodup_iff.2 (h.inc.imp fun h => Nat.ne_of_lt h)
theorem small_bare : Jr .bare := ⟨0, 0, Tr.Ok.bare, by omega, fun p s h => absurd h (bare_at _ _)⟩
def tagN (N1 N2 N3 N4 N5 N6 N7 lk lg : Nat) (ks : List Nat) (fr : List Nat) : Tg := fun i =>
 if i < N1 then 1 else if i < N2 then 2 else if i < N3 then (if i = lk then 3 else 0) else if i < N4 then 0 else if i < N5 then 2 else if i < N6 then 4 else if i < N7 then (if i ∈ ks then 5 else 0) else if i ∈ fr then 6 else if i = lg then 7 else 0
def tagO (n0 : Nat) (G : Tg) : Tg := fun i => if i < n0 then 0 else G i
theorem com_new {w0 w1 w2 : World} {n m lg : Nat} (hm1 : 1 ≤ m) (hm16 : m ≤ 16) {u : Value}
  (h : ∃ (ep pn pc : Nat) (psp : List Value) (pl gp lk rt c : Nat) (lv rv : Value) (po ro : Option Nat) (ps rg : List (Nat × Nat)) (N1 N2 N3 N4 N5 N6 : Nat), u = pt c ∧ Zj w1 c (kC ep pl gp rt ps rv) ∧ New1 ep pn pc psp gp lk w1 ∧ New2 pl lv po w1 ∧ Zj w1 rt [.int .i64 1, .int .i64 0, .int .i64 0] ∧ KsM ps w1 ∧ ps.length = 4 ∧ RsM m rg w1 ∧ rg.length = n ∧ OwO w1 rv ro 1 (rg.map fun p => [pt p.1]) ∧ w0.heap.size ≤ ep ∧ w0.heap.size ≤ pn ∧ ep ≠ pn ∧ ep < N1 ∧ pn < N1 ∧ N1 ≤ pl ∧ pl < N2 ∧ N2 ≤ gp ∧ N2 ≤ lk ∧ gp ≠ lk ∧ gp < N3 ∧ lk < N3 ∧ N3 ≤ c ∧ c < N4 ∧ (∀ i, po = some i → N4 ≤ i ∧ i < N5) ∧ N5 ≤ rt ∧ rt < N6 ∧ (∃ N7, Inc ps N6 N7 ∧ N7 ≤ w1.heap.size ∧ ∃ N8, Inc rg N7 N8 ∧ ∀ i, ro = some i → N7 ≤ i ∧ i ∉ flP rg))
  (hE : Ext Non w1 w2) (hlg : w1.heap.size ≤ lg) (hB : Zj w2 lg [XV, .int .i64 0, .map none]) :
  ∃ (L : Lay) (G : Tg), u = pt L.c ∧ L.lg = lg ∧ LayOk L ∧ CoM L G w2 (st00 n m) ∧ ∀ i, i < w0.heap.size ∨ (w1.heap.size ≤ i ∧ i ≠ lg) → G i = 0 := by
 obtain ⟨ep, pn, pc, psp, pl, gp, lk, rt, c, lv, rv, po, ro, ps, rg, N1, N2, N3, N4, N5, N6, rfl, hC, hn1, hn2, Rt, Ks, hps, hRs, hrg, hO, e1, e2, e3, e4, e5, e6, e7, e8, e9, e10, e11, e12, e13, e14, e15, e16, e17, N7, hI1, hN7, N8, hI2, hro⟩ := h
 replace hn1 := hn1.ext hE id id id id; replace hn2 := hn2.ext hE id (fun _ _ => id)
 have hclt := hC.lt; have hrtl := Rt.lt
 have hlt : ∀ x ∈ flP rg, x < w1.heap.size := fun x hx => by
  obtain ⟨p, hp, hx⟩ := List.mem_flatMap.1 hx
  simp only [List.mem_cons, List.not_mem_nil, or_false] at hx
  rcases hx with rfl | rfl
  ·exact (hRs p hp).2.box.lt
  ·exact (hRs p hp).1.lt
 have hrol : ∀ i, ro = some i → i < w1.heap.size := fun i hi => hO.lt hi
 replace hO := hO.ext hE (fun _ _ h => h)
 replace hRs := hRs.non hE; replace Ks := Ks.non hE
 obtain ⟨j, hj⟩ : ∃ j, po = some j := by
  rcases hn2.2 with ⟨_, h, _⟩ | ⟨b, _, h, _⟩
  ·simp at h
  ·exact ⟨b, h⟩
 obtain ⟨j1, j2⟩ := e15 j hj
 match ps, hps, hC, Ks, hI1 with
 | [(k0, s0), (k1, s1), (k2, s2), (k3, s3)], _, hC, Ks, hI1 =>
 have hinc := hI1.inc
 simp only [flP, List.flatMap_cons, List.flatMap_nil, List.append_nil, List.cons_append, List.nil_append, List.pairwise_cons, List.mem_cons, List.not_mem_nil, or_false, forall_eq_or_imp, forall_eq] at hinc
 have hbs0 := hI1.bd s0 (by simp [flP]); have hbk3 := hI1.bd k3 (by simp [flP])
 have hk0 := Ks (k0, s0) (by simp); have hk1 := Ks (k1, s1) (by simp); have hk2 := Ks (k2, s2) (by simp); have hk3 := Ks (k3, s3) (by simp)
 obtain ⟨G, hG⟩ : ∃ G, G = tagO w0.heap.size (tagN N1 N2 N3 N4 N5 N6 N7 lk lg [k0, k1, k2, k3] (flP rg)) := ⟨_, rfl⟩
 have g0 : ∀ {i}, w0.heap.size ≤ i → i < N1 → G i = 1 := fun {i} h1 h2 => by rw [hG]; unfold tagO tagN; rw [if_neg (by omega), if_pos h2]
 have g1 : G pl = 2 := by rw [hG]; unfold tagO tagN; rw [if_neg (by omega), if_neg (by omega), if_pos e7]
 have g2 : G lk = 3 := by rw [hG]; unfold tagO tagN; rw [if_neg (by omega), if_neg (by omega), if_neg (by omega), if_pos e12, if_pos rfl]
 have g3 : G gp = 0 := by rw [hG]; unfold tagO tagN; rw [if_neg (by omega), if_neg (by omega), if_neg (by omega), if_pos e11, if_neg e10]
 have g4 : G c = 0 := by rw [hG]; unfold tagO tagN; rw [if_neg (by omega), if_neg (by omega), if_neg (by omega), if_neg (by omega), if_pos e14]
 have g5 : G j = 2 := by rw [hG]; unfold tagO tagN; rw [if_neg (by omega), if_neg (by omega), if_neg (by omega), if_neg (by omega), if_neg (by omega), if_pos j2]
 have g6 : G rt = 4 := by rw [hG]; unfold tagO tagN; rw [if_neg (by omega), if_neg (by omega), if_neg (by omega), if_neg (by omega), if_neg (by omega), if_neg (by omega), if_pos e17]
 have g7 : ∀ {i}, N6 ≤ i → i < N7 → G i = if i ∈ [k0, k1, k2, k3] then 5 else 0 := fun {i} h1 h2 => by rw [hG]; unfold tagO tagN; rw [if_neg (by omega), if_neg (by omega), if_neg (by omega), if_neg (by omega), if_neg (by omega), if_neg (by omega), if_neg (by omega), if_pos h2]
 have g8 : ∀ {i}, N7 ≤ i → G i = if i ∈ flP rg then 6 else if i = lg then 7 else 0 := fun {i} h1 => by rw [hG]; unfold tagO tagN; rw [if_neg (by omega), if_neg (by omega), if_neg (by omega), if_neg (by omega), if_neg (by omega), if_neg (by omega), if_neg (by omega), if_neg (by omega)]
 have gk : ∀ {i}, i ∈ [k0, k1, k2, k3] → N6 ≤ i → i < N7 → G i = 5 := fun {i} h h1 h2 => by rw [g7 h1 h2, if_pos h]
 have gs : ∀ {i}, i ∉ [k0, k1, k2, k3] → N6 ≤ i → i < N7 → G i = 0 := fun {i} h h1 h2 => by rw [g7 h1 h2, if_neg h]
 have glg : G lg = 7 := by rw [g8 (by omega), if_neg (fun hx => by have := hlt lg hx; omega), if_pos rfl]
 have gfr : ∀ x ∈ flP rg, G x = 6 := fun x hx => by rw [g8 (hI2.bd x hx).1, if_pos hx]
 have hgk0 : G k0 = 5 := gk (by simp) (by omega) (by omega)
 have hgs0 : G s0 = 0 := gs (by simp only [List.mem_cons, List.not_mem_nil, or_false, not_or]; omega) (by omega) (by omega)
 have hgk1 : G k1 = 5 := gk (by simp) (by omega) (by omega)
 have hgs1 : G s1 = 0 := gs (by simp only [List.mem_cons, List.not_mem_nil, or_false, not_or]; omega) (by omega) (by omega)
 have hgk2 : G k2 = 5 := gk (by simp) (by omega) (by omega)
 have hgs2 : G s2 = 0 := gs (by simp only [List.mem_cons, List.not_mem_nil, or_false, not_or]; omega) (by omega) (by omega)
 have hgk3 : G k3 = 5 := gk (by simp) (by omega) (by omega)
 have hgs3 : G s3 = 0 := gs (by simp only [List.mem_cons, List.not_mem_nil, or_false, not_or]; omega) (by omega) (by omega)
 let L : Lay := ⟨c, ep, pn, pl, gp, lk, rt, k0, k1, k2, k3, s0, s1, s2, s3, rv, rg.map (·.1), rg.map (·.2), lg⟩
 refine ⟨L, G, rfl, rfl, ⟨⟨?_, ?_, ?_, ?_, ?_, ?_⟩, ?_⟩, ⟨⟨⟨hC.ext hE id, g4⟩, ⟨hn1.2.2.1, g3⟩, ?_⟩, ?_, ?_, ?_, ⟨0, Rt.ext hE id, g6⟩, ?_, ?_, ?_, ?_, ?_, ?_⟩, fun i hi => ?_⟩
 ·show k0 ≠ k1; omega
 ·show k0 ≠ k2; omega
 ·show k0 ≠ k3; omega
 ·show k1 ≠ k2; omega
 ·show k1 ≠ k3; omega
 ·show k2 ≠ k3; omega
 ·show c ≠ pl; omega
 ·have : (rg.map fun p => [pt p.1]) = (rg.map (·.1)).map fun b => [pt b] := by rw [List.map_map]; rfl
  show Sl _ _ rv 1 ((rg.map (·.1)).map fun b => [pt b])
  rw [← this]
  exact hO.sl fun i hi hn => hn (by have q1 := hro i hi; have q2 := hrol i hi; rw [g8 q1.1, if_neg q1.2, if_neg (by omega)])
 ·refine ⟨⟨List.replicate 36 (.int .i64 0), ⟨hn1.2.2.2, g2⟩, by simp, fun i x hx => ?_⟩, by simp [st00]⟩
  have hx' : (List.replicate 12 (0 : Int))[i]? = some x := hx
  rw [List.getElem?_replicate] at hx'
  by_cases h12 : i < 12
  ·rw [if_pos h12] at hx'; cases hx'
   refine ⟨?_, ⟨0, ?_⟩, ⟨0, ?_⟩⟩ <;> rw [List.getElem?_replicate, if_pos (by omega)]
  ·rw [if_neg h12] at hx'; cases hx'
 ·refine ⟨⟨pc, psp, [XV, XV, XV], ⟨hn1.1, g0 e1 e4⟩, hn1.2.1, rfl, fun i l hl => ?_⟩, g0 e2 e5, e3, by simp [st00], rfl⟩
  have hl' : ([[], [], []] : List (List Int))[i]? = some l := hl
  rcases i with _ | _ | _ | i <;> simp at hl' <;> subst hl' <;> exact ⟨XV, rfl, Sl.nil _ _ _, fun _ => rfl⟩
 ·refine ⟨⟨lv, XV, po, [plC none 0 0 true], ⟨hn2.1, g1⟩, hn2.2, fun i hi => ?_, rfl, fun i q hq => ?_, Sl.nil _ _ _, fun _ => rfl⟩, by show 1 ≤ 60000; omega, fun i q hq => ?_⟩
  ·rw [hj] at hi; cases hi; exact ⟨g5, by show j ≠ pl; omega⟩
  ·have hq' : ([⟨.bare, 0, 0, true⟩] : List PlD)[i]? = some q := hq
   rcases i with _ | i <;> simp at hq'
   subst hq'; exact ⟨none, rfl, .nil⟩
  ·have hq' : ([⟨.bare, 0, 0, true⟩] : List PlD)[i]? = some q := hq
   rcases i with _ | i <;> simp at hq'
   subst hq'; exact small_bare
 ·exact ⟨0, ⟨hk0.1, hgk0⟩, ⟨hk0.2, hgs0⟩⟩
 ·exact ⟨0, ⟨hk1.1, hgk1⟩, ⟨hk1.2, hgs1⟩⟩
 ·exact ⟨0, ⟨hk2.1, hgk2⟩, ⟨hk2.2, hgs2⟩⟩
 ·exact ⟨0, ⟨hk3.1, hgk3⟩, ⟨hk3.2, hgs3⟩⟩
 ·refine ⟨by simp [L, st00, hrg], by simp [L, st00, hrg], hI2.nd, fun i b sb q h1 h2 h3 => ?_⟩
  have h1' : (rg.map (·.1))[i]? = some b := h1
  have h2' : (rg.map (·.2))[i]? = some sb := h2
  have h3' : (List.replicate n (rg0 m))[i]? = some q := h3
  rw [List.getElem?_map] at h1' h2'
  cases hp : rg[i]? with
  | none => rw [hp] at h1'; cases h1'
  | some p =>
   rw [hp] at h1' h2'; cases h1'; cases h2'
   have hin : i < n := by rw [← hrg]; exact (List.getElem?_eq_some_iff.1 hp).1
   rw [List.getElem?_replicate, if_pos hin] at h3'; cases h3'
   have hm := List.mem_of_getElem? hp
   obtain ⟨r1, r2⟩ := hRs p hm
   have hl : (rg0 m).slots.length = m := by simp [rg0]
   have m1 : p.1 ∈ flP rg := List.mem_flatMap.2 ⟨p, hm, by simp⟩
   have m2 : p.2 ∈ flP rg := List.mem_flatMap.2 ⟨p, hm, by simp⟩
   refine ⟨⟨by rw [hl]; exact r1, gfr _ m1⟩, by rw [hl, rg0_slots]; exact r2, gfr _ m2, ?_, by rw [hl]; exact ⟨hm1, hm16⟩⟩
   have hnd := hI2.nd
   exact fun e => by
    have := List.nodup_append.1 hnd
    exact this.2.2 p.1 (List.mem_map_of_mem hm) p.2 (List.mem_map_of_mem hm) e
 ·exact ⟨⟨XV, none, [], .map none, ⟨hB, glg⟩, OwO.nil, fun j h => absurd h (by simp), rfl, fun i q hq => absurd hq (by simp [st00]), fun r hr => absurd hr (by simp), .inl rfl⟩, by show 0 ≤ 60000; omega⟩
 ·rcases hi with hi | ⟨hi, hn⟩
  ·rw [hG]; exact if_pos hi
  ·rw [g8 (by omega), if_neg (fun hx => by have := hlt i hx; omega), if_neg hn]
def isF : Value → Bool | .nilFunc => false | _ => true
def StepV (v : Value) : Prop := v = .nilFunc ∨ ∃ f cap, v = .func (.func f) #[] cap
theorem left_w (w : World) {b77 nb nc : Nat} {mv : Value} {calls : Int} {vs : List Value} (hs : Sl Non w (.slice (some ⟨nb, 0, none⟩) vs.length nc) 1 (vs.map eV)) (hl : ∀ v ∈ vs, StepV v) (B77 : Zj w b77 [mv, .int .i64 calls, .int .i64 0, (.slice (some ⟨nb, 0, none⟩) vs.length nc)]) : Fn Tryz.prog 27 #[(Zpt b77)] w fun u w' => u = .bool (vs.any isF) := by
 have hX := Ext.refl Non w
 refine Zfw (args := [_]) Tryz.func27 rfl rfl ?_
 refine Zs (Za ?_)
 refine Zc (Zs (Zm ?_))
 refine Zb (Zg rfl) (Zb (Zf f_79_1 rfl) (Zb (Zi p_75 rfl B77 rfl) ?_))
 refine Zw zE rfl (cont_steps w vs (hs.ext hX (fun _ h => h)) isF zE (fun A x hA hx => by
   rcases hl x hx with rfl | ⟨f, cap, rfl⟩
   ·exact left1_nil A
   ·exact left1_fun A)) ?_; intro v7 w1 E1 R1
 replace hX := hX.tr E1
 replace B77 := Zx B77 E1
 subst R1
 refine Za ?_
 refine Zc (ZB ?_)
 exact ⟨_, ZD (Zh rfl), hX, rfl⟩
theorem full_w (w : World) {b77 nb nc mn mc : Nat} {ma : Option Addr} {calls : Int} {vs : List Value} (hs : Sl Non w (.slice (some ⟨nb, 0, none⟩) vs.length nc) 1 (vs.map eV)) (hl : ∀ v ∈ vs, StepV v) (B77 : Zj w b77 [.slice ma mn mc, .int .i64 calls, .int .i64 0, (.slice (some ⟨nb, 0, none⟩) vs.length nc)]) (hk : mn < 65536 ∨ vs.any isF = false) : Fn Tryz.prog 25 #[(Zpt b77)] w fun u w' => u = .bool false := by
 have hX := Ext.refl Non w
 refine Zfw (args := [_]) Tryz.func25 rfl rfl ?_
 refine Zs (Za ?_)
 refine Zc (Zs (Zm ?_))
 refine Zb (Zg rfl) (Zb (Zf f_79_0 rfl) (Zb (Zf f_44_0 rfl) (Zb (Zi XT rfl B77 rfl) (Zb (Z1 Xe rfl) (Zb (X8 rfl rfl) (Zm ?_))))))
 refine Z3 (d := 10) rfl (fun hg10 => ?_) (fun hg10 => ?_)
 ·refine Zu rfl (Zcb hg10) (Zm ?_)
  refine Zu rfl (Zcb hg10) (Zw zE rfl (left_w w (hs.ext hX (fun _ h => h)) hl B77) ?_); intro v12 w1 E1 R1
  replace hX := hX.tr E1
  replace B77 := Zx B77 E1
  subst R1
  refine Zb (Z8 (Zcb hg10) (by conv => lhs; whnf)) ?_
  refine Za ?_
  refine Zc (ZB ?_)
  exact ⟨_, ZD (Zh rfl), hX, congrArg Value.bool (hk.resolve_left (by have := of_decide_eq_true hg10; omega))⟩
 ·refine ZU rfl (Zcb hg10) (ZU rfl (Zcb hg10) (Zb (ZQ (Zcb hg10) (by conv => lhs; whnf)) ?_))
  refine Za ?_
  refine Zc (ZB ?_)
  exact ⟨_, ZD (Zh rfl), hX, rfl⟩
theorem turn_out (w : World) {b77 nb nc : Nat} {mv : Value} {calls : Int} {vs : List Value} {i : Int} (hi : i < 0 ∨ (vs.length : Int) ≤ i) (B77 : Zj w b77 [mv, .int .i64 calls, .int .i64 0, (.slice (some ⟨nb, 0, none⟩) vs.length nc)]) : Fn Tryz.prog 26 #[(Zpt b77), .int .i64 i] w fun u w' => u = .bool false := by
 have hX := Ext.refl Non w
 refine Zfw (args := [_, _]) Tryz.func26 rfl rfl ?_
 refine Zs (Za ?_)
 refine Zc (ZC (Zs (Zm ?_)))
 refine Zb (Xj rfl rfl) (Zm ?_)
 refine Z3 (d := 9) rfl (fun hg9 => ?_) (fun hg9 => ?_)
 ·refine ZU rfl (Zcb hg9) (ZU rfl (Zcb hg9) (ZU rfl (Zcb hg9) (ZU rfl (Zcb hg9) (ZU rfl (Zcb hg9) (ZU rfl (Zcb hg9) (ZU rfl (Zcb hg9) (Zb (Z8 (Zcb hg9) (by conv => lhs; whnf)) ?_)))))))
  refine Zm ?_
  refine ZU rfl rfl (ZU rfl rfl (ZU rfl rfl (ZU rfl rfl (ZU rfl rfl (ZU rfl rfl (ZU rfl rfl (ZU rfl rfl (Zb (Z8 rfl (by conv => lhs; whnf)) ?_))))))))
  refine Zc (Qr rfl (Zs (Za ?_)))
  refine Zc (ZB ?_)
  exact ⟨_, ZD (Zh rfl), hX, rfl⟩
 ·refine Zu rfl (Zcb hg9) (Zm ?_)
  refine Zu rfl (Zcb hg9) (Zm ?_)
  refine Zu rfl (Zcb hg9) (Zb (Zg rfl) (Zu rfl (Zcb hg9) (Zb (Zf f_79_1 rfl) (Zu rfl (Zcb hg9) (Zb (Zi p_75 rfl B77 rfl) (Zu rfl (Zcb hg9) (Zb (Z1 JJ rfl) (Zu rfl (Zcb hg9) ?_))))))))
  refine Zb (X8 rfl rfl) (Zb (ZQ (Zcb hg9) (by conv => lhs; whnf)) ?_)
  refine Zm ?_
  refine Z3 (d := 18) rfl (fun hg18 => ?_) (fun hg18 => ?_)
  ·refine ZU rfl (Zcb hg18) (ZU rfl (Zcb hg18) (ZU rfl (Zcb hg18) (ZU rfl (Zcb hg18) (ZU rfl (Zcb hg18) (ZU rfl (Zcb hg18) (ZU rfl (Zcb hg18) (ZU rfl (Zcb hg18) (Zb (Z8 (Zcb hg18) (by conv => lhs; whnf)) ?_))))))))
   refine Zc (Qr rfl (Zs (Za ?_)))
   refine Zc (ZB ?_)
   exact ⟨_, ZD (Zh rfl), hX, rfl⟩
  ·exact absurd hi (by have := of_decide_eq_false hg9; have := of_decide_eq_false hg18; omega)
theorem turn_nil (w : World) {b77 nb nc : Nat} {mv : Value} {calls : Int} {vs : List Value} {i : Nat} (hs : Sl Non w (.slice (some ⟨nb, 0, none⟩) vs.length nc) 1 (vs.map eV)) (hi : vs[i]? = some .nilFunc) (B77 : Zj w b77 [mv, .int .i64 calls, .int .i64 0, (.slice (some ⟨nb, 0, none⟩) vs.length nc)]) : Fn Tryz.prog 26 #[(Zpt b77), .int .i64 (i : Nat)] w fun u w' => u = .bool false := by
 have hil := (List.getElem?_eq_some_iff.1 hi).1
 have hX := Ext.refl Non w
 refine Zfw (args := [_, _]) Tryz.func26 rfl rfl ?_
 refine Zs (Za ?_)
 refine Zc (ZC (Zs (Zm ?_)))
 refine Zb (Xj rfl rfl) (Zm ?_)
 refine Z3 (d := 9) rfl (fun hg9 => ?_) (fun hg9 => ?_)
 ·exact absurd (of_decide_eq_true hg9) (by omega)
 ·refine Zu rfl (Zcb hg9) (Zm ?_)
  refine Zu rfl (Zcb hg9) (Zm ?_)
  refine Zu rfl (Zcb hg9) (Zb (Zg rfl) (Zu rfl (Zcb hg9) (Zb (Zf f_79_1 rfl) (Zu rfl (Zcb hg9) (Zb (Zi p_75 rfl B77 rfl) (Zu rfl (Zcb hg9) (Zb (Z1 JJ rfl) (Zu rfl (Zcb hg9) ?_))))))))
  refine Zb (X8 rfl rfl) (Zb (ZQ (Zcb hg9) (by conv => lhs; whnf)) ?_)
  refine Zm ?_
  refine Z3 (d := 18) rfl (fun hg18 => ?_) (fun hg18 => ?_)
  ·exact absurd (of_decide_eq_true hg18) (by omega)
  ·refine Zu rfl (Zcb hg18) (Zm ?_)
   refine Zu rfl (Zcb hg18) (Zb (Zg rfl) (Zu rfl (Zcb hg18) (Zb (Zf f_79_1 rfl) (Zu rfl (Zcb hg18) (Zb (Zi p_75 rfl B77 rfl) (Zu rfl (Zcb hg18) (Zm ?_)))))))
   refine Zu rfl (Zcb hg18) (Zb (ZH JJ rfl rfl (by omega)) (Zu rfl (Zcb hg18) ?_))
   refine Zb (Xb p_47 rfl ((hs.ext hX (fun _ h => h)).at0 (by rw [Int.toNat_natCast, List.getElem?_map, hi]; rfl) rfl)) ?_
   refine Zu rfl (Zcb hg18) (Zb (rn_nofunc_eql uf_47 rfl rfl) (Zb (ZQ (Zcb hg18) (by conv => lhs; whnf)) ?_))
   refine Zc ?_
   refine ZE rfl (fun hc0 => ?_) (fun hc0 => ?_)
   ·refine Zs (Za ?_)
    refine Zc (ZB ?_)
    exact ⟨_, ZD (Zh rfl), hX, rfl⟩
   ·cases hc0
set_option maxHeartbeats 800000 in
theorem turn_run (w : World) {b77 nb nc : Nat} {mv : Value} {calls : Int} {vs : List Value} {mo : Option Nat} {moves : List Int} {spare : List Value} {i : Nat} {M : Nat → Prop} {Q : Value → Bool → World → Prop} {f : FuncId} {cap : Array Value} (hne : nb ≠ b77) (hmb : ∀ j, mo = some j → j ≠ b77 ∧ j ≠ nb) (hMb : M b77) (hMn : M nb) (hMo : ∀ j, mo = some j → M j) (B77 : Zj w b77 [mv, .int .i64 calls, .int .i64 0, (.slice (some ⟨nb, 0, none⟩) vs.length nc)]) (hMv : OwO w mv mo 1 (moves.map eI)) (Nx : Ow w (.slice (some ⟨nb, 0, none⟩) vs.length nc) nb 1 (vs.map eV) spare) (hi : vs[i]? = some (.func (.func f) #[] cap)) (e1 : Xa Tryz.prog f = true) (hml : moves.length ≤ 70000) (hvl : vs.length ≤ 100000) (h : ∀ w1, Ext (fun j => j = b77) w w1 → Zj w1 b77 [mv, .int .i64 (up1 calls), .int .i64 0, (.slice (some ⟨nb, 0, none⟩) vs.length nc)] ∧ OwO w1 mv mo 1 (moves.map eI) ∧ Ow w1 (.slice (some ⟨nb, 0, none⟩) vs.length nc) nb 1 (vs.map eV) spare → FnM Tryz.prog M f cap w1 fun u w2 => ∃ v' t, u = .tuple #[v', .bool t] ∧ v'.oneCell' = true ∧ v'.cells = #[v'] ∧ Zj w2 b77 [mv, .int .i64 (up1 calls), .int .i64 0, (.slice (some ⟨nb, 0, none⟩) vs.length nc)] ∧ OwO w2 mv mo 1 (moves.map eI) ∧ Ow w2 (.slice (some ⟨nb, 0, none⟩) vs.length nc) nb 1 (vs.map eV) spare ∧ Q v' t w2) : FnM Tryz.prog M 26 #[(Zpt b77), .int .i64 (i : Nat)] w fun u w' => ∃ v' t w2, Q v' t w2 ∧ u = .bool t ∧ (t = false → Ext Non w2 w' ∧ Zj w' b77 [mv, .int .i64 (up1 calls), .int .i64 0, (.slice (some ⟨nb, 0, none⟩) vs.length nc)] ∧ OwO w' mv mo 1 (moves.map eI) ∧ Ow w' (.slice (some ⟨nb, 0, none⟩) vs.length nc) nb 1 (vs.map eV) spare) ∧ (t = true → ∃ mv' mo', Ext (fun j => j = b77 ∨ mo = some j ∨ j = nb) w2 w' ∧ (∀ j, mo' = some j → mo = some j ∨ w2.heap.size ≤ j) ∧ Zj w' b77 [mv', .int .i64 (up1 calls), .int .i64 0, (.slice (some ⟨nb, 0, none⟩) vs.length nc)] ∧ OwO w' mv' mo' 1 ((moves ++ [(i : Int)]).map eI) ∧ Ow w' (.slice (some ⟨nb, 0, none⟩) vs.length nc) nb 1 ((vs.set i v').map eV) spare) := by
 have hil := (List.getElem?_eq_some_iff.1 hi).1
 have hl77 : Xo M w b77 := .inl hMb
 obtain ⟨ma, mc, rfl⟩ := id hMv.len
 have hX1 := Ext.refl (fun j => j = b77) w
 have hX := Ext.refl M w
 refine Zfm (args := [_, _]) Tryz.func26 rfl rfl ?_
 refine Zs (Za ?_)
 refine Zc (ZC (Zs (Zm ?_)))
 refine Zb (Xj rfl rfl) (Zm ?_)
 refine Z3 (d := 9) rfl (fun hg9 => ?_) (fun hg9 => ?_)
 ·exact absurd (of_decide_eq_true hg9) (by omega)
 ·refine Zu rfl (Zcb hg9) (Zm ?_)
  refine Zu rfl (Zcb hg9) (Zm ?_)
  refine Zu rfl (Zcb hg9) (Zb (Zg rfl) (Zu rfl (Zcb hg9) (Zb (Zf f_79_1 rfl) (Zu rfl (Zcb hg9) (Zb (Zi p_75 rfl B77 rfl) (Zu rfl (Zcb hg9) (Zb (Z1 JJ rfl) (Zu rfl (Zcb hg9) ?_))))))))
  refine Zb (X8 rfl rfl) (Zb (ZQ (Zcb hg9) (by conv => lhs; whnf)) ?_)
  refine Zm ?_
  refine Z3 (d := 18) rfl (fun hg18 => ?_) (fun hg18 => ?_)
  ·exact absurd (of_decide_eq_true hg18) (by omega)
  ·refine Zu rfl (Zcb hg18) (Zm ?_)
   refine Zu rfl (Zcb hg18) (Zb (Zg rfl) (Zu rfl (Zcb hg18) (Zb (Zf f_79_1 rfl) (Zu rfl (Zcb hg18) (Zb (Zi p_75 rfl B77 rfl) (Zu rfl (Zcb hg18) (Zm ?_)))))))
   refine Zu rfl (Zcb hg18) (Zb (ZH JJ rfl rfl (by omega)) (Zu rfl (Zcb hg18) ?_))
   refine Zb (Xb p_47 rfl ((Nx.sl (M := Non) id).at0 (by rw [Int.toNat_natCast, List.getElem?_map, hi]; rfl) rfl)) ?_
   refine Zu rfl (Zcb hg18) (Zb (Q3 uf_47 rfl rfl) (Zb (ZQ (Zcb hg18) (by conv => lhs; whnf)) ?_))
   refine Zc ?_
   refine ZE rfl (fun hc0 => ?_) (fun hc0 => ?_)
   ·cases hc0
   ·refine ZF (Zs (Zm ?_))
    refine Zb (Zg rfl) (Zb (Zf f_79_0 rfl) (Zb (Zf f_44_1 rfl) (Zb (Zi p_3 rfl B77 rfl) (Zb (rn_addw rfl rfl) (Zb (Zg rfl) (Zb (Zf f_79_0 rfl) (Zb (Zf f_44_1 rfl) ?_)))))))
    have Bo := B77
    refine ZN (b := b77) p_3 rfl (by conv => lhs; whnf) rfl rfl B77 Zbl ?_; intro w1 E1 B77 hz1
    replace hX := hX.mine E1 hl77
    replace hMv := hMv.ext E1 (fun i hi e => (hmb i hi).1 e)
    replace Nx := Nx.ext E1 (fun e => hne e)
    replace hX1 := hX1.trans E1
    refine Zc (Zs (Zm ?_))
    refine Zb (Zg rfl) (Zb (Zf f_79_1 rfl) (Zb (Zi p_75 rfl B77 rfl) (Zm ?_)))
    refine Zb (ZH JJ rfl rfl (by omega)) ?_
    refine Zb (Xb p_47 rfl ((Nx.sl (M := Non) id).at0 (by rw [Int.toNat_natCast, List.getElem?_map, hi]; rfl) rfl)) ?_
    refine XW (args := []) rfl e1 rfl (by show FnM _ _ _ ((#[] : Array Value) ++ #[] ++ cap) _ _; rw [Q6]; exact h w1 hX1 ⟨B77, hMv, Nx⟩) ?_; intro v45 w2 E2 hR45
    obtain ⟨v', t, rfl, hv1, hv2, B77, hMv, Nx, hQ⟩ := hR45
    replace hX := hX.trans E2
    obtain ⟨wq, hwq⟩ : ∃ x, x = w2 := ⟨_, rfl⟩
    rw [← hwq] at hQ
    have hY0 : Ext Non wq w2 := by rw [hwq]; exact Ext.refl _ _
    have hY : Ext (fun j => j = b77 ∨ mo = some j ∨ j = nb) wq w2 := by rw [hwq]; exact Ext.refl _ _
    refine Zm ?_
    refine Zb (ZM rfl rfl) (Zb (ZM rfl rfl) (Za (Za ?_)))
    refine Zc (ZC (Zs (Zm ?_)))
    refine Zc ?_
    refine ZE rfl (fun hc1 => ?_) (fun hc1 => ?_)
    ·refine Zs (Zm (Zm ?_))
     refine Zb (Zg rfl) (Zb (Zf f_79_0 rfl) (Zb (Zf f_44_0 rfl) (Zb (Zi XT rfl B77 rfl) (Zm ?_))))
     refine Xz (r := eI (i : Nat)) Xe rfl rfl rfl rfl (by decide) ?_; intro v56 w3 b56 hb56 E3 hO56
     replace hX := hX.tr E3
     replace B77 := Zx B77 E3
     replace hMv := hMv.ext E3 (fun _ _ h => h)
     replace Nx := Nx.ext E3 id
     replace hY := hY.tr E3
     have hYo := hY
     have hB77l := B77.lt; have hnbl := Nx.box.lt
     refine Qm Xe rfl rfl rfl hMv (hO56.sl (M := Non) id) (fun r hr => by simp only [List.mem_singleton] at hr; subst hr; exact J1 rfl) (by simp only [List.length_map, List.length_cons, List.length_nil]; omega) (by simp only [List.length_map, List.length_cons, List.length_nil, big]; omega) ?_; intro v57 w4 o57 E4 hO57 hf57
     replace hX := hX.own2 E4 (fun i hi => .inl (hMo i hi))
     replace B77 := B77.ext E4 (fun e => (hmb _ e).1 rfl)
     replace Nx := Nx.ext E4 (fun e => (hmb _ e).2 rfl)
     replace hY := hY.trans (E4.mono (fun i hi => .inr (.inl hi)))
     have ho57 : ∀ j, o57 = some j → (mo = some j ∨ wq.heap.size ≤ j) ∧ j ≠ b77 ∧ j ≠ nb := fun j hj => by
      rcases hf57 j hj with h | h
      ·exact ⟨.inl h, hmb j h⟩
      ·exact ⟨.inr (Zle hYo.size h), by omega, by omega⟩
     obtain ⟨va57, vc57, rfl⟩ := id hO57.len
     refine Zb (Zg rfl) (Zb (Zf f_79_0 rfl) (Zb (Zf f_44_0 rfl) ?_))
     have Bo := B77
     refine ZN (b := b77) XT rfl (by conv => lhs; whnf) rfl rfl B77 Zbl ?_; intro w5 E5 B77 hz5
     replace hX := hX.mine E5 hl77
     replace Nx := Nx.ext E5 (fun e => hne e)
     replace hY := hY.trans (E5.mono (fun i hi => .inl hi))
     replace hO57 := hO57.ext E5 (fun i hi e => (ho57 i hi).2.1 e)
     refine Zc (ZJ (Zm ?_))
     refine Zb (Zg rfl) (Zb (Zf f_79_1 rfl) (Zb (Zi p_75 rfl B77 rfl) (Zm (Zm ?_))))
     refine Zb (ZH JJ rfl rfl (by omega)) (JA p_47 (i := i) rfl rfl hv1 hv2 Nx (by simpa using hil) ?_); intro w6 E6 Nx
     replace hX := hX.own2 E6 (fun i hi => .inl (by rw [hi]; exact hMn))
     replace B77 := B77.ext E6 (fun e => hne e.symm)
     replace hO57 := hO57.ext E6 (fun i hi e => (ho57 i hi).2.2 e)
     replace hY := hY.trans (E6.mono (fun i hi => .inr (.inr hi)))
     have hNx2 : Ow w6 (.slice (some ⟨nb, 0, none⟩) vs.length nc) nb 1 ((vs.set i v').map eV) spare := by rw [List.map_set]; exact Nx
     refine Zc (Zs (Zm (Za ?_)))
     refine Zc (ZB ?_)
     exact ⟨_, ZD (Zh rfl), hX, ⟨v', t, wq, hQ, rfl, fun h => absurd (hc1.symm.trans h) (by simp), fun _ => ⟨_, o57, hY, fun j hj => (ho57 j hj).1, B77, by rw [List.map_append]; exact hO57, hNx2⟩⟩⟩
    ·refine ZF (Zs (Zm (Za ?_)))
     refine Zc (ZB ?_)
     exact ⟨_, ZD (Zh rfl), hX, ⟨v', t, wq, hQ, rfl, fun _ => ⟨hY0, B77, hMv, Nx⟩, fun h => absurd (hc1.symm.trans h) (by simp)⟩⟩
section
def Xv.isMk {S : Type} : Xv S → Bool | .done => false | .mk .. => true
structure Sched {S : Type} (Inv : List (Xv S) → S → Prop) (μ : List (Xv S) → S → Nat) : Prop where
 step : ∀ (ps : List (Xv S)) (s : S) (i : Nat) pre ok st nx, Inv ps s → ps[i]? = some (Xv.mk pre ok st nx) → pre s = true ∧ (ok s = true → Inv (ps.set i (nx s)) (st s) ∧ μ (ps.set i (nx s)) (st s) < μ ps s)
 prog : ∀ (ps : List (Xv S)) (s : S), Inv ps s → ps.any Xv.isMk = true → ∃ (i : Nat) (pre ok : S → Bool) (st : S → S) (nx : S → Xv S), ps[i]? = some (Xv.mk pre ok st nx) ∧ ok s = true
theorem Sched.pos {S : Type} {Inv : List (Xv S) → S → Prop} {μ : List (Xv S) → S → Nat} (h : Sched Inv μ) {ps : List (Xv S)} {s : S} (hi : Inv ps s) (hl : ps.any Xv.isMk = true) : 0 < μ ps s := by
 obtain ⟨i, pre, ok, st, nx, h1, h2⟩ := h.prog ps s hi hl
 exact Nat.lt_of_le_of_lt (Nat.zero_le _) ((h.step ps s i pre ok st nx hi h1).2 h2).2
structure Cfg (S : Type) where
 G : Tg
 ps : List (Xv S)
 s : S
 k : Nat
def MW (G : Tg) : Nat → Prop := fun i => Sh (G i) ∨ (∃ me, G i = wrT me) ∨ G i = 8
section
variable {S : Type} (Y : Sys S) (P : Program)
structure MacM (b nb : Nat) (ps : List (Xv S)) (k : Nat) (G : Tg) (w : World) : Prop where
 ex : ∃ (mv : Value) (mo : Option Nat) (moves : List Int) (calls : Int) (nc : Nat) (vs : List Value) (spare : List Value), Bx 8 G w b [mv, .int .i64 calls, .int .i64 0, .slice (some ⟨nb, 0, none⟩) vs.length nc] ∧ OwO w mv mo 1 (moves.map eI) ∧ (∀ j, mo = some j → G j = 8 ∧ j ≠ b ∧ j ≠ nb) ∧ moves.length = k ∧
  Ow w (.slice (some ⟨nb, 0, none⟩) vs.length nc) nb 1 (vs.map eV) spare ∧ vs.length = ps.length ∧ ∀ (i : Nat) p v, ps[i]? = some p → vs[i]? = some v → Jt Y P i p G w v
 tag : G nb = 8
 ne : nb ≠ b
structure RunI (Inv : List (Xv S) → S → Prop) (μ : List (Xv S) → S → Nat) (b nb : Nat) (c : Cfg S) (w : World) : Prop where
 mac : MacM Y P b nb c.ps c.k c.G w
 sm : Y.SM c.G w c.s
 inv : Inv c.ps c.s
 bd : c.k + μ c.ps c.s ≤ 65536
 len : c.ps.length ≤ 1000
variable {Y P}
theorem MacM.non {b nb : Nat} {ps : List (Xv S)} {k : Nat} {G : Tg} {w w' : World} (h : MacM Y P b nb ps k G w) (hE : Ext Non w w') : MacM Y P b nb ps k G w' := by
 obtain ⟨⟨mv, mo, moves, calls, nc, vs, spare, h1, h2, h3, h4, h5, h6, h7⟩, h8, h9⟩ := h
 exact ⟨⟨mv, mo, moves, calls, nc, vs, spare, ⟨h1.1.ext hE id, h1.2⟩, h2.ext hE (fun _ _ => id), h3, h4, h5.ext hE id, h6, fun i p v hp hv => (h7 i p v hp hv).same (ZV.of_non hE fun _ _ => rfl)⟩, h8, h9⟩
theorem RunI.non {Inv : List (Xv S) → S → Prop} {μ : List (Xv S) → S → Nat} {b nb : Nat} {c : Cfg S} {w w' : World} (h : RunI Y P Inv μ b nb c w) (hE : Ext Non w w') : RunI Y P Inv μ b nb c w' :=
 ⟨h.mac.non hE, Y.same h.sm (ZV.of_non hE fun _ _ => rfl), h.inv, h.bd, h.len⟩
theorem Jt.val {me : Nat} {p : Xv S} {G : Tg} {w : World} {v : Value} (h : Jt Y P me p G w v) : (p.isMk = isF v) ∧ StepV v ∧ v.oneCell' = true ∧ v.cells = #[v] := by
 cases p with
 | done => obtain rfl : v = .nilFunc := h; exact ⟨rfl, .inl rfl, rfl, rfl⟩
 | mk pre ok st nx => obtain ⟨f, cap, rfl, _⟩ := h; exact ⟨rfl, .inr ⟨f, cap, rfl⟩, rfl, rfl⟩
theorem any_isF {G : Tg} {w : World} : ∀ (ps : List (Xv S)) (vs : List Value) (f : Nat → Nat), vs.length = ps.length → (∀ (i : Nat) p v, ps[i]? = some p → vs[i]? = some v → Jt Y P (f i) p G w v) → vs.any isF = ps.any Xv.isMk ∧ ∀ v ∈ vs, StepV v
 | [], [], f, _, _ => ⟨rfl, fun v h => by simp at h⟩
 | [], v :: vs, f, h, _ => by simp at h
 | p :: ps, [], f, h, _ => by simp at h
 | p :: ps, v :: vs, f, h, h2 => by
  have h3 := (h2 0 p v rfl rfl).val
  obtain ⟨i1, i2⟩ := any_isF ps vs (fun i => f (i + 1)) (by simpa using h) fun i p' v' hp hv => h2 (i + 1) p' v' hp hv
  refine ⟨by simp only [List.any_cons, h3.1, i1], fun x hx => ?_⟩
  rcases List.mem_cons.1 hx with rfl | hx
  ·exact h3.2.1
  ·exact i2 x hx
end
section
variable {S : Type} {Y : Sys S} {Inv : List (Xv S) → S → Prop} {μ : List (Xv S) → S → Nat} {b nb : Nat} {c : Cfg S} {w : World}
theorem left_mk (h : RunI Y Tryz.prog Inv μ b nb c w) : Fn Tryz.prog 27 #[pt b] w fun u _ => u = .bool (c.ps.any Xv.isMk) := by
 obtain ⟨⟨mv, mo, moves, calls, nc, vs, spare, h1, h2, h3, h4, h5, h6, h7⟩, h8, h9⟩ := h.mac
 obtain ⟨i1, i2⟩ := any_isF c.ps vs id h6 h7
 rw [← i1]
 exact left_w w (h5.sl id) i2 h1.1
theorem full_mk (hS : Sched Inv μ) (h : RunI Y Tryz.prog Inv μ b nb c w) : Fn Tryz.prog 25 #[pt b] w fun u _ => u = .bool false := by
 obtain ⟨⟨mv, mo, moves, calls, nc, vs, spare, h1, h2, h3, h4, h5, h6, h7⟩, h8, h9⟩ := h.mac
 obtain ⟨i1, i2⟩ := any_isF c.ps vs id h6 h7
 obtain ⟨ma, mc, rfl⟩ := id h2.len
 refine full_w w (h5.sl id) i2 h1.1 ?_
 rw [i1, List.length_map, h4]
 cases hl : c.ps.any Xv.isMk with
 | false => exact .inr rfl
 | true => have := hS.pos h.inv hl; have := h.bd; exact .inl (by omega)
def TurnR (Y : Sys S) (Inv : List (Xv S) → S → Prop) (μ : List (Xv S) → S → Nat) (b nb : Nat) (c : Cfg S) (w : World) (i : Int) (u : Value) (w' : World) : Prop :=
 ∃ (c' : Cfg S) (r : Bool), u = .bool r ∧ RunI Y Tryz.prog Inv μ b nb c' w' ∧ (∀ j, j < w.heap.size → c'.G j = c.G j) ∧ c'.ps.length = c.ps.length ∧
  (r = false → c'.ps = c.ps ∧ c'.s = c.s ∧ ∀ (pre ok : S → Bool) (st : S → S) (nx : S → Xv S), 0 ≤ i → c.ps[i.toNat]? = some (Xv.mk pre ok st nx) → ok c.s = false) ∧ (r = true → μ c'.ps c'.s < μ c.ps c.s)
theorem turn_mk (hS : Sched Inv μ) (h : RunI Y Tryz.prog Inv μ b nb c w) (i : Int) : FnM Tryz.prog (MW c.G) 26 #[pt b, .int .i64 i] w (TurnR Y Inv μ b nb c w i) := by
 obtain ⟨⟨mv, mo, moves, calls, nc, vs, spare, h1, h2, h3, h4, h5, h6, h7⟩, h8, h9⟩ := id h.mac
 by_cases hout : i < 0 ∨ (vs.length : Int) ≤ i
 ·refine FnM.sub (M := Non) (FnM.mono (turn_out w hout h1.1) ?_) (fun _ h => h.elim)
  rintro u w' hE rfl
  refine ⟨c, false, rfl, h.non hE, fun _ _ => rfl, rfl, fun _ => ⟨rfl, rfl, fun pre ok st nx h0 hp => ?_⟩, fun h => absurd h (by simp)⟩
  have := (List.getElem?_eq_some_iff.1 hp).1
  omega
 ·obtain ⟨k, rfl⟩ : ∃ k : Nat, i = (k : Int) := ⟨i.toNat, by omega⟩
  have hkl : k < vs.length := by omega
  have hv : vs[k]? = some vs[k] := List.getElem?_eq_getElem hkl
  have hp : c.ps[k]? = some (c.ps[k]'(by omega)) := List.getElem?_eq_getElem _
  have hst := h7 k _ _ hp hv
  cases hpk : c.ps[k]'(by omega) with
  | done =>
   rw [hpk] at hst hp
   have hn : vs[k] = .nilFunc := hst
   rw [hn] at hv
   refine FnM.sub (M := Non) (FnM.mono (turn_nil w (h5.sl (M := Non) id) hv h1.1) ?_) (fun _ h => h.elim)
   rintro u w' hE rfl
   refine ⟨c, false, rfl, h.non hE, fun _ _ => rfl, rfl, fun _ => ⟨rfl, rfl, fun pre ok st nx h0 hq => ?_⟩, fun h => absurd h (by simp)⟩
   rw [Int.toNat_natCast, hp] at hq; cases hq
  | mk pre ok st nx =>
   rw [hpk] at hst hp
   obtain ⟨f, cap, hvf, e1, hcall⟩ := hst
   rw [hvf] at hv
   obtain ⟨hpre, hok⟩ := hS.step c.ps c.s k pre ok st nx h.inv hp
   have hpos := hS.pos h.inv (by rw [List.any_eq_true]; exact ⟨_, List.mem_of_getElem? hp, rfl⟩)
   have hbd := h.bd
   have key := turn_run (i := k) (M := MW c.G) (Q := fun v' t w2 => ∃ w1 G2, Ext (fun j => j = b) w w1 ∧ Ext (Wr k c.G) w1 w2 ∧ Tgs k c.G w1 G2 w2 ∧ t = ok c.s ∧ (ok c.s = true → Y.SM G2 w2 (st c.s) ∧ Jt Y Tryz.prog k (nx c.s) G2 w2 v') ∧ (ok c.s = false → v' = .nilFunc ∧ Y.SM G2 w2 c.s ∧ ZV (MyT k) c.G w1 G2 w2)) w h9 (fun j hj => (h3 j hj).2) (.inr (.inr h1.2)) (.inr (.inr h8)) (fun j hj => .inr (.inr (h3 j hj).1)) h1.1 h2 h5 hv e1 (by omega) (by have := h.len; omega) fun w1 E1 hw1 => ?_
   ·refine FnM.mono key ?_
    rintro u w' hE ⟨v', t, w2, ⟨w1, G2, q1, q2, q3, rfl, q5, q6⟩, rfl, hf, ht⟩
    have hz1 : w.heap.size ≤ w1.heap.size := q1.size
    have hz2 : w1.heap.size ≤ w2.heap.size := q2.size
    have hG2 : ∀ j, j < w.heap.size → G2 j = c.G j := fun j hj => q3.tag j (by omega)
    have hb8 : G2 b = 8 := (hG2 b h1.lt).trans h1.2
    have hnb8 : G2 nb = 8 := (hG2 nb h5.box.lt).trans h8
    have hmo8 : ∀ j, mo = some j → G2 j = 8 := fun j hj => (hG2 j (h2.lt hj)).trans (h3 j hj).1
    have sb : ∀ T : Nat → Prop, ¬ T 8 → ZV T c.G w c.G w1 := fun T hT => ⟨q1.mono fun j hj ht => hT (by rw [hj, h1.2] at ht; exact ht), fun _ _ => rfl⟩
    have n8 : ∀ j, ¬ MyT j 8 := fun j h => by rcases h with h | h | h <;> (try simp only [kpT, wrT] at h) <;> omega
    have so : ∀ j, j ≠ k → ZV (MyT j) c.G w G2 w2 := fun j hj => (sb _ (n8 j)).trans (q3.other q2 hj)
    cases hok2 : ok c.s with
    | false =>
     obtain ⟨hEn, hB, hMv, Nx⟩ := hf hok2
     obtain ⟨r1, r2, r3⟩ := q6 hok2
     have sn : ∀ T : Nat → Prop, ZV T G2 w2 G2 w' := fun T => ZV.of_non hEn fun _ _ => rfl
     refine ⟨⟨G2, c.ps, c.s, c.k⟩, false, rfl, ⟨⟨⟨mv, mo, moves, _, nc, vs, spare, ⟨hB, hb8⟩, hMv, fun j hj => ⟨hmo8 j hj, (h3 j hj).2⟩, h4, Nx, h6, fun j p v hp' hv' => ?_⟩, hnb8, h9⟩, Y.same r2 (sn _), h.inv, h.bd, h.len⟩, hG2, rfl, fun _ => ⟨rfl, rfl, fun pre' ok' st' nx' h0 hq => ?_⟩, fun h => absurd h (by simp)⟩
     ·by_cases hjk : j = k
      ·subst hjk; exact (h7 j p v hp' hv').same (((sb _ (n8 j)).trans r3).trans (sn _))
      ·exact (h7 j p v hp' hv').same ((so j hjk).trans (sn _))
     ·rw [Int.toNat_natCast, hp] at hq; cases hq; exact hok2
    | true =>
     obtain ⟨mv', mo', E3, hmo', hB, hMv, Nx⟩ := ht hok2
     obtain ⟨r1, r2⟩ := q5 hok2
     obtain ⟨s1, s2⟩ := hok hok2
     have hbl : b < w2.heap.size := Zlt h1.lt (by omega)
     have hnbl : nb < w2.heap.size := Zlt h5.box.lt (by omega)
     obtain ⟨G3, gold, gnew⟩ : ∃ G3 : Tg, (∀ j, j < w2.heap.size → G3 j = G2 j) ∧ ∀ j, w2.heap.size ≤ j → G3 j = 8 := ⟨gx G2 w2.heap.size fun _ => 8, fun j hj => Xf hj, fun j hj => Xd hj⟩
     have sn : ∀ T : Nat → Prop, ¬ T 8 → ZV T G2 w2 G3 w' := fun T hT => ⟨E3.mono fun j hj ht => hT (by rcases hj with hj | hj | hj; rw [hj, hb8] at ht; exact ht; rw [hmo8 j hj] at ht; exact ht; rw [hj, hnb8] at ht; exact ht), gold⟩
     refine ⟨⟨G3, c.ps.set k (nx c.s), st c.s, c.k + 1⟩, true, rfl, ⟨⟨⟨mv', mo', moves ++ [(k : Int)], _, nc, vs.set k v', spare, ⟨by rw [List.length_set]; exact hB, (gold _ hbl).trans hb8⟩, hMv, fun j hj => ?_, by rw [List.length_append, h4]; rfl, by rw [List.length_set]; exact Nx, by rw [List.length_set, List.length_set]; exact h6, fun j p v hp' hv' => ?_⟩, (gold _ hnbl).trans hnb8, h9⟩, Y.same r1 (sn Cor (by unfold Cor; omega)), s1, by show c.k + 1 + μ (c.ps.set k (nx c.s)) (st c.s) ≤ 65536; omega, by rw [List.length_set]; exact h.len⟩, fun j hj => (gold _ (Zlt hj (Zle hz1 hz2))).trans (hG2 j hj), by simp, fun h => absurd h (by simp), fun _ => s2⟩
     ·rcases hmo' j hj with hm | hm
      ·exact ⟨(gold _ (Zlt (h2.lt hm) (by omega))).trans (hmo8 j hm), (h3 j hm).2⟩
      ·exact ⟨gnew _ hm, by omega, by omega⟩
     ·by_cases hjk : j = k
      ·subst hjk
       rw [List.getElem?_set_self (by omega)] at hp' hv'
       cases hp'; cases hv'
       exact r2.same (sn _ (n8 j))
      ·rw [List.getElem?_set_ne (Ne.symm hjk)] at hp' hv'
       exact (h7 j p v hp' hv').same ((so j hjk).trans (sn _ (n8 j)))
   ·have S1 : ∀ T : Nat → Prop, ¬ T 8 → ZV T c.G w c.G w1 := fun T hT => ⟨E1.mono fun j hj ht => hT (by rw [hj, h1.2] at ht; exact ht), fun _ _ => rfl⟩
    have n8 : ¬ MyT k 8 := fun h => by rcases h with h | h | h <;> (try simp only [kpT, wrT] at h) <;> omega
    refine FnM.sub (FnM.mono (hcall c.G w1 c.s (S1 _ n8) (Y.same h.sm (S1 Cor (by unfold Cor; omega))) hpre) ?_) (fun j hj => by rcases hj with hj | hj; exact .inl hj; exact .inr (.inl ⟨k, hj⟩))
    rintro u w2 E2 ⟨G2, v', t, rfl, t1, t2, t3, t4⟩
    obtain ⟨hB, hMv, Nx⟩ := hw1
    have hm := t1.mach E2
    have hval : v'.oneCell' = true ∧ v'.cells = #[v'] := by
     cases hok2 : ok c.s with
     | true => exact (t3 hok2).2.val.2.2
     | false => rw [(t4 hok2).1]; exact ⟨rfl, rfl⟩
    exact ⟨v', t, rfl, hval.1, hval.2, hm.box hB (.inl h1.2), hm.owO hMv (fun j hj => .inl (h3 j hj).1), hm.ow Nx (.inl h8), w1, G2, E1, E2, t1, t2, t3, t4⟩
end
end
theorem Ext.mw {A B w : World} {G G' : Tg} (h : Ext (MW G) w A) (k : Ext (MW G') A B) (ht : ∀ j, j < w.heap.size → G' j = G j) : Ext (MW G) w B := h.own2 k fun i hi => by
 by_cases hlt : i < w.heap.size
 ·left; unfold MW at *; rw [ht i hlt] at hi; exact hi
 ·exact .inr (by omega)
theorem W_label {ro : Option Nat} {P : Program} {n : Nat} {Q : QH} {σ : Env} {D : List Deferred} {w : World} {id : Nat} (h : Q .normal σ D w) : W ro P n (.label id) Q σ D w := fun _ a hs hd => wpIn_label ⟨σ, hs, hd ▸ h⟩
theorem mw0 {G : Tg} {i : Nat} (h : MW G i) : ¬ G i = 0 := by
 rcases h with h | ⟨me, h⟩ | h
 ·have := h.1; omega
 ·rw [h]; simp only [wrT]; omega
 ·rw [h]; decide
theorem mw9 {G : Tg} {i : Nat} (h : G i = 9) : ¬ MW G i := by
 rintro (h1 | ⟨me, h1⟩ | h1)
 ·have := h1.2; omega
 ·rw [h] at h1; simp only [wrT] at h1; omega
 ·rw [h] at h1; cases h1
theorem not_ok {S : Type} {Inv : List (Xv S) → S → Prop} {μ : List (Xv S) → S → Nat} (hS : Sched Inv μ) {ps : List (Xv S)} {s : S} (hi : Inv ps s) (h : ∀ (j : Nat) (pre ok : S → Bool) (st : S → S) (nx : S → Xv S), ps[j]? = some (Xv.mk pre ok st nx) → ok s = false) : ps.any Xv.isMk = false := by
 cases hl : ps.any Xv.isMk with
 | false => rfl
 | true =>
  obtain ⟨i, pre, ok, st, nx, h1, h2⟩ := hS.prog ps s hi hl
  rw [h i pre ok st nx h1] at h2; cases h2
theorem round_w (w : World) {S : Type} {Y : Sys S} {Inv : List (Xv S) → S → Prop} {μ : List (Xv S) → S → Nat} (hS : Sched Inv μ) {b77 nb : Nat} (c0 : Cfg S) (h0 : RunI Y Tryz.prog Inv μ b77 nb c0 w) : FnM Tryz.prog (MW c0.G) 28 #[(Zpt b77)] w fun u w' => ∃ (c : Cfg S) (r : Bool), u = .bool r ∧ RunI Y Tryz.prog Inv μ b77 nb c w' ∧ (∀ j, j < w.heap.size → c.G j = c0.G j) ∧ c.ps.length = c0.ps.length ∧ (r = true → μ c.ps c.s < μ c0.ps c0.s) ∧ (r = false → c0.ps.any Xv.isMk = false) := by
 obtain ⟨⟨mv, mo, moves, calls, nc, vs, spare, h1, h2, h3, h4, h5, h6, h7⟩, h8, h9⟩ := id h0.mac
 have B77 := h1.1
 have hlen := h0.len
 have hX := Ext.refl (MW c0.G) w
 refine Zfm (args := [_]) Tryz.func28 rfl rfl ?_
 refine Zs (Za ?_)
 refine Zc (Zs (Za ?_))
 refine Zc (ZC (Zs (Zm ?_)))
 refine Zb (Zg rfl) (Zb (Zf f_79_1 rfl) (Zb (Zi p_75 rfl B77 rfl) (Zb (Z1 JJ rfl) (Zm ?_))))
 refine Zc (ZO (Xt (S := Nat × Bool × Cfg S) [0, 3, 9, 10] (fun ⟨i, some_, c⟩ => [(Zpt b77), .bool some_, .int .i64 (vs.length : Nat), .int .i64 (i : Nat)]) (fun ⟨i, some_, c⟩ A => (Ext (MW c0.G) w A) ∧ (RunI Y Tryz.prog Inv μ b77 nb c A ∧ (∀ j, j < w.heap.size → c.G j = c0.G j) ∧ c.ps.length = c0.ps.length ∧ (some_ = true → μ c.ps c.s < μ c0.ps c0.s) ∧ (some_ = false → c.ps = c0.ps ∧ c.s = c0.s ∧ ∀ (j : Nat) (pre ok : S → Bool) (st : S → S) (nx : S → Xv S), j < i → c0.ps[j]? = some (Xv.mk pre ok st nx) → ok c0.s = false))) (fun ⟨i, some_, c⟩ => vs.length - i) (0, false, c0) ⟨rfl, rfl, rfl, rfl, trivial⟩ ⟨hX, ⟨h0, fun _ _ => rfl, rfl, fun h => absurd h (by simp), fun _ => ⟨rfl, rfl, fun j _ _ _ _ h => absurd h (by omega)⟩⟩⟩ ?_))
 rintro τ0 ⟨i, some_, c⟩ A0 ⟨hX, I0⟩
 obtain ⟨hR, hT, hpl, hs1, hs2⟩ := I0
 refine Zs (Zb (Xj rfl rfl) (Zc (ZC ?_)))
 refine ZE rfl (fun hc0 => ?_) (fun hc0 => ?_)
 ·have hlt : i < vs.length := by have := of_decide_eq_true hc0; omega
  refine ZF (ZC (ZO (Zs (Zm (Za ?_)))))
  refine Zc (ZC (Zs (Zm ?_)))
  refine Zw zE rfl (full_mk hS hR) ?_; intro v14 w1 E1 R1
  replace hX := hX.tr E1
  subst R1
  replace hR := hR.non E1
  refine Zc (Xu rfl (ZF (Zs (Zm (Zm ?_)))))
  have hXs := hX.size
  refine ZI zE rfl (turn_mk hS hR (i : Nat)) ?_; intro v17 w2 E2 hR17
  obtain ⟨c2, r, rfl, R2, hT17, hpl2, r1, r2⟩ := hR17
  replace hX := hX.mw E2 hT
  have hT2 : ∀ j, j < w.heap.size → c2.G j = c0.G j := fun j hj => (hT17 j (Zlt hj hXs)).trans (hT j hj)
  refine Zc ?_
  refine ZE rfl (fun hc2 => ?_) (fun hc2 => ?_)
  ·refine ZJ (Za ?_)
   refine Zc (ZJ (Zb (ZX rfl rfl (by omega)) (Zm ?_)))
   refine Zc ?_
   exact ⟨rfl, (i + 1, true, c2), ⟨rfl, rfl, rfl, rfl, trivial⟩, ⟨hX, ⟨R2, hT2, hpl2.trans hpl, fun _ => by cases some_ with | false => obtain ⟨e1, e2, _⟩ := hs2 rfl; rw [← e1, ← e2]; exact r2 hc2 | true => exact Nat.lt_trans (r2 hc2) (hs1 rfl), fun h => absurd h (by simp)⟩⟩, by show vs.length - (i + 1) < vs.length - i; omega⟩
  ·refine ZF (ZJ (Zb (ZX rfl rfl (by omega)) (Zm ?_)))
   refine Zc ?_
   exact ⟨rfl, (i + 1, some_, c2), ⟨rfl, rfl, rfl, rfl, trivial⟩, ⟨hX, ⟨R2, hT2, hpl2.trans hpl, fun h => by obtain ⟨e1, e2, _⟩ := r1 hc2; rw [e1, e2]; exact hs1 h, fun h => by
      obtain ⟨e1, e2, e3⟩ := r1 hc2; obtain ⟨f1, f2, f3⟩ := hs2 h
      refine ⟨e1.trans f1, e2.trans f2, fun j pre ok st nx hj hp => ?_⟩
      by_cases hji : j = i
      ·subst hji; rw [← f2]; exact e3 pre ok st nx (by omega) (by rw [Int.toNat_natCast, f1]; exact hp)
      ·exact f3 j pre ok st nx (by omega) hp⟩⟩, by show vs.length - (i + 1) < vs.length - i; omega⟩
 ·have hge : vs.length ≤ i := by have := of_decide_eq_false hc0; omega
  refine XL ?_
  refine Zs (Zm (Za ?_))
  refine Zc (ZB ?_)
  exact ⟨_, ZD (Zh rfl), hX, ⟨c, some_, rfl, hR, hT, hpl, hs1, fun h => by
    obtain ⟨f1, f2, f3⟩ := hs2 h
    exact not_ok hS h0.inv fun j pre ok st nx hp => f3 j pre ok st nx (by have := (List.getElem?_eq_some_iff.1 hp).1; omega) hp⟩⟩
set_option maxHeartbeats 1600000 in
theorem run_w (w : World) {S : Type} {Y : Sys S} {Inv : List (Xv S) → S → Prop} {μ : List (Xv S) → S → Nat} (hS : Sched Inv μ) {G : Tg} {ps : List (Xv S)} {s : S} {vs : List Value} {tv pv : Value} {picks : List Int} (hTh : Sl Non w tv 1 (vs.map eV)) (hne : vs ≠ []) (hvp : vs.length = ps.length) (hst : ∀ (i : Nat) p v, ps[i]? = some p → vs[i]? = some v → Jt Y Tryz.prog i p G w v) (hM : Y.SM G w s) (hInv : Inv ps s) (hbd : μ ps s ≤ 65536) (hlen : ps.length ≤ 1000) (hP : Sl (fun i => ¬ G i = 0) w pv 1 (picks.map eI)) (hpn : picks.length ≤ 100000) : FnM Tryz.prog (MW G) 8 #[pv, tv] w fun u w' => ∃ (c : Cfg S) (mv : Value) (calls : Int), u = .agg #[mv, .int .i64 calls, .int .i64 0] ∧ Y.SM c.G w' c.s ∧ Inv c.ps c.s ∧ c.ps.any Xv.isMk = false ∧ (∀ j, j < w.heap.size → c.G j = G j) ∧ c.ps.length = ps.length ∧ mv.oneCell' = true := by
 obtain ⟨pa, pc, rfl⟩ : ∃ pa pc, pv = .slice pa picks.length pc := by obtain ⟨a, c, e1, _⟩ := hP.ex; exact ⟨a, c, by rw [e1, List.length_map]⟩
 have hXn := Ext.refl Non w
 have hX := Ext.refl (MW G) w
 refine Zfm (args := [_, _]) Tryz.func8 rfl rfl ?_
 refine Zs (ZT z_44 ?_); intro b4 w1 hb4 E1 B4
 have hq4 := Zq hX hb4
 have hl4 := Zl hX hb4
 replace hX := hX.tr E1
 replace hXn := hXn.tr E1
 refine Zc (W_scope (Zs (Zm ?_)))
 have hXn0 := hXn.size; have hB4w := B4.lt
 refine Zw zE rfl (clone_p w1 (vs.map eV) (hTh.ext hXn (fun _ h => h)) (fun r hr u hu => by
   obtain ⟨v, hv, rfl⟩ := List.mem_map.1 hr
   obtain rfl : u = v := by simpa [eV] using hu
   obtain ⟨i, hi, rfl⟩ := List.getElem_of_mem hv
   exact (hst i _ _ (List.getElem?_eq_getElem (by omega)) (List.getElem?_eq_getElem hi)).val.2.2.1) (by rw [List.length_map]; omega)) ?_; intro v9 w2 E2 R2
 replace hX := hX.tr E2
 replace B4 := Zx B4 E2
 replace hXn := hXn.tr E2
 obtain ⟨oo, hCl, hoo⟩ := R2
 obtain ⟨nb, spare, rfl, Nx⟩ : ∃ nb spare, oo = some nb ∧ Ow w2 v9 nb 1 (vs.map eV) spare := by
  rcases hCl with ⟨_, h2, _⟩ | ⟨b, sp, h1, h2⟩
  ·exact absurd h2 (by simpa using hne)
  ·exact ⟨b, sp, h1, h2⟩
 obtain ⟨nc, rfl⟩ : ∃ nc, v9 = .slice (some ⟨nb, 0, none⟩) vs.length nc := by
  obtain ⟨⟨c, e1, e2⟩, _⟩ := id Nx
  exact ⟨c, by rw [e1, List.length_map]⟩
 have hnb := hoo nb rfl
 have hnbl := Nx.box.lt
 refine Zb (Z2 b_79 rfl rfl (cs := [XV, .int .i64 0, .int .i64 0, .slice (some ⟨nb, 0, none⟩) vs.length nc]) rfl) ?_
 refine ZY rfl ?_; intro b11 w3 hb11 E3 B11
 have hn4_11 := Zn B4 hb11
 have hq11 := Zq hX hb11
 replace hX := hX.tr E3
 replace B4 := Zx B4 E3
 replace hXn := hXn.tr E3
 replace Nx := Nx.ext E3 id
 obtain ⟨G1, hG1o, hG1n⟩ : ∃ G1 : Tg, (∀ j, j < w.heap.size → G1 j = G j) ∧ ∀ j, w.heap.size ≤ j → G1 j = if j = b4 then 9 else 8 := ⟨gx G w.heap.size fun j => if j = b4 then 9 else 8, fun j hj => Xf hj, fun j hj => Xd hj⟩
 have hR : RunI Y Tryz.prog Inv μ b11 nb ⟨G1, ps, s, 0⟩ w3 := ⟨⟨⟨XV, none, [], 0, nc, vs, spare, ⟨B11, (hG1n _ hq11).trans (if_neg (by omega))⟩, OwO.nil, fun j h => absurd h (by simp), rfl, Nx, hvp, fun i p v hp hv => (hst i p v hp hv).same (ZV.of_non hXn hG1o)⟩, (hG1n _ (Zle hXn0 hnb)).trans (if_neg (by omega)), by omega⟩, Y.same hM (ZV.of_non hXn hG1o), hInv, by show 0 + μ ps s ≤ 65536; omega, hlen⟩
 refine Za ?_
 refine Zc (ZC (Zs (Zm ?_)))
 refine Zb (Z1 Xe rfl) (Zm ?_)
 refine Zc (ZO (Xt (S := Nat × Cfg S) [4, 5, 12, 13, 14] (fun ⟨i, c⟩ => [(Zpt b4), (Zpt b11), .slice pa picks.length pc, .int .i64 (picks.length : Nat), .int .i64 (i : Nat)]) (fun ⟨i, c⟩ A => (Ext (MW G) w A) ∧ (Zj A b4 [.slice none 0 0, .int .i64 0, .int .i64 0]) ∧ (Xo (MW G) w b4) ∧ (i ≤ picks.length ∧ RunI Y Tryz.prog Inv μ b11 nb c A ∧ (∀ j, j < w.heap.size → c.G j = G j) ∧ c.ps.length = ps.length ∧ c.G b4 = 9)) (fun ⟨i, c⟩ => picks.length - i) (0, ⟨G1, ps, s, 0⟩) ⟨rfl, rfl, rfl, rfl, rfl, trivial⟩ ⟨hX, B4, hl4, ⟨Nat.zero_le _, hR, hG1o, rfl, (hG1n _ hq4).trans (if_pos rfl)⟩⟩ ?_))
 rintro τ0 ⟨i, c⟩ A0 ⟨hX, B4, hl4, I0⟩
 obtain ⟨hip, hR, hT, hpl, h9⟩ := I0
 refine Zs (Zb (Xj rfl rfl) (Zc (ZC ?_)))
 refine ZE rfl (fun hc0 => ?_) (fun hc0 => ?_)
 ·have hlt : i < picks.length := by have := of_decide_eq_true hc0; omega
  obtain ⟨p, hp⟩ : ∃ p, picks[i]? = some p := ⟨_, List.getElem?_eq_getElem hlt⟩
  obtain ⟨pb, po, rfl⟩ := hP.base (fun h => by have h2 := congrArg List.length h; rw [List.length_map, List.length_nil] at h2; omega)
  refine ZF (ZC (ZO (Zs (Zb (ZH Xe rfl rfl (by omega)) ?_))))
  refine Zb (Xb p_3 rfl ((hP.ext hX (fun i hi => mw0 hi)).at0 (show (picks.map eI)[((i : Nat) : Int).toNat]? = some (eI p) from by rw [Int.toNat_natCast, List.getElem?_map, hp]; rfl) rfl)) ?_
  refine Za ?_
  refine Zc (ZC (Zs (Zm ?_)))
  refine Zw zE rfl (full_mk hS hR) ?_; intro v19 w4 E4 R4
  replace hX := hX.tr E4
  replace B4 := Zx B4 E4
  subst R4
  replace hR := hR.non E4
  refine Zc (Xu rfl (ZF (ZJ (Zm (Zm ?_)))))
  have hXs := hX.size
  have hB4l := B4.lt
  refine ZI zE rfl (turn_mk hS hR p) ?_; intro v22 w5 E5 hRR5
  obtain ⟨c2, r, rfl, R2, hT17, hpl2, r1, r2⟩ := hRR5
  replace B4 := B4.ext E5 (mw9 h9)
  have h92 : c2.G b4 = 9 := (hT17 b4 hB4l).trans h9
  replace hX := hX.mw E5 hT
  have hT2 : ∀ j, j < w.heap.size → c2.G j = G j := fun j hj => (hT17 j (Zlt hj hXs)).trans (hT j hj)
  refine Zc (ZJ (Zb (ZX rfl rfl (by omega)) (Zm ?_)))
  refine Zc ?_
  exact ⟨rfl, (i + 1, c2), ⟨rfl, rfl, rfl, rfl, rfl, trivial⟩, ⟨hX, B4, hl4, ⟨hlt, R2, hT2, hpl2.trans hpl, h92⟩⟩, by show picks.length - (i + 1) < picks.length - i; omega⟩
 ·refine XL ?_
  refine ZC (W_label (ZC (ZO (Xt (S := Cfg S) [4, 5] (fun c => [(Zpt b4), (Zpt b11)]) (fun c A => (Ext (MW G) w A) ∧ (Zj A b4 [.slice none 0 0, .int .i64 0, .int .i64 0]) ∧ (Xo (MW G) w b4) ∧ (RunI Y Tryz.prog Inv μ b11 nb c A ∧ (∀ j, j < w.heap.size → c.G j = G j) ∧ c.ps.length = ps.length ∧ c.G b4 = 9)) (fun c => μ c.ps c.s) c ⟨rfl, rfl, trivial⟩ ⟨hX, B4, hl4, ⟨hR, hT, hpl, h9⟩⟩ ?_))))
  rintro τ1 c A1 ⟨hX, B4, hl4, hI1⟩
  obtain ⟨hR, hT, hpl, h9⟩ := hI1
  refine ZC (Zs (Zm ?_))
  refine Zw zE rfl (left_mk hR) ?_; intro v25 w6 E6 R6
  replace hX := hX.tr E6
  replace B4 := Zx B4 E6
  subst R6
  replace hR := hR.non E6
  refine Zc ?_
  refine ZE rfl (fun hc2 => ?_) (fun hc2 => ?_)
  ·refine ZF (ZO (ZO (ZC (Zs (Zm ?_)))))
   refine Zw zE rfl (full_mk hS hR) ?_; intro v28 w7 E7 R7
   replace hX := hX.tr E7
   replace B4 := Zx B4 E7
   subst R7
   replace hR := hR.non E7
   refine Za ?_
   refine Zc (Xu rfl (ZJ (Zm ?_)))
   have hXs := hX.size
   have hB4l := B4.lt
   refine ZI zE rfl (round_w w7 hS c hR) ?_; intro v30 w8 E8 hRR8
   obtain ⟨c2, r, rfl, R2, hT17, hpl2, r1, r2⟩ := hRR8
   replace B4 := B4.ext E8 (mw9 h9)
   have h92 : c2.G b4 = 9 := (hT17 b4 hB4l).trans h9
   replace hX := hX.mw E8 hT
   have hT2 : ∀ j, j < w.heap.size → c2.G j = G j := fun j hj => (hT17 j (Zlt hj hXs)).trans (hT j hj)
   refine Zb (Xy rfl) (Za ?_)
   refine Zc ?_
   refine ZE rfl (fun hc4 => ?_) (fun hc4 => ?_)
   ·rw [r2 (by simpa using hc4)] at hc2; cases hc2
   ·refine ZF ?_
    exact ⟨rfl, c2, ⟨rfl, rfl, trivial⟩, ⟨hX, B4, hl4, ⟨R2, hT2, hpl2.trans hpl, h92⟩⟩, by show μ c2.ps c2.s < μ c.ps c.s; exact r1 (by simpa using hc4)⟩
  ·obtain ⟨⟨mv, mo, moves, calls, nc2, vs2, spare2, hBm, hMo, _⟩, _, _⟩ := id hR.mac
   have B11 := hBm.1; have hmv1 := hMo.one2.1
   refine XL ?_
   refine Zs (Zm ?_)
   refine Zb (Zg rfl) (Zb (Zf f_79_0 rfl) (Zb (XC s_44 (vs := [mv, .int .i64 calls, .int .i64 0]) rfl rfl (B11.part rfl Zbl)) (ZS s_44 rfl rfl rfl (JY hmv1 rfl rfl) B4 rfl ?_))); intro w9 E9 B4 hz9
   replace hX := hX.mine E9 hl4
   have hSM : Y.SM c.G w9 c.s := Y.same hR.sm (G' := c.G) (w' := w9) ⟨E9.mono fun j hj ht => by rw [hj, h9] at ht; unfold Cor at ht; omega, fun _ _ => rfl⟩
   refine Zc (ZB ?_)
   exact ⟨_, ZD (Xn s_44 rfl B4 rfl), hX, ⟨c, mv, calls, rfl, hSM, hR.inv, hc2, hT, hpl, hmv1⟩⟩
def toZ (r : List Value) : Bool := match r[14]? with | some (Value.int _ n) => decide (n = 0) | _ => false
theorem enc_len15 (q : Z4) : q.enc.length = 15 := rfl
theorem map_eR (l : List (List Value)) : l.map eR = l := List.map_id _
theorem any_toZ (cs : List Z4) : (cs.map Z4.enc).any toZ = cs.any fun q => decide (q.to_ = 0) := by rw [List.any_map]; rfl
theorem calls_w (w : World) {b77 : Nat} {lv mv : Value} {lnow : Int} {o : Option Nat} (cs : List Z4) (B77 : Zj w b77 [lv, .int .i64 lnow, mv]) (hO : OwO w lv o 15 (cs.map Z4.enc)) (hn : cs.length ≤ 100000) : Fn Tryz.prog 48 #[(Zpt b77)] w fun u w' => ∃ u1 oo, u = .tuple #[u1, .bool (!cs.any fun q => decide (q.to_ = 0))] ∧ OwO w' u1 oo 15 (cs.map Z4.enc) ∧ ∀ i, oo = some i → w.heap.size ≤ i := by
 obtain ⟨la, lc, rfl⟩ := id hO.len
 have hXn := Ext.refl Non w
 have hX := Ext.refl Non w
 refine Zfw (args := [_]) Tryz.func48 rfl rfl ?_
 refine Zs (Za (Za ?_))
 refine Zc (ZC (Zs (Zm ?_)))
 refine Zb (Z9 (by kernel_rfl) rfl rfl) (Zc (Xu rfl (ZF (ZC (Qq mixed ?_))))); intro w1 E1
 replace hX := hX.tr E1
 replace B77 := Zx B77 E1
 replace hXn := hXn.tr E1
 have hS := Ext.refl Non w1
 refine Zd 0 rfl hS Zy ?_
 refine Zd 1 rfl hS (Zr (Zg rfl)) (Zd 2 rfl hS (Zr (Zf Jd rfl)) (Zd 3 rfl hS (Zv p_53 rfl B77 rfl) (Zd 5 rfl hS Zy ?_)))
 refine Zd 6 rfl hS (Zr (Zg rfl)) (Zd 7 rfl hS (Zr (Zf Jd rfl)) (Zd 8 rfl hS (Zv p_53 rfl B77 rfl) ?_))
 have hXs : w.heap.size ≤ (World.heap w1).size := (hXn.trans hS).size
 refine Zp 4 rfl (ZK ?_)
 refine Zw zE rfl (clone_c w1 (cs.map Z4.enc) ((hO.sl (M := Non) (fun _ _ => id)).ext (hXn.trans hS) (fun _ h => h)) (fun r hr u hu => by
   obtain ⟨q, _, rfl⟩ := List.mem_map.1 hr
   exact Z4.one q u hu) (by rw [List.length_map]; omega)) ?_; intro v10 w2 E2 R2
 replace hS := hS.tr E2
 obtain ⟨oo, hC, hoo⟩ := R2
 refine Zc ⟨hS, ?_⟩
 refine Zp 9 rfl (ZK ?_)
 refine Zw zE rfl (cont_calls w2 (cs.map Z4.enc) (by rw [map_eR]; exact (hO.sl (M := Non) (fun _ _ => id)).ext (hXn.trans hS) (fun _ h => h)) (fun x hx => by
   obtain ⟨q, _, rfl⟩ := List.mem_map.1 hx
   exact enc_len15 q) toZ zE (fun A x hA hx => by
   obtain ⟨q, _, rfl⟩ := List.mem_map.1 hx
   exact calls1_ok A q)) ?_; intro v15 w3 E3 R3
 replace hS := hS.tr E3
 replace hC := hC.ext E3 (fun _ _ h => h)
 subst R3
 refine Zc ⟨hS, ?_⟩
 refine Zd 10 rfl hS (Zr (Xy rfl)) (Zd 11 rfl hS (ZG fun A hA => Xm (by conv => lhs; whnf)) ?_)
 refine Zd 12 rfl hS (ZG fun A hA => Xm (by conv => lhs; whnf)) ?_
 refine Xw (by kernel_rfl) ?_ _
 replace hX := hX.tr hS
 replace B77 := Zx B77 hS
 replace hXn := hXn.tr hS
 refine ZB ?_
 exact ⟨_, Qd (Zh rfl) (Zh rfl), hX, ⟨v10, oo, congrArg (fun b => Value.tuple #[v10, .bool (!b)]) (any_toZ cs), hC, fun i hi => Zle hXs (hoo i hi)⟩⟩
end Go.Proofs.YtjklgohpminefaaGreatDoorC
