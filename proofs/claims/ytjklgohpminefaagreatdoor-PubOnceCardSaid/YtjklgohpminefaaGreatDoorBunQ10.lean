/- The stripe of a text, of a filter, of a topic; the lock of a queue. -/
import Derived.Test.YtjklgohpminefaaGreatDoorBunQ9
import Derived.Test.YtjklgohpminefaaGreatDoorBunQ6
import Derived.Test.YtjklgohpminefaaGreatDoorBunQ3
import Derived.Test.YtjklgohpminefaaGreatDoorBunQ4
import Derived.Test.YtjklgohpminefaaGreatDoorBunQ5

set_option linter.unusedVariables false
set_option linter.unusedSimpArgs false
set_option maxRecDepth 1000000
namespace Go.Proofs.YtjklgohpminefaaGreatDoorC
open Go.RowKit
def bsum (l : Str) : Nat := (l.map UInt8.toNat).sum
theorem bsum_take {l : Str} {i : Nat} {x : UInt8} (h : l[i]? = some x) : bsum (l.take (i + 1)) = bsum (l.take i) + x.toNat := by
 rw [List.take_add_one, h]; simp [bsum]
theorem bsum_le (l : Str) : bsum l ≤ 255 * l.length := by
 induction l with
 | nil => simp [bsum]
 | cons x l ih => have := UInt8.toNat_lt x; simp only [bsum, List.map_cons, List.sum_cons, List.length_cons] at *; omega
def QI (s : Str) : Nat := bsum (Xk 47 s) % 4
def Xr (n : Int) : Int := if n < 1 ∨ n > 8 then -1 else 3 + n
set_option maxHeartbeats 800000 in
theorem of16_ok (w : World) (s : Str) (hn : s.length ≤ 1000000) : Fn Tryz.prog 65 #[Sv s] w fun u w' => u = .int .i64 (QI s : Nat) := by
 have hpl := pre1_le 47 s
 have hbs := fun i => bsum_le ((Xk 47 s).take i)
 have hX := Ext.refl Non w
 refine Zfw (args := [_]) Tryz.func65 rfl rfl ?_
 refine Zs (Za ?_)
 refine Zc (Zs (Zm ?_))
 refine Zw zE rfl (cut_ok w s 47 hn) ?_; intro v11 w1 E1 R1
 replace hX := hX.tr E1
 subst R1
 refine Zm ?_
 refine Zb (ZM rfl rfl) (Zb (ZM rfl rfl) (Zb (ZM rfl rfl) (Za (Za (Za ?_)))))
 refine Zc (Zs (Za ?_))
 refine Zc (ZC (Zs (Zm ?_)))
 refine wl_bytes Qj sl_58 ui_5 rfl (by omega) ?_; intro v16 w16 E16 hBs
 replace hX := hX.tr E16
 obtain ⟨a16, c16, hv16, _⟩ := hBs.len; rw [List.length_map] at hv16; subst hv16
 refine Zb (Z1 sl_58 rfl) (Zm ?_)
 refine Zc (ZO (Xt (S := Nat) [6, 16, 17, 18] (fun i => [.int .i64 (bsum ((Xk 47 s).take i) : Nat), .slice a16 (Xk 47 s).length c16, .int .i64 ((Xk 47 s).length : Nat), .int .i64 (i : Nat)]) (fun i A => (Ext Non w A) ∧ (Ext Non w16 A ∧ i ≤ (Xk 47 s).length)) (fun i => (Xk 47 s).length - i) 0 ⟨rfl, rfl, rfl, rfl, trivial⟩ ⟨hX, ⟨Ext.refl _ _, Nat.zero_le _⟩⟩ ?_))
 rintro τ0 i A0 ⟨hX, I0⟩
 obtain ⟨hV, hil⟩ := I0
 refine Zs (Zb (Xj rfl rfl) (Zc (ZC ?_)))
 refine ZE rfl (fun hc0 => ?_) (fun hc0 => ?_)
 ·have hlt := of_decide_eq_true hc0; simp only [Int.ofNat_lt] at hlt
  obtain ⟨x, hi⟩ : ∃ x, (Xk 47 s)[i]? = some x := ⟨_, List.getElem?_eq_getElem hlt⟩
  obtain ⟨b, o, ea⟩ := hBs.base (by intro e; have := congrArg List.length e; simp only [List.length_map, List.length_nil] at this; omega); subst ea
  have hbt := bsum_take hi
  have hbi := hbs i
  have hx8 := UInt8.toNat_lt x
  simp only [List.length_take] at hbi
  refine ZF (ZC (ZO (Zs (Zb (ZH sl_58 rfl rfl (by omega)) (Zb (Xb p_5 rfl ((hBs.ext hV (fun _ h => h)).at0 (eB8_at hi) rfl)) (Za ?_))))))
  refine Zc (ZJ (Zm (Zm ?_)))
  refine Zb (XH ui_5 JF rfl (QE (by omega))) (Zb (ZX rfl rfl (by omega)) (Za ?_))
  refine Zc (ZJ (Zb (ZX rfl rfl (by omega)) (Zm ?_)))
  refine Zc ?_
  exact ⟨rfl, i + 1, ⟨(congrArg (Value.int .i64) (show ((bsum ((Xk 47 s).take i) : Nat) : Int) + ((x.toNat : Nat) : Int) = ((bsum ((Xk 47 s).take (i + 1)) : Nat) : Int) by rw [hbt]; omega)), rfl, rfl, rfl, trivial⟩, ⟨hX, ⟨hV, hlt⟩⟩, by omega⟩
 ·have hge := of_decide_eq_false hc0; simp only [Int.ofNat_lt, Nat.not_lt] at hge
  have hie : i = (Xk 47 s).length := by omega
  subst hie
  have hbi := hbs (Xk 47 s).length
  rw [List.take_length] at hbi
  refine XL ?_
  refine Zs (Zm ?_)
  refine Zb (rn_rem (a := bsum ((Xk 47 s).take (Xk 47 s).length)) (b := 4) rfl rfl (by decide) (by rw [List.take_length]; omega)) ?_
  refine Za ?_
  refine Zc (ZB ?_)
  exact ⟨_, ZD (Zh rfl), hX, by rw [List.take_length]; rfl⟩
theorem queue_ok (w : World) (n : Int) : Fn Tryz.prog 139 #[.int .i64 n] w fun u w' => u = .int .i64 (Xr n) := by
 have hX := Ext.refl Non w
 refine Zfw (args := [_]) Tryz.func139 rfl rfl ?_
 refine Zs (Za ?_)
 refine Zc (ZC (Zs (Zm ?_)))
 refine Zb (Xj rfl rfl) (Zm ?_)
 refine Z3 (d := 5) rfl (fun hg5 => ?_) (fun hg5 => ?_)
 ·have hq : Xr n = -1 := by unfold Xr; rw [if_pos (.inl (of_decide_eq_true hg5))]
  refine ZU rfl (Zcb hg5) (ZU rfl (Zcb hg5) (Zb (Z8 (Zcb hg5) (by conv => lhs; whnf)) ?_))
  refine Zc (Qr rfl (Zs (Za ?_)))
  refine Zc (ZB ?_)
  exact ⟨_, ZD (Zh rfl), hX, by rw [hq]; rfl⟩
 ·have hq1 := of_decide_eq_false hg5
  refine Zu rfl (Zcb hg5) (Zm ?_)
  refine Zu rfl (Zcb hg5) (Zb (Ja rfl rfl) (Zb (ZQ (Zcb hg5) (by conv => lhs; whnf)) ?_))
  refine Zc ?_
  refine ZE rfl (fun hc0 => ?_) (fun hc0 => ?_)
  ·have hq : Xr n = -1 := by unfold Xr; rw [if_pos (.inr (of_decide_eq_true hc0))]
   refine Zs (Za ?_)
   refine Zc (ZB ?_)
   exact ⟨_, ZD (Zh rfl), hX, by rw [hq]; rfl⟩
  ·have hq2 := of_decide_eq_false hc0
   have hq : Xr n = 3 + n := by unfold Xr; rw [if_neg (by omega)]
   refine ZF (Zs (Zm ?_))
   refine Zb (ZX rfl rfl (by omega)) (Za ?_)
   refine Zc (ZB ?_)
   exact ⟨_, ZD (Zh rfl), hX, by rw [hq]; rfl⟩
theorem four1 {a b c d : Value} (h1 : a.oneCell' = true) (h2 : b.oneCell' = true) (h3 : c.oneCell' = true) (h4 : d.oneCell' = true) : ∀ x ∈ [a, b, c, d], x.oneCell' = true := by intro x hx; simp only [List.mem_cons, List.not_mem_nil, or_false] at hx; rcases hx with rfl | rfl | rfl | rfl <;> assumption
theorem up_node : (match Tryz.prog.underlying 101 with | some (.pointer ..) => true | _ => false) = true := by kernel_rfl
theorem own_nil (w : World)  : Fn Tryz.prog 198 #[.pointer none] w fun u w' => u = .agg #[.slice none 0 0, .slice none 0 0, .slice none 0 0, .slice none 0 0] := by
 have hX := Ext.refl Non w
 refine Zfw (args := [_]) Tryz.func198 rfl rfl ?_
 refine Zs (ZT z_263 ?_); intro b2 w1 hb2 E1 B2
 have hq2 := Zq hX hb2
 have hl2 := Zl hX hb2
 replace hX := hX.tr E1
 refine Zc (ZC (Zs (Zm ?_)))
 refine Zb (Z9 up_node rfl rfl) (Zc ?_)
 refine ZE rfl (fun hc0 => ?_) (fun hc0 => ?_)
 ·refine Zs (Zb (Z2 b_263 rfl rfl (cs := [.slice none 0 0, .slice none 0 0, .slice none 0 0, .slice none 0 0]) rfl) ?_)
  refine ZS s_263 rfl rfl rfl (four1 rfl rfl rfl rfl) B2 rfl ?_; intro w2 E2 B2 hz2
  replace hX := hX.mine E2 hl2
  refine Zc (ZB ?_)
  exact ⟨_, ZD (Xn s_263 rfl B2 rfl), hX, rfl⟩
 ·exact absurd hc0 (by simp)
theorem own_box (w : World) (b : Nat) (q1 q2 q3 q4 : Option Addr) (n1 n2 n3 n4 c1 c2 c3 c4 : Nat) (hBn : Zj w b [.slice q1 n1 c1, .slice q2 n2 c2, .slice q3 n3 c3, .slice q4 n4 c4]) : Fn Tryz.prog 198 #[.pointer (some ⟨b, 0, none⟩)] w fun u w' => u = .agg #[.slice q1 n1 c1, .slice q2 n2 c2, .slice q3 n3 c3, .slice q4 n4 c4] := by
 have hX := Ext.refl Non w
 refine Zfw (args := [_]) Tryz.func198 rfl rfl ?_
 refine Zs (ZT z_263 ?_); intro b2 w1 hb2 E1 B2
 have hq2 := Zq hX hb2
 have hl2 := Zl hX hb2
 replace hX := hX.tr E1
 refine Zc (ZC (Zs (Zm ?_)))
 refine Zb (Z9 up_node rfl rfl) (Zc ?_)
 refine ZE rfl (fun hc0 => ?_) (fun hc0 => ?_)
 ·exact absurd hc0 (by simp)
 ·refine ZF (Zs (Zm ?_))
  refine Zb (Zg rfl) (Zb (ZR s_263 rfl rfl (hBn.ext hX id)) (ZS s_263 rfl rfl rfl (four1 rfl rfl rfl rfl) B2 rfl ?_)); intro w2 E2 B2 hz2
  replace hX := hX.mine E2 hl2
  refine Zc (ZB ?_)
  exact ⟨_, ZD (Xn s_263 rfl B2 rfl), hX, rfl⟩
theorem own_ok (w : World) (t : Tr) {v : Value} {M : Nat → Prop} (ht : TrM M w t v) : Fn Tryz.prog 198 #[v] w fun u w' => ∃ cs : List Value, u = .agg cs.toArray ∧ NdC M w' t cs := by
 rcases ht.cells with ⟨rfl, rfl⟩ | ⟨b, cs, rfl, hb, hBn, hN⟩
 ·exact (own_nil w).mono fun u w' _ hu => ⟨_, hu, NdC.bare⟩
 ·obtain ⟨q1, n1, c1, q2, n2, c2, q3, n3, c3, q4, n4, c4, rfl⟩ := hN.shape
  exact (own_box w b q1 q2 q3 q4 n1 n2 n3 n4 c1 c2 c3 c4 hBn).mono fun u w' hE hu => ⟨_, hu, hN.ext hE (fun _ h => h.elim)⟩
theorem kid_tr {M : Nat → Prop} {w : World} {t : Tr} {n m : Nat} (hok : t.Ok n m) {l : Str} {ps : List Value} {z : Value} (hlp : ps.length = t.vals.length) (hk : ∀ (i : Nat) (k : Tr) (p : Value), t.vals[i]? = some k → ps[i]? = some p → TrM M w k p) (h1 : XP ltS t.keys l = true → (ps.map fun p => [p])[lb ltS t.keys l]? = some [z]) (h2 : XP ltS t.keys l = false → z = .pointer none) : TrM M w (t.kid l) z := by
 unfold Tr.kid
 by_cases ha : XP ltS t.keys l = true
 ·rw [if_pos ha]
  have hlt := X3 ha
  have hv : t.vals[lb ltS t.keys l]? = some (t.vals[lb ltS t.keys l]'(by rw [hok.len]; exact hlt)) := List.getElem?_eq_getElem _
  rw [hv]
  have h3 := h1 ha
  rw [List.getElem?_map, Option.map_eq_some_iff] at h3
  obtain ⟨p, h4, h5⟩ := h3
  cases h5
  exact hk _ _ _ hv h4
 ·rw [if_neg ha, h2 (by simpa using ha)]; exact .nil
theorem Jl (w : World) (t : Tr) {v : Value} (M : Nat → Prop) (hM : ∀ i, M i → i < w.heap.size) (ht : TrM M w t v) {n m : Nat} (hok : t.Ok n m) (hn : n ≤ 1000000) (l : Str) : Fn Tryz.prog 134 #[v, Sv l] w fun u w' => TrM M w' (t.kid l) u := by
 have hX := Ext.refl Non w
 refine Zfw (args := [_, _]) Tryz.func134 rfl rfl ?_
 refine Zs (Za ?_)
 refine Zc (Zs (Zm ?_))
 refine Zw zE rfl (own_ok w t (ht.ext hX (fun _ h => h.elim))) ?_; intro v9 w1 E1 R1
 replace hX := hX.tr E1
 obtain ⟨cs, rfl, hN⟩ := R1; obtain ⟨q1, n1, c1, q2, n2, c2, q3, n3, c3, q4, n4, c4, us, ps, rfl, hm1, hm2, hlp, hk⟩ := hN.parts
 refine Zb (rn_fieldS f_263_1 s_261 (vs := [_, _]) rfl rfl) (Zm ?_)
 refine Zw zE rfl (mget_sn w1 t.keys (ps.map fun p => [p]) l (hm2.sub (fun _ h _ => h.elim)) hok.k (by have := hok.kl; omega)) ?_; intro v12 w2 E2 R2
 replace hX := hX.tr E2
 replace hm2 := hm2.ext E2 (fun _ h => h.elim)
 replace hk := fun i k p x y => (hk i k p x y).ext E2 (fun _ h => h.elim)
 obtain ⟨z, rfl, hz1, hz2⟩ := R2
 refine Zm ?_
 refine Zb (ZM rfl rfl) (Zb (ZM rfl rfl) (Za (Za ?_)))
 refine Zc (Zs (Zm (Za ?_)))
 refine Zc (ZB ?_)
 exact ⟨_, ZD (Zh rfl), hX, kid_tr hok hlp hk hz1 hz2⟩
theorem JM (w : World) (t : Tr) {v : Value} (M : Nat → Prop) (ht : TrM M w t v) : Fn Tryz.prog 135 #[v] w fun u w' => Qa M w' u t.subs := by
 have hX := Ext.refl Non w
 refine Zfw (args := [_]) Tryz.func135 rfl rfl ?_
 refine Zs (ZT z_152 ?_); intro b2 w1 hb2 E1 B2
 have hq2 := Zq hX hb2
 have hl2 := Zl hX hb2
 replace hX := hX.tr E1
 refine Zc (Zs (Zm ?_))
 refine Zw zE rfl (own_ok w1 t ((ht.sub (M' := fun i => M i ∨ i = b2) (fun i h hlt => by rcases h with h | h; exact h; omega)).ext hX (fun _ h => h.elim))) ?_; intro v4 w2 E2 R2
 replace hX := hX.tr E2
 replace B2 := Zx B2 E2
 obtain ⟨cs, rfl, hN⟩ := R2; obtain ⟨q1, n1, c1, q2, n2, c2, q3, n3, c3, q4, n4, c4, us, ps, rfl, hm1, hm2, hlp, hk⟩ := hN.parts
 refine Zb (rn_fieldS f_263_0 XE (vs := [_, _]) rfl rfl) ?_
 have Bo := B2
 refine ZS XE rfl rfl rfl (Qc rfl rfl) B2 rfl ?_; intro w3 E3 B2 hz3
 replace hX := hX.mine E3 hl2
 replace hm1 := hm1.ext E3 (fun i e => .inr e)
 refine Zc (ZB ?_)
 exact ⟨_, ZD (Xn XE rfl B2 rfl), hX, ⟨_, _, us, rfl, hm1.sub (fun i h _ => .inl h)⟩⟩
theorem nwith_ok (w : World) (t : Tr) {v : Value} (M : Nat → Prop) (hM : ∀ i, M i → i < w.heap.size) (ht : TrM M w t v) {n m : Nat} (hok : t.Ok n m) (hn : n ≤ 1000000) (sub : Int) : Fn Tryz.prog 162 #[v, .int .i64 sub] w fun u w' => TrM M w' (t.put [] sub) u := by
 have hX := Ext.refl Non w
 refine Zfw (args := [_, _]) Tryz.func162 rfl rfl ?_
 refine Zs (Za ?_)
 refine Zc (Zs (Zm ?_))
 refine Zw zE rfl (own_ok w t (ht.ext hX (fun _ h => h.elim))) ?_; intro v7 w1 E1 R1
 replace hX := hX.tr E1
 obtain ⟨cs, rfl, hN⟩ := R1; obtain ⟨q1, n1, c1, q2, n2, c2, q3, n3, c3, q4, n4, c4, us, ps, rfl, hm1, hm2, hlp, hk⟩ := (hN.sub (M' := fun i => M i ∨ (World.heap w1).size ≤ i) (fun i h hlt => h.resolve_right (by omega))).parts
 refine ZT z_263 ?_; intro b5 w2 hb5 E2 B5
 have hq5 := Zq hX hb5
 have hl5 := Zl hX hb5
 replace hX := hX.tr E2
 replace hm1 := hm1.ext E2 (fun _ h => h.elim)
 replace hm2 := hm2.ext E2 (fun _ h => h.elim)
 replace hk := fun i k p x y => (hk i k p x y).ext E2 (fun _ h => h.elim)
 have Bo := B5
 refine ZS s_263 rfl rfl rfl (four1 rfl rfl rfl rfl) B5 rfl ?_; intro w3 E3 B5 hz3
 replace hX := hX.mine E3 hl5
 replace hm1 := hm1.ext E3 (fun i e => by rw [e]; exact .inr hb5)
 replace hm2 := hm2.ext E3 (fun i e => by rw [e]; exact .inr hb5)
 replace hk := fun i k p x y => (hk i k p x y).ext E3 (fun i e => by rw [e]; exact .inr hb5)
 refine Zc (Zs (Zb (Zf f_263_0 rfl) (Zb (XC XE (vs := [_, _]) rfl rfl (B5.part rfl Zbl)) (Zm ?_))))
 have hzO := B5.lt; have hs11 := hX.size
 refine Zw zE rfl (with_ok w3 t.subs ⟨_, _, us, rfl, hm1.sub (M' := Non) (fun _ h _ => h.elim)⟩ sub hok.s (by have := hok.sl; omega)) ?_; intro v11 w4 E4 R4
 replace hX := hX.tr E4
 replace B5 := Zx B5 E4
 replace hm1 := hm1.ext E4 (fun _ h => h.elim)
 replace hm2 := hm2.ext E4 (fun _ h => h.elim)
 replace hk := fun i k p x y => (hk i k p x y).ext E4 (fun _ h => h.elim)
 obtain ⟨x1, x2, us2, rfl, hM11⟩ := R4; obtain ⟨a1, l1, g1, rfl⟩ := id hM11.keys.shape; obtain ⟨a2, l2, g2, rfl⟩ := id hM11.vals.shape
 refine Zb (Zf f_263_0 rfl) ?_
 have Bo := B5
 refine J4 (b := b5) XE rfl rfl rfl (Qc rfl rfl) B5 Zbl ?_; intro w5 E5 B5 hz5
 replace hX := hX.mine E5 hl5
 replace hm1 := hm1.ext E5 (fun i e => by rw [e]; exact .inr hb5)
 replace hm2 := hm2.ext E5 (fun i e => by rw [e]; exact .inr hb5)
 replace hk := fun i k p x y => (hk i k p x y).ext E5 (fun i e => by rw [e]; exact .inr hb5)
 replace hM11 := hM11.ext E5 (fun i e => by unfold Old; omega)
 refine Zc (Zs (Za ?_))
 refine Zc (ZB ?_)
 exact ⟨_, ZD (Zh rfl), hX, (show NdC M _ (.node (XS ltI t.subs sub) t.keys t.vals) _ from ⟨_, _, _, _, ps, us2, rfl, hM11.sub (fun i h _ => Zlt (hM i h) hs11), hm2.sub (fun i h _ => .inl h), hlp, fun i k p x y => (hk i k p x y).sub (fun i h _ => .inl h)⟩).tree (fun h => by have := hM _ h; omega) B5⟩
theorem nbare_no (w : World) (t : Tr) {v : Value} (M : Nat → Prop) (hM : ∀ i, M i → i < w.heap.size) (ht : TrM M w t v) {n m : Nat} (hok : t.Ok n m) (hn : n ≤ 1000000) (hne : t.subs = [] → t.keys ≠ []) : Fn Tryz.prog 275 #[v] w fun u w' => u = .bool false := by
 have hX := Ext.refl Non w
 refine Zfw (args := [_]) Tryz.func275 rfl rfl ?_
 refine Zs (Za ?_)
 refine Zc (Zs (Zm ?_))
 refine Zw zE rfl (own_ok w t (ht.ext hX (fun _ h => h.elim))) ?_; intro v5 w1 E1 R1
 replace hX := hX.tr E1
 obtain ⟨cs, rfl, hN⟩ := R1; obtain ⟨q1, n1, c1, q2, n2, c2, q3, n3, c3, q4, n4, c4, us, ps, rfl, hm1, hm2, hlp, hk⟩ := (hN.sub (M' := fun i => M i ∨ (World.heap w1).size ≤ i) (fun i h hlt => h.resolve_right (by omega))).parts
 refine ZT z_263 ?_; intro b3 w2 hb3 E2 B3
 have hq3 := Zq hX hb3
 have hl3 := Zl hX hb3
 replace hX := hX.tr E2
 replace hm1 := hm1.ext E2 (fun _ h => h.elim)
 replace hm2 := hm2.ext E2 (fun _ h => h.elim)
 replace hk := fun i k p x y => (hk i k p x y).ext E2 (fun _ h => h.elim)
 have Bo := B3
 refine ZS s_263 rfl rfl rfl (four1 rfl rfl rfl rfl) B3 rfl ?_; intro w3 E3 B3 hz3
 replace hX := hX.mine E3 hl3
 replace hm1 := hm1.ext E3 (fun i e => by rw [e]; exact .inr hb3)
 replace hm2 := hm2.ext E3 (fun i e => by rw [e]; exact .inr hb3)
 replace hk := fun i k p x y => (hk i k p x y).ext E3 (fun i e => by rw [e]; exact .inr hb3)
 refine Zc (Zs (Zb (Zf f_263_0 rfl) (Zb (XC XE (vs := [_, _]) rfl rfl (B3.part rfl Zbl)) (Zw zE rfl (len_ok w3 t.subs ⟨_, _, us, rfl, hm1.sub (M' := Non) (fun _ h _ => h.elim)⟩ (by have := hok.sl; omega)) ?_)))); intro v8 w4 E4 R4
 replace hX := hX.tr E4
 replace B3 := Zx B3 E4
 replace hm1 := hm1.ext E4 (fun _ h => h.elim)
 replace hm2 := hm2.ext E4 (fun _ h => h.elim)
 replace hk := fun i k p x y => (hk i k p x y).ext E4 (fun _ h => h.elim)
 subst R4
 refine Zb (Xc rfl rfl) (Zm ?_)
 refine Z3 (d := 10) rfl (fun hg10 => ?_) (fun hg10 => ?_)
 ·refine Zu rfl (Zcb hg10) (Zb (Zf f_263_1 rfl) (Zu rfl (Zcb hg10) (Zb (XC s_261 (vs := [_, _]) rfl rfl (B3.part rfl Zbl)) (Zu rfl (Zcb hg10) (Zw zE rfl (mlen_sn w4 t.keys (ps.map fun p => [p]) (hm2.sub (M' := Non) (fun _ h _ => h.elim)) (by have := hok.kl; omega)) ?_))))); intro v13 w5 E5 R5
  replace hX := hX.tr E5
  replace B3 := Zx B3 E5
  replace hm1 := hm1.ext E5 (fun _ h => h.elim)
  replace hm2 := hm2.ext E5 (fun _ h => h.elim)
  replace hk := fun i k p x y => (hk i k p x y).ext E5 (fun _ h => h.elim)
  subst R5
  refine Zu rfl (Zcb hg10) (Zb (Xc rfl rfl) (Zb (Z8 (Zcb hg10) (by conv => lhs; whnf)) ?_))
  refine Za ?_
  refine Zc (ZB ?_)
  exact ⟨_, ZD (Zh rfl), hX, (by have h1 := of_decide_eq_true hg10; simp only [Int.natCast_eq_zero] at h1; exact congrArg Value.bool (decide_eq_false (by have := hne (List.length_eq_zero_iff.1 h1); rw [Int.natCast_eq_zero]; exact fun e => this (List.length_eq_zero_iff.1 e))))⟩
 ·refine ZU rfl (Zcb hg10) (ZU rfl (Zcb hg10) (ZU rfl (Zcb hg10) (ZU rfl (Zcb hg10) (Zb (ZQ (Zcb hg10) (by conv => lhs; whnf)) ?_))))
  refine Za ?_
  refine Zc (ZB ?_)
  exact ⟨_, ZD (Zh rfl), hX, rfl⟩
theorem nwithkid_ok (w : World) (t : Tr) {v : Value} (M : Nat → Prop) (hM : ∀ i, M i → i < w.heap.size) (ht : TrM M w t v) {n m : Nat} (hok : t.Ok n m) (hn : n ≤ 1000000) (l : Str) (k : Tr) {vk : Value} (hkt : TrM M w k vk) {n' m' : Nat} (hokk : k.Ok n' m') (hnk : n' ≤ 1000000) (hne : k.subs = [] → k.keys ≠ []) : Fn Tryz.prog 230 #[v, Sv l, vk] w fun u w' => TrM M w' (.node t.subs (XS ltS t.keys l) (putW ltS t.keys l t.vals k)) u := by
 have hX := Ext.refl Non w
 refine Zfw (args := [_, _, _]) Tryz.func230 rfl rfl ?_
 refine Zs (Za ?_)
 refine Zc (Zs (Zm ?_))
 refine Zw zE rfl (own_ok w t (ht.ext hX (fun _ h => h.elim))) ?_; intro v9 w1 E1 R1
 replace hX := hX.tr E1
 obtain ⟨cs, rfl, hN⟩ := R1; obtain ⟨q1, n1, c1, q2, n2, c2, q3, n3, c3, q4, n4, c4, us, ps, rfl, hm1, hm2, hlp, hk⟩ := (hN.sub (M' := fun i => M i ∨ (World.heap w1).size ≤ i) (fun i h hlt => h.resolve_right (by omega))).parts
 refine ZT z_263 ?_; intro b7 w2 hb7 E2 B7
 have hq7 := Zq hX hb7
 have hl7 := Zl hX hb7
 replace hX := hX.tr E2
 replace hm1 := hm1.ext E2 (fun _ h => h.elim)
 replace hm2 := hm2.ext E2 (fun _ h => h.elim)
 replace hk := fun i k p x y => (hk i k p x y).ext E2 (fun _ h => h.elim)
 have Bo := B7
 refine ZS s_263 rfl rfl rfl (four1 rfl rfl rfl rfl) B7 rfl ?_; intro w3 E3 B7 hz3
 replace hX := hX.mine E3 hl7
 replace hm1 := hm1.ext E3 (fun i e => by rw [e]; exact .inr hb7)
 replace hm2 := hm2.ext E3 (fun i e => by rw [e]; exact .inr hb7)
 replace hk := fun i k p x y => (hk i k p x y).ext E3 (fun i e => by rw [e]; exact .inr hb7)
 refine Zc (ZC (Zs (Zm ?_)))
 refine Zw zE rfl (nbare_no w3 k M (fun i h => Zlt (hM i h) hX.size) (hkt.ext hX (fun _ h => h.elim)) hokk hnk hne) ?_; intro v11 w4 E4 R4
 replace hX := hX.tr E4
 replace B7 := Zx B7 E4
 replace hm1 := hm1.ext E4 (fun _ h => h.elim)
 replace hm2 := hm2.ext E4 (fun _ h => h.elim)
 replace hk := fun i k p x y => (hk i k p x y).ext E4 (fun _ h => h.elim)
 subst R4
 refine Zc (Xu rfl (ZJ (Zb (Zf f_263_1 rfl) (Zb (XC s_261 (vs := [_, _]) rfl rfl (B7.part rfl Zbl)) (Zm (Zm ?_))))))
 have hzO := B7.lt; have hs21 := hX.size
 refine Zw zE rfl (mput_sn w4 t.keys (ps.map fun p => [p]) l (hm2.sub (M' := Non) (fun _ h _ => h.elim)) hok.k (by have := hok.kl; omega) (by intro r hr u hu; obtain ⟨p, hp, rfl⟩ := List.mem_map.1 hr; simp only [List.mem_singleton] at hu; subst hu; obtain ⟨i, hi⟩ := List.getElem?_of_mem hp; have hil := (List.getElem?_eq_some_iff.1 hi).1; exact (hk i _ u (List.getElem?_eq_getElem (by omega)) hi).one.1) vk hkt.one.1 hkt.one.2) ?_; intro v21 w5 E5 R5
 replace hX := hX.tr E5
 replace B7 := Zx B7 E5
 replace hm1 := hm1.ext E5 (fun _ h => h.elim)
 replace hm2 := hm2.ext E5 (fun _ h => h.elim)
 replace hk := fun i k p x y => (hk i k p x y).ext E5 (fun _ h => h.elim)
 obtain ⟨x1, x2, rfl, hM21⟩ := R5; obtain ⟨a1, l1, g1, rfl⟩ := id hM21.keys.shape; obtain ⟨a2, l2, g2, rfl⟩ := id hM21.vals.shape
 refine Zb (Zf f_263_1 rfl) ?_
 have Bo := B7
 refine J4 (b := b7) s_261 rfl rfl rfl (Qc rfl rfl) B7 Zbl ?_; intro w6 E6 B7 hz6
 replace hX := hX.mine E6 hl7
 replace hm1 := hm1.ext E6 (fun i e => by rw [e]; exact .inr hb7)
 replace hm2 := hm2.ext E6 (fun i e => by rw [e]; exact .inr hb7)
 replace hk := fun i k p x y => (hk i k p x y).ext E6 (fun i e => by rw [e]; exact .inr hb7)
 replace hM21 := hM21.ext E6 (fun i e => by unfold Old; omega)
 refine Zc (Zs (Za ?_))
 refine Zc (ZB ?_)
 have hlp2 : ps.length = t.keys.length := by rw [hlp, hok.len]
 exact ⟨_, ZD (Zh rfl), hX, (show NdC M _ (.node t.subs (XS ltS t.keys l) (putW ltS t.keys l t.vals k)) _ from ⟨_, _, _, _, putW ltS t.keys l ps vk, us, rfl, hm1.sub (fun i h _ => .inl h), by rw [← putW_map]; exact hM21.sub (fun i h _ => Zlt (hM i h) hs21), (putW_len hlp2).trans (putW_len hok.len).symm, putW_tr hok.len hlp2 (fun i k' p x y => (hk i k' p x y).sub (fun i h _ => .inl h)) (hkt.ext hX (fun _ h => h.elim))⟩).tree (fun h => by have := hM _ h; omega) B7⟩
theorem putK_ne {κ : Type} [DecidableEq κ] {lt : κ → κ → Bool} (l : List κ) (x : κ) : XS lt l x ≠ [] := by
 unfold XS
 split
 ·rename_i h; have := X3 h; intro e; rw [e] at this; simp at this
 ·simp
theorem put_ne (s : Int) (ls : List Str) (t : Tr) : (t.put ls s).subs = [] → (t.put ls s).keys ≠ [] := by
 cases ls with
 | nil => intro h; exact absurd h (putK_ne _ _)
 | cons l ls => intro _; exact putK_ne _ _
section
variable {P : Program}
structure Ts (M : Nat → Prop) (w0 W : World) (J : (Nat → Prop) → World → Prop) (S : Nat → Prop) (A : World) : Prop where
 stab : Z6 W.heap.size J
 beg : Ext M w0 W
 ex : ∃ N, (∀ i, N i → W.heap.size ≤ i ∧ i < A.heap.size) ∧ W.heap.size ≤ A.heap.size ∧ J N A ∧ ∀ b, S b → N b
 w0 : Ext M w0 A
variable {M F : Nat → Prop} {w0 W A B : World} {J : (Nat → Prop) → World → Prop} {S S' : Nat → Prop} {bs : List Nat}
theorem Ts.less (h : Ts M w0 W J S A) (hb : ∀ b, S' b → S b) : Ts M w0 W J S' A :=
 ⟨h.stab, h.beg, by obtain ⟨N, h1, h2, h3, h4⟩ := h.ex; exact ⟨N, h1, h2, h3, fun b hb' => h4 b (hb b hb')⟩, h.w0⟩
theorem Ts.add (h : Ts M w0 W J S A) (hE : Ext F A B) (hF : ∀ i, F i → S i) : Ts M w0 W J (fun i => S i ∨ (A.heap.size ≤ i ∧ i < B.heap.size)) B := by
 obtain ⟨N, h1, h2, h3, h4⟩ := h.ex
 have hE' : Ext N A B := hE.mono fun i hi => h4 i (hF i hi)
 refine ⟨h.stab, h.beg, ⟨grow N A B, ?_, Zle h2 hE.size, h.stab N A B (fun i hi => (h1 i hi).1) h2 h3 hE', ?_⟩, ?_⟩
 ·rintro i (hi | ⟨ha, hb⟩)
  ·exact ⟨(h1 i hi).1, Zlt (h1 i hi).2 hE.size⟩
  ·exact ⟨Zle h2 ha, hb⟩
 ·rintro b (hb | hb)
  ·exact .inl (h4 b hb)
  ·exact .inr hb
 ·have hz := h.beg.size
  exact ⟨hE.os.trans h.w0.os, hE.tape.trans h.w0.tape, hE.output.trans h.w0.output, Zle h.w0.size hE.size, fun i hi hm => (hE.block i (Zlt hi h.w0.size) (fun hf => by have := (h1 i (h4 i (hF i hf))).1; omega)).trans (h.w0.block i hi hm)⟩
theorem Ts.ext (h : Ts M w0 W J S A) (hE : Ext F A B) (hF : ∀ i, F i → S i) : Ts M w0 W J S B := (h.add hE hF).less fun _ h => .inl h
theorem Ts.stabS {n0 : Nat} (M : Nat → Prop) (w0 W : World) (J : (Nat → Prop) → World → Prop) (S0 : Nat → Prop) : Z6 n0 (fun N A => Ts M w0 W J (fun i => S0 i ∨ N i) A) := fun N A B hN hA h hE =>
 (h.add hE fun i hi => .inr hi).less fun i hi => by
  rcases hi with hi | hi | hi
  ·exact .inl (.inl hi)
  ·exact .inl (.inr hi)
  ·exact .inr hi
abbrev Al (W A : World) : Nat → Prop := fun i => W.heap.size ≤ i ∧ i < A.heap.size
theorem Ts.allT (h : Ts M w0 W J (Al W A) A) (hE : Ext Non A B) : Ts M w0 W J (Al W B) B := (h.add hE fun _ h => h.elim).less fun i hi => by
 rcases Nat.lt_or_ge i A.heap.size with h' | h'
 ·exact .inl ⟨hi.1, h'⟩
 ·exact .inr ⟨h', hi.2⟩
theorem Ts.allM {b : Nat} (h : Ts M w0 W J (Al W A) A) (hE : Ext (fun i => i = b) A B) (hb : W.heap.size ≤ b) (hb2 : b < A.heap.size) : Ts M w0 W J (Al W B) B := (h.add hE fun i hi => by rw [hi]; exact ⟨hb, hb2⟩).less fun i hi => by
 rcases Nat.lt_or_ge i A.heap.size with h' | h'
 ·exact .inl ⟨hi.1, h'⟩
 ·exact .inr ⟨h', hi.2⟩
theorem Ts.all0 (h : Ts M w0 W J Non W) : Ts M w0 W J (Al W W) W := h.less fun i hi => absurd hi.2 (by have := hi.1; omega)
abbrev Ys (M : Nat → Prop) (w0 : World) (S : Nat → Prop) : Nat → Prop := fun i => ¬ S i ∧ (M i ∨ w0.heap.size ≤ i)
def Yl {α : Type} (P : Program) (M : Nat → Prop) (w0 W : World) (l : Nat) (encs : α → Array Value) (xs : List α) (J : List α → (Nat → Prop) → World → Prop) (Jx : (Nat → Prop) → World → Prop) : Prop :=
 ∀ pre x post S A, xs = pre ++ x :: post → Ts M w0 W (J pre) S A → YieldOk P l (encs x) A fun b B => Ext (Ys M w0 S) A B ∧ (b = true → Ts M w0 W (J (pre ++ [x])) S B) ∧ (b = false → Ts M w0 W Jx S B)
theorem iter_ofS {α : Type} {encs : α → Array Value} {xs : List α} {f : FuncId} {cap : Array Value} (hf : Xa P f = true)
  (h : ∀ (l : Nat) (W : World) (J : List α → (Nat → Prop) → World → Prop) (Jx : (Nat → Prop) → World → Prop), Ext M w0 W → Ts M w0 W (J []) Non W → Yl P M w0 W l encs xs J Jx →
   Calls P f (#[.func (.yield l) #[] #[]] ++ cap) W fun e W' => ∃ v, e = .returned v ∧ (Ts M w0 W (J xs) Non W' ∨ Ts M w0 W Jx Non W')) : J2 P M w0 (.func (.func f) #[] cap) encs xs := by
 refine ⟨f, cap, rfl, hf, fun l W J Jx hW hJ hJx hY h0 => ?_⟩
 refine Calls.mono (h l W J Jx hW ⟨hJ [], hW, ⟨Non, fun _ h => h.elim, Nat.le_refl _, h0, fun _ h => h⟩, hW⟩ ?_) ?_
 ·intro pre x post S A hx hT
  obtain ⟨N, h1, h2, h3, h4⟩ := hT.ex
  obtain ⟨fn, tmps, assign, body, hy, hr⟩ := hY N pre x A h1 h2 h3 ⟨post, hx⟩
  refine ⟨fn, tmps, assign, body, hy, hr.mono ?_⟩
  rintro e B ⟨b, he, hE, ht, hf⟩
  have hE' : Ext (Ys M w0 S) A B := hE.mono fun i hi => ⟨fun hb => hi.1 (h4 i hb), hi.2⟩
  have hw : Ext M w0 B := ⟨hE.os.trans hT.w0.os, hE.tape.trans hT.w0.tape, hE.output.trans hT.w0.output, Zle hT.w0.size hE.size, fun i hi hm => (hE.block i (Zlt hi hT.w0.size) (fun h => by rcases h.2 with h | h; exact hm h; omega)).trans (hT.w0.block i hi hm)⟩
  have hN : ∀ i, N i → W.heap.size ≤ i ∧ i < B.heap.size := fun i hi => ⟨(h1 i hi).1, Zlt (h1 i hi).2 hE.size⟩
  exact ⟨b, he, hE', fun hb => ⟨hJ _, hW, ⟨N, hN, Zle h2 hE.size, ht hb, h4⟩, hw⟩, fun hb => ⟨hJx, hW, ⟨N, hN, Zle h2 hE.size, hf hb, h4⟩, hw⟩⟩
 ·rintro e W' ⟨v, he, hT | hT⟩
  ·obtain ⟨N, h1, h2, h3, _⟩ := hT.ex; exact ⟨v, N, he, h2, h1, .inl h3⟩
  ·obtain ⟨N, h1, h2, h3, _⟩ := hT.ex; exact ⟨v, N, he, h2, h1, .inr h3⟩
end
section
variable {ro : Option Nat} {P : Program} {n : Nat} {Q : QH} {σ : Env} {D : List Deferred} {w : World}
def StabE (E0 : Nat → Prop) (n0 : Nat) (J : (Nat → Prop) → World → Prop) : Prop :=
 ∀ N A B, (∀ i, N i → E0 i ∨ n0 ≤ i) → n0 ≤ A.heap.size → J N A → Ext N A B → J (grow N A B) B
def IterE {α : Type} (P : Program) (M : Nat → Prop) (w0 : World) (E0 : Nat → Prop) (fv : Value) (encs : α → Array Value) (xs : List α) : Prop :=
 ∃ f cap, fv = .func (.func f) #[] cap ∧ Xa P f = true ∧
 ∀ (l : Nat) (W : World) (J : List α → (Nat → Prop) → World → Prop) (Jx : (Nat → Prop) → World → Prop), Ext M w0 W → (∀ pre, StabE E0 W.heap.size (J pre)) → StabE E0 W.heap.size Jx →
  (∀ N pre x A, (∀ i, N i → (E0 i ∨ W.heap.size ≤ i) ∧ i < A.heap.size) → (∀ i, E0 i → N i) → W.heap.size ≤ A.heap.size → J pre N A → (∃ post, xs = pre ++ x :: post) →
   YieldOk P l (encs x) A fun b B => Ext (Yc M w0 N) A B ∧ (b = true → J (pre ++ [x]) N B) ∧ (b = false → Jx N B)) →
  J [] E0 W →
  Calls P f (#[.func (.yield l) #[] #[]] ++ cap) W fun e W' => ∃ v N, e = .returned v ∧ W.heap.size ≤ W'.heap.size ∧ (∀ i, N i → (E0 i ∨ W.heap.size ≤ i) ∧ i < W'.heap.size) ∧ (∀ i, E0 i → N i) ∧ (J xs N W' ∨ Jx N W')
theorem rf_coreE {E0 : Nat → Prop} {α : Type} {l fn : Nat} {st : Loop} {assign body : Code} {M : Nat → Prop} {w0 : World} {I : List α → (Nat → Prop) → World → Prop} {X : Code → (Nat → Prop) → World → Prop} {n0 : Nat} {E : Nat → Prop} {W1 : World} {σ : Env} {fv : Value} {encs : α → List Value} {xs : List α} {ps : List Nat}
  (hit : IterE P M w0 E0 fv (fun x => (encs x).toArray) xs) (EE : ∀ i, E0 i → E i) (hl0 : w0.heap.size ≤ l) (hE0w : ∀ i, E0 i → i < w0.heap.size) (hE0 : Ext M w0 W1) (hka : okc n assign = true) (hkb : okc n body = true) (hps : ∀ p ∈ ps, p < n) (hlen : ∀ x, (encs x).length = ps.length)
  (hl : W1.heap[l]? = some (.loop st)) (hst : st.state = .ready) (hpe : st.pending = none) (hpa : st.params = ps.toArray) (has : st.assign = assign) (hbo : st.body = body) (hs : Sim n { tmps := st.tmps, defers := [] } σ)
  (El : E l) (hE : ∀ i, E i → n0 ≤ i ∧ i < W1.heap.size) (sI : ∀ pre, Z6 n0 (I pre)) (sX : ∀ c, Z6 n0 (X c)) (h0 : I [] E W1)
  (hround : ∀ N pre x A, N l → (∀ i, N i → n0 ≤ i ∧ i < A.heap.size) → W1.heap.size ≤ A.heap.size → (∃ st, A.heap[l]? = some (.loop st)) → I pre N A → (∃ post, xs = pre ++ x :: post) →
   W (some l) P n assign (Then (fun σ1 D1 A1 => D1 = [] ∧ Ext (Yc M w0 N) A A1 ∧ ∀ A2, Ext (fun i => i = l) A1 A2 → A2.heap.size = A1.heap.size → (∃ st, A2.heap[l]? = some (.loop st)) → W (some l) P n body (RQ M w0 I X N (pre ++ [x]) A2) σ1 [] A2) NoQ) (updN σ ps (encs x)) [] A) :
  ∃ f cap, fv = .func (.func f) #[] cap ∧ Xa P f = true ∧
   Calls P f (#[.func (.yield l) #[] #[]] ++ cap) W1 fun e W' => ∃ v N st', e = .returned v ∧ W1.heap.size ≤ W'.heap.size ∧ (∀ i, N i → n0 ≤ i ∧ i < W'.heap.size) ∧ (∀ i, E i → N i) ∧ W'.heap[l]? = some (.loop st') ∧ st'.state ≠ .busy ∧
    (∀ d, E d → ¬ E0 d → d ≠ l → W'.heap[d]? = W1.heap[d]?) ∧ ((st'.pending = none ∧ I xs N W') ∨ ∃ c, st'.pending = some c ∧ X c N W') := by
 subst has
 subst hbo
 obtain ⟨f, cap, hfv, hf, hcall⟩ := hit
 refine ⟨f, cap, hfv, hf, ?_⟩
 have hlt1 := (Array.getElem?_eq_some_iff.1 hl).1
 have hplus : ∀ N : Nat → Prop, (∀ i, N i → E0 i ∨ W1.heap.size ≤ i) → ∀ i, (N i ∨ E i) → n0 ≤ i := fun N hN i h => by
  rcases h with h | h
  ·rcases hN i h with h | h
   ·exact (hE i (EE i h)).1
   ·have := (hE l El); omega
  ·exact (hE i h).1
 have hE0l : ¬ E0 l := fun h => by have := hE0w l h; omega
 have stab : ∀ (J : (Nat → Prop) → World → Prop) (st' : Loop), Z6 n0 J → StabE E0 W1.heap.size (fun N A => J (fun i => N i ∨ E i) A ∧ A.heap[l]? = some (.loop st') ∧ ∀ d, E d → ¬ E0 d → d ≠ l → A.heap[d]? = W1.heap[d]?) := by
  intro J st' hJ N A B hN hA ⟨h1, h2, h3⟩ hext
  have hnl : ∀ d, E d → ¬ E0 d → ¬ N d := fun d hd h0 h => by rcases hN d h with h | h; exact h0 h; have := (hE d hd).2; omega
  refine ⟨?_, hext.obj h2 (hnl l El hE0l), fun d hd hz hne => ?_⟩
  ·have h4 := hJ (fun i => N i ∨ E i) A B (hplus N hN) (by have := (hE l El); omega) h1 (hext.mono fun i h => .inl h)
   have e : grow (fun i => N i ∨ E i) A B = fun i => grow N A B i ∨ E i := by
    funext i; apply propext; unfold grow
    exact or_right_comm
   rw [← e]; exact h4
  ·have hlt : d < A.heap.size := by have := (hE d hd).2; omega
   rw [hext.block d hlt (hnl d hd hz)]; exact h3 d hd hz hne
 have stab2 : StabE E0 W1.heap.size (fun N A => ∃ c, X c (fun i => N i ∨ E i) A ∧ A.heap[l]? = some (.loop { st with state := .done, pending := some c }) ∧ ∀ d, E d → ¬ E0 d → d ≠ l → A.heap[d]? = W1.heap[d]?) := by
  intro N A B hN hA ⟨c, h⟩ hext
  exact ⟨c, stab (X c) _ (sX c) N A B hN hA h hext⟩
 refine Calls.mono (hcall l W1 (fun pre N A => I pre (fun i => N i ∨ E i) A ∧ A.heap[l]? = some (.loop st) ∧ ∀ d, E d → ¬ E0 d → d ≠ l → A.heap[d]? = W1.heap[d]?)
  (fun N A => ∃ c, X c (fun i => N i ∨ E i) A ∧ A.heap[l]? = some (.loop { st with state := .done, pending := some c }) ∧ ∀ d, E d → ¬ E0 d → d ≠ l → A.heap[d]? = W1.heap[d]?) hE0 (fun pre => stab _ st (sI pre)) stab2 ?_ ⟨?_, hl, fun _ _ _ _ => rfl⟩) ?_
 ·
  rintro N pre x A hN hN0 hA ⟨hi, hlA, hdA⟩ hp
  have hy := run_yield (P := P) (args := (encs x).toArray) hlA (by rw [hpa]; simp [hlen])
  refine ⟨_, _, _, _, hy, ?_⟩
  have hN' : ∀ i, (N i ∨ E i) → n0 ≤ i ∧ i < A.heap.size := fun i h => ⟨hplus N (fun i h => (hN i h).1) i h, by rcases h with h | h; exact (hN i h).2; have := (hE i h).2; omega⟩
  have hr := hround (fun i => N i ∨ E i) pre x A (.inr El) hN' hA ⟨_, hlA⟩ hi hp
  have hsim : Sim n { tmps := ((st.params.zip (encs x).toArray).foldl (fun tmps (x : Nat × Value) => tmps.setIfInBounds x.1 x.2) st.tmps), defers := [] } (updN σ ps (encs x)) := by
   have := sim_params (n := n) ps (encs x) σ st.tmps hs hps
   rw [hpa]; simpa using this
  refine roundIn_of_wpIn trivial ?_
  refine wpIn_mono (hr hka _ hsim rfl) ?_
  rintro e a1 A1 ⟨σ1, hs1, hq⟩
  cases e with
  | normal =>
   obtain ⟨hD1, E1, hbody⟩ := hq
   have hnl : ¬ Yc M w0 (fun i => N i ∨ E i) l := fun h => h.1 (.inr El)
   have hl1 : A1.heap[l]? = some (.loop st) := E1.obj hlA hnl
   have hltA1 := (Array.getElem?_eq_some_iff.1 hl1).1
   refine ⟨_, run_beginRound hl1 hst, ?_⟩
   have E2 : Ext (fun i => i = l) A1 (A1.putObj l (.loop { st with state := .busy })) := Ext.putObj _ _ _ _ rfl
   have hl2 : (A1.putObj l (.loop { st with state := .busy })).heap[l]? = some (.loop { st with state := .busy }) := World.putObj_heap_same hltA1
   have hsz : (A1.putObj l (.loop { st with state := .busy })).heap.size = A1.heap.size := by simp [World.putObj]
   refine wpIn_mono (hbody _ E2 hsz ⟨_, hl2⟩ hkb a1 hs1 hD1) ?_
   have mono1 : ∀ i, Yc M w0 (fun i => N i ∨ E i) i → Yc M w0 N i := fun i h => ⟨fun h' => h.1 (.inl h'), h.2⟩
   have hlY : Yc M w0 N l := ⟨fun h => by rcases (hN l h).1 with h | h; exact hE0l h; omega, .inr hl0⟩
   have fin : ∀ (jump : Option Code) (B0 : World), Ext (Yc M w0 (fun i => N i ∨ E i)) (A1.putObj l (.loop { st with state := .busy })) B0 →
     ∃ B, (Instr.endRound l jump).run P B0 = .ok (.bool jump.isNone) B ∧ Ext (Yc M w0 N) A B ∧ B.heap[l]? = some (.loop { st with state := if jump.isNone then .ready else .done, pending := jump }) ∧
      Ext (fun i => i = l) B0 B ∧ B.heap.size = B0.heap.size ∧ (∀ d, E d → ¬ E0 d → d ≠ l → B.heap[d]? = W1.heap[d]?) := by
    intro jump B0 hB0
    have hl3 : B0.heap[l]? = some (.loop { st with state := .busy }) := hB0.obj hl2 hnl
    have hltB := (Array.getElem?_eq_some_iff.1 hl3).1
    have hend := run_endRound (P := P) jump hl3
    refine ⟨_, hend, ?_, World.putObj_heap_same hltB, Ext.putObj _ _ _ _ rfl, by simp [World.putObj], ?_⟩
    ·exact (((E1.mono mono1).trans (Qf E2 hlY)).trans (hB0.mono mono1)).trans (Qf (Ext.putObj _ _ _ _ rfl) hlY)
    ·intro d hd hz hne
     have hd1 : ¬ Yc M w0 (fun i => N i ∨ E i) d := fun h => h.1 (.inr hd)
     have hdlt : d < A.heap.size := by have := (hE d hd).2; omega
     rw [World.putObj_heap_other hne, hB0.block d (by rw [hsz]; have := E1.size; omega) hd1, World.putObj_heap_other hne, E1.block d hdlt hd1]
     exact hdA d hd hz hne
   have hlN : (fun i => N i ∨ E i) l := .inr El
   rintro e2 a2 B0 ⟨σ2, hs2, hq2⟩
   cases e2 with
   | normal =>
    obtain ⟨hB0, hI⟩ := hq2
    obtain ⟨B, h1, h2, h3, h4, h5, h6⟩ := fin none B0 hB0
    have hst3 : ({ st with state := (if (none : Option Code).isNone then .ready else .done), pending := none } : Loop) = st := by
     cases st; simp only at hst hpe; subst hst; subst hpe; rfl
    rw [hst3] at h3
    exact ⟨_, B, h1, true, rfl, h2, fun _ => ⟨(sI _).same (hplus N fun i h => (hN i h).1) (by have := hE l El; have := hB0.size; rw [hsz] at this; have := E1.size; omega) hI (Qf h4 hlN) h5, h3, h6⟩, fun h => (by cases h)⟩
   | ret =>
    obtain ⟨hB0, hI⟩ := hq2
    obtain ⟨B, h1, h2, h3, h4, h5, h6⟩ := fin (some .ret) B0 hB0
    exact ⟨_, B, h1, false, rfl, h2, fun h => (by cases h), fun _ => ⟨_, (sX _).same (hplus N fun i h => (hN i h).1) (by have := hE l El; have := hB0.size; rw [hsz] at this; have := E1.size; omega) hI (Qf h4 hlN) h5, h3, h6⟩⟩
   | exit id =>
    obtain ⟨hB0, hI⟩ := hq2
    obtain ⟨B, h1, h2, h3, h4, h5, h6⟩ := fin (some (.exit id)) B0 hB0
    exact ⟨_, B, h1, false, rfl, h2, fun h => (by cases h), fun _ => ⟨_, (sX _).same (hplus N fun i h => (hN i h).1) (by have := hE l El; have := hB0.size; rw [hsz] at this; have := E1.size; omega) hI (Qf h4 hlN) h5, h3, h6⟩⟩
   | goto t =>
    obtain ⟨hB0, hI⟩ := hq2
    obtain ⟨B, h1, h2, h3, h4, h5, h6⟩ := fin (some (.goto t)) B0 hB0
    exact ⟨_, B, h1, false, rfl, h2, fun h => (by cases h), fun _ => ⟨_, (sX _).same (hplus N fun i h => (hN i h).1) (by have := hE l El; have := hB0.size; rw [hsz] at this; have := E1.size; omega) hI (Qf h4 hlN) h5, h3, h6⟩⟩
   | panic ch => exact hq2.elim
   | outgrown => exact hq2.elim
  | _ => exact hq.elim
 ·have e : (fun i => E0 i ∨ E i) = E := by funext i; apply propext; exact ⟨fun h => h.elim (EE i) id, .inr⟩
  show I [] (fun i => E0 i ∨ E i) W1
  rw [e]; exact h0
 ·rintro e W' ⟨v, N, he, hsz, hN, hN0, h⟩
  have hN' : ∀ i, (N i ∨ E i) → n0 ≤ i ∧ i < W'.heap.size := fun i h => ⟨hplus N (fun i h => (hN i h).1) i h, by rcases h with h | h; exact (hN i h).2; have := (hE i h).2; omega⟩
  rcases h with ⟨hi, hl', hd'⟩ | ⟨c, hx, hl', hd'⟩
  ·exact ⟨v, _, st, he, hsz, hN', fun i h => .inr h, hl', by rw [hst]; simp, hd', .inl ⟨hpe, hi⟩⟩
  ·exact ⟨v, _, _, he, hsz, hN', fun i h => .inr h, hl', by simp, hd', .inr ⟨c, rfl, hx⟩⟩
def RoundE (n1 : Nat) {α : Type} (P : Program) (n : Nat) (M : Nat → Prop) (w0 w : World) (I : List α → (Nat → Prop) → World → Prop) (X : Code → (Nat → Prop) → World → Prop) (assign body : Code) (σ : Env) (ps : List Nat) (encs : α → List Value) (xs : List α) : Prop :=
 ∀ l N pre x A, N l → (∀ i, N i → n1 ≤ i ∧ i < A.heap.size) → w.heap.size ≤ A.heap.size → (∃ st, A.heap[l]? = some (.loop st)) → I pre N A → (∃ post, xs = pre ++ x :: post) →
  W (some l) P n assign (Then (fun σ1 D1 A1 => D1 = [] ∧ Ext (Yc M w0 N) A A1 ∧ ∀ A2, Ext (fun i => i = l) A1 A2 → A2.heap.size = A1.heap.size → (∃ st, A2.heap[l]? = some (.loop st)) → W (some l) P n body (RQ M w0 I X N (pre ++ [x]) A2) σ1 [] A2) NoQ) (updN σ ps (encs x)) [] A
theorem W_rangeFuncE (n1 : Nat) (E0 : Nat → Prop) {α : Type} {gg : Operand} {assign body : Code} {M : Nat → Prop} {w0 : World} {I : List α → (Nat → Prop) → World → Prop} {X : Code → (Nat → Prop) → World → Prop} {fv : Value} {encs : α → List Value} {xs : List α} {ps : List Nat}
  (hg : ev σ gg = fv) (hit : IterE P M w0 E0 fv (fun x => (encs x).toArray) xs) (hE0 : Ext M w0 w) (hn1 : n1 ≤ w.heap.size) (hEn : ∀ i, E0 i → n1 ≤ i ∧ i < w0.heap.size) (hlen : ∀ x, (encs x).length = ps.length)
  (sI : ∀ pre, Z6 n1 (I pre)) (sX : ∀ c, Z6 n1 (X c)) (h0 : I [] E0 w)
  (hround : RoundE n1 P n M w0 w I X assign body σ ps encs xs)
  (hdone : ∀ N r w', I xs N w' → (∀ i, N i → n1 ≤ i ∧ i < w'.heap.size) → w.heap.size ≤ w'.heap.size → N r → w'.heap[r]? = some (.deferred (some [])) → Q .normal σ (Jc r :: D) w')
  (hstop : ∀ c N r w', X c N w' → (∀ i, N i → n1 ≤ i ∧ i < w'.heap.size) → w.heap.size ≤ w'.heap.size → N r → w'.heap[r]? = some (.deferred (some [])) → W none P n c Q σ (Jc r :: D) w') :
  W none P n (.rangeFunc gg ps.toArray assign body) Q σ D w := by
 intro hk a hs hd
 simp only [okc, Bool.and_eq_true] at hk
 obtain ⟨⟨hka, hkb⟩, hkp⟩ := hk
 have hps : ∀ p ∈ ps, p < n := fun p hp => by simpa using (List.all_eq_true.1 hkp p (by simpa using hp))
 refine wpIn_rangeFunc ?_
 intro fn hfn
 show ∃ l Jc w₁ d w₁' f args w₂, (Instr.enterLoop fn a.tmps ps.toArray assign body none).run P w = _ ∧ _
 obtain ⟨W1, hW1⟩ : ∃ W1, (w.alloc (.deferred (some []))).alloc (.loop { state := .ready, pending := none, fn, tmps := a.tmps, params := ps.toArray, assign, body, defers := w.heap.size }) = W1 := ⟨_, rfl⟩
 have hsz : W1.heap.size = w.heap.size + 2 := by rw [← hW1]; simp
 have hL1 : W1.heap[w.heap.size + 1]? = some (.loop { state := .ready, pending := none, fn, tmps := a.tmps, params := ps.toArray, assign, body, defers := w.heap.size }) := by
  rw [← hW1]; have := World.alloc_heap_new (w.alloc (.deferred (some []))) (.loop { state := .ready, pending := none, fn, tmps := a.tmps, params := ps.toArray, assign, body, defers := w.heap.size }); rwa [World.size_alloc] at this
 have hK1 : W1.heap[w.heap.size]? = some (.deferred (some [])) := by
  rw [← hW1]; exact (Below.heap_alloc _ _ _ (by simp)).trans (World.alloc_heap_new w _)
 have E1 : Ext Non w W1 := by rw [← hW1]; exact (Ext.alloc _ _).trans (Ext.alloc _ _)
 have hgr : ∀ i, grow E0 w W1 i ↔ (E0 i ∨ (w.heap.size ≤ i ∧ i < W1.heap.size)) := fun i => Iff.rfl
 obtain ⟨f, cap, hfv, hf, hcall⟩ := rf_coreE (n := n) (l := w.heap.size + 1) (fn := fn) (W1 := W1) (n0 := n1) (E := grow E0 w W1) (X := XOk n X) (I := I) (σ := σ) hit (fun i h => .inl h) (by have := hE0.size; omega) (fun i h => (hEn i h).2) (hE0.trans E1.of_non) hka hkb hps hlen hL1 rfl rfl rfl rfl rfl
  ⟨hs.size, hs.agree⟩ ((hgr _).2 (.inr (by omega))) (fun i h => by rcases h with h | h; exact ⟨(hEn i h).1, by have := (hEn i h).2; have := hE0.size; have := E1.size; omega⟩; exact ⟨by omega, h.2⟩) sI (XOk.stab sX) (sI [] E0 w W1 (fun i h => (hEn i h).1) hn1 h0 E1.of_non)
  (fun N pre x A hNl hN hA hst hi hp => (hround _ N pre x A hNl hN (by have := E1.size; omega) hst hi hp).mono (by
   intro e σ1 D1 A1 hq
   cases e with
   | normal => exact ⟨hq.1, hq.2.1, fun A2 h1 h2 h3 => (hq.2.2 A2 h1 h2 h3).mono fun e σ D B h => RQ.ok e σ D B h⟩
   | _ => exact hq.elim))
 refine ⟨w.heap.size + 1, [Jc w.heap.size], W1, { target := .fn (.func f) cap, args := #[.func (.yield (w.heap.size + 1)) #[] #[]] }, W1, f, #[.func (.yield (w.heap.size + 1)) #[] #[]] ++ cap, W1, ?_, ?_, fun _ _ => trivial, ?_, (fun h => by cases h), ?_⟩
 ·rw [← hW1]; exact run_enterLoop_outer _ _ _ _ _
 ·have : a.eval gg = .func (.func f) #[] cap := by rw [hs.eval, hg, hfv]
  simp only [resolve, this]; simp [Deferred.ofValue, Act.eval]
 ·simp [invoke, QY hf]
 ·refine callsIn_wide.2 (Calls.mono hcall ?_)
  rintro e W' ⟨v, N, st', he, hsz', hN, hEN, hl', hnb, hkeep, hend⟩
  subst he
  have hr : W'.heap[w.heap.size]? = some (.deferred (some [])) := by rw [hkeep _ ((hgr _).2 (.inr (by omega))) (fun h => by have := (hEn _ h).2; have := hE0.size; omega) (by omega)]; exact hK1
  have E2 : Ext (fun i => i = w.heap.size + 1) W' (W'.putObj (w.heap.size + 1) (.loop { st' with state := .exhausted })) := Ext.putObj _ _ _ _ rfl
  have hs2 : (W'.putObj (w.heap.size + 1) (.loop { st' with state := .exhausted })).heap.size = W'.heap.size := by simp [World.putObj]
  have hNl : N (w.heap.size + 1) := hEN _ ((hgr _).2 (.inr (by omega)))
  have hNr : N w.heap.size := hEN _ ((hgr _).2 (.inr (by omega)))
  have hr2 : (W'.putObj (w.heap.size + 1) (.loop { st' with state := .exhausted })).heap[w.heap.size]? = some (.deferred (some [])) := (World.putObj_heap_other (by omega)).trans hr
  have hend1 := run_endLoop (P := P) hl' (by exact hnb)
  have hle : w.heap.size ≤ W'.heap.size := by omega
  have hle1 : n1 ≤ W'.heap.size := by omega
  obtain ⟨W2, hW2⟩ : ∃ W2, W'.putObj (w.heap.size + 1) (.loop { st' with state := .exhausted }) = W2 := ⟨_, rfl⟩
  rw [hW2] at E2 hs2 hr2 hend1
  refine ⟨st'.pending, W2, hend1, ?_⟩
  rcases hend with ⟨hp, hi⟩ | ⟨c, hp, hkc, hx⟩
  ·rw [hp]
   exact ⟨σ, ⟨hs.size, hs.agree⟩, by rw [hd] ; exact hdone N _ _ ((sI xs).same (fun i h => (hN i h).1) hle1 hi (Qf E2 hNl) hs2) (fun i h => by rw [hs2]; exact hN i h) (by rw [hs2]; exact hle) hNr hr2⟩
  ·rw [hp]
   exact hstop c N _ _ ((sX c).same (fun i h => (hN i h).1) hle1 hx (Qf E2 hNl) hs2) (fun i h => by rw [hs2]; exact hN i h) (by rw [hs2]; exact hle) hNr hr2 hkc { a with defers := Jc w.heap.size :: a.defers } ⟨hs.size, hs.agree⟩ (by rw [hd])
structure Te (M : Nat → Prop) (w0 W : World) (E0 : Nat → Prop) (J : (Nat → Prop) → World → Prop) (S : Nat → Prop) (A : World) : Prop where
 stab : StabE E0 W.heap.size J
 beg : Ext M w0 W
 ex : ∃ N, (∀ i, N i → (E0 i ∨ W.heap.size ≤ i) ∧ i < A.heap.size) ∧ (∀ i, E0 i → N i) ∧ W.heap.size ≤ A.heap.size ∧ J N A ∧ ∀ b, S b → N b
 w0 : Ext (fun i => M i ∨ E0 i) w0 A
variable {M F : Nat → Prop} {w0 W A B : World} {J : (Nat → Prop) → World → Prop} {S S' E0 : Nat → Prop}
theorem Te.ext (h : Te M w0 W E0 J S A) (hE : Ext F A B) (hF : ∀ i, F i → S i) : Te M w0 W E0 J S B := by
 obtain ⟨N, h1, h0, h2, h3, h4⟩ := h.ex
 have hE' : Ext N A B := hE.mono fun i hi => h4 i (hF i hi)
 refine ⟨h.stab, h.beg, ⟨grow N A B, ?_, fun i hi => .inl (h0 i hi), Zle h2 hE.size, h.stab N A B (fun i hi => (h1 i hi).1) h2 h3 hE', fun b hb => .inl (h4 b hb)⟩, ?_⟩
 ·rintro i (hi | ⟨ha, hb⟩)
  ·exact ⟨(h1 i hi).1, Zlt (h1 i hi).2 hE.size⟩
  ·exact ⟨.inr (Zle h2 ha), hb⟩
 ·have hz := h.beg.size
  refine ⟨hE.os.trans h.w0.os, hE.tape.trans h.w0.tape, hE.output.trans h.w0.output, Zle h.w0.size hE.size, fun i hi hm => (hE.block i (Zlt hi h.w0.size) (fun hf => ?_)).trans (h.w0.block i hi hm)⟩
  rcases (h1 i (h4 i (hF i hf))).1 with h | h
  ·exact hm (.inr h)
  ·omega
theorem Te.tr (h : Te M w0 W E0 J S A) (hE : Ext Non A B) : Te M w0 W E0 J S B := h.ext hE fun _ h => h.elim
def Ye {α : Type} (P : Program) (M : Nat → Prop) (w0 W : World) (E0 : Nat → Prop) (l : Nat) (encs : α → Array Value) (xs : List α) (J : List α → (Nat → Prop) → World → Prop) (Jx : (Nat → Prop) → World → Prop) : Prop :=
 ∀ pre x post S A, xs = pre ++ x :: post → Te M w0 W E0 (J pre) S A → YieldOk P l (encs x) A fun b B => Ext (Ys M w0 S) A B ∧ (b = true → Te M w0 W E0 (J (pre ++ [x])) S B) ∧ (b = false → Te M w0 W E0 Jx S B)
theorem iterE_of {α : Type} {encs : α → Array Value} {xs : List α} {f : FuncId} {cap : Array Value} (hf : Xa P f = true) (hE : ∀ i, E0 i → i < w0.heap.size ∧ ¬ M i)
  (h : ∀ (l : Nat) (W : World) (J : List α → (Nat → Prop) → World → Prop) (Jx : (Nat → Prop) → World → Prop), Ext M w0 W → Te M w0 W E0 (J []) E0 W → Ye P M w0 W E0 l encs xs J Jx →
   Calls P f (#[.func (.yield l) #[] #[]] ++ cap) W fun e W' => ∃ v, e = .returned v ∧ (Te M w0 W E0 (J xs) E0 W' ∨ Te M w0 W E0 Jx E0 W')) : IterE P M w0 E0 (.func (.func f) #[] cap) encs xs := by
 refine ⟨f, cap, rfl, hf, fun l W J Jx hW hJ hJx hY h0 => ?_⟩
 have hlt : ∀ i, E0 i → i < W.heap.size := fun i hi => Zlt (hE i hi).1 hW.size
 refine Calls.mono (h l W J Jx hW ⟨hJ [], hW, ⟨E0, fun i hi => ⟨.inl hi, hlt i hi⟩, fun _ h => h, Nat.le_refl _, h0, fun _ h => h⟩, hW.mono fun _ h => .inl h⟩ ?_) ?_
 ·intro pre x post S A hx hT
  obtain ⟨N, h1, h00, h2, h3, h4⟩ := hT.ex
  obtain ⟨fn, tmps, assign, body, hy, hr⟩ := hY N pre x A h1 h00 h2 h3 ⟨post, hx⟩
  refine ⟨fn, tmps, assign, body, hy, hr.mono ?_⟩
  rintro e B ⟨b, he, E1, ht, hf⟩
  have hE' : Ext (Ys M w0 S) A B := E1.mono fun i hi => ⟨fun hb => hi.1 (h4 i hb), hi.2⟩
  have hw : Ext (fun i => M i ∨ E0 i) w0 B := ⟨E1.os.trans hT.w0.os, E1.tape.trans hT.w0.tape, E1.output.trans hT.w0.output, Zle hT.w0.size E1.size, fun i hi hm => (E1.block i (Zlt hi hT.w0.size) (fun h => by rcases h.2 with h | h; exact hm (.inl h); omega)).trans (hT.w0.block i hi hm)⟩
  have hN : ∀ i, N i → (E0 i ∨ W.heap.size ≤ i) ∧ i < B.heap.size := fun i hi => ⟨(h1 i hi).1, Zlt (h1 i hi).2 E1.size⟩
  exact ⟨b, he, hE', fun hb => ⟨hJ _, hW, ⟨N, hN, h00, Zle h2 E1.size, ht hb, h4⟩, hw⟩, fun hb => ⟨hJx, hW, ⟨N, hN, h00, Zle h2 E1.size, hf hb, h4⟩, hw⟩⟩
 ·rintro e W' ⟨v, he, hT | hT⟩
  ·obtain ⟨N, h1, h00, h2, h3, _⟩ := hT.ex; exact ⟨v, N, he, h2, h1, h00, .inl h3⟩
  ·obtain ⟨N, h1, h00, h2, h3, _⟩ := hT.ex; exact ⟨v, N, he, h2, h1, h00, .inr h3⟩
end
def JK (s : Str) : Bool := decide (s ≠ []) && decide (s.length ≤ 32) && decide (¬ (0 : UInt8) ∈ s)
def Q7 (s : Str) : Bool := JK s && decide (¬ (43 : UInt8) ∈ s) && decide (¬ (35 : UInt8) ∈ s)
def JO (last : Bool) (l : Str) : Bool := if (35 : UInt8) ∈ l then decide (l = [35]) && last else decide (¬ (43 : UInt8) ∈ l) || decide (l = [43])
def allIx (f : Nat → Str → Bool) (L : List Str) : Bool := (List.range L.length).all fun i => f i (L.getD i [])
theorem allIx_iff {f : Nat → Str → Bool} {L : List Str} : allIx f L = true ↔ ∀ i l, L[i]? = some l → f i l = true := by
 unfold allIx
 rw [List.all_eq_true]
 constructor
 ·intro h i l hl
  have := h i (List.mem_range.2 (List.getElem?_eq_some_iff.1 hl).1)
  rw [List.getD_eq_getElem?_getD, hl] at this; exact this
 ·intro h i hi
  have hi := List.mem_range.1 hi
  have := h i L[i] (List.getElem?_eq_getElem hi)
  rw [List.getD_eq_getElem?_getD, List.getElem?_eq_getElem hi]; exact this
theorem allIx_no {f : Nat → Str → Bool} {L : List Str} {i : Nat} {l : Str} (hl : L[i]? = some l) (h : f i l = false) : allIx f L = false := by
 cases e : allIx f L with
 | false => rfl
 | true => rw [allIx_iff.1 e i l hl] at h; cases h
def levsOk (L : List Str) : Bool := allIx (fun i l => JO (decide (i + 1 = L.length)) l) L
def XJ (s : Str) : Bool := JK s && levsOk (spl 47 s)
def wildB (s : Str) : Bool := decide (Xk 47 s = [43]) || decide (Xk 47 s = [35])
def Ji (c : UInt8) (s : Str) : Bool := decide (s.head? = some c)
def QG (some : Str → Bool) : List Str → List Str → Bool
 | [], t => t.isEmpty
 | l :: f, t => if l = [35] then true else match t with
  | [] => false
  | x :: t => (decide (l = x) || (decide (l = [43]) && some x)) && QG some f t
def Q1 (f t : Str) : Bool := XJ f && Q7 t && !(wildB f && Ji 36 t) && QG (fun _ => true) (spl 47 f) (spl 47 t)
def okAt (some : Str → Bool) (L T : List Str) (j : Nat) : Prop := ∃ l t, L[j]? = Option.some l ∧ T[j]? = Option.some t ∧ (l = t ∨ (l = [43] ∧ some t = true))
theorem okAt_succ {some : Str → Bool} {l t : Str} {L T : List Str} {j : Nat} : okAt some (l :: L) (t :: T) (j + 1) ↔ okAt some L T j := by
 unfold okAt; simp
theorem Yb (some : Str → Bool) : ∀ (L T : List Str), QG some L T = true ↔
  (∃ k, L[k]? = Option.some [35] ∧ k ≤ T.length ∧ ∀ j, j < k → okAt some L T j) ∨ (L.length = T.length ∧ ∀ j, j < L.length → okAt some L T j)
 | [], T => by
  simp only [QG, List.isEmpty_iff]
  constructor
  ·rintro rfl; exact .inr ⟨rfl, fun j h => absurd h (Nat.not_lt_zero _)⟩
  ·rintro (⟨k, h, _⟩ | ⟨h, _⟩)
   ·simp at h
   ·exact List.length_eq_zero_iff.1 h.symm
 | l :: L, T => by
  unfold QG
  by_cases hl : l = [35]
  ·rw [if_pos hl]
   exact ⟨fun _ => .inl ⟨0, by simp [hl], Nat.zero_le _, fun j h => absurd h (Nat.not_lt_zero _)⟩, fun _ => rfl⟩
  ·rw [if_neg hl]
   cases T with
   | nil =>
    constructor
    ·intro h; cases h
    ·rintro (⟨k, h, hk, _⟩ | ⟨h, _⟩)
     ·obtain rfl : k = 0 := by simpa using hk
      simp at h; exact absurd h hl
     ·simp at h
   | cons t T =>
    have ih := Yb some L T
    simp only [Bool.and_eq_true, Bool.or_eq_true, decide_eq_true_eq, ih]
    have h0 : okAt some (l :: L) (t :: T) 0 ↔ (l = t ∨ (l = [43] ∧ some t = true)) := by unfold okAt; simp
    constructor
    ·rintro ⟨h1, ⟨k, h2, h3, h4⟩ | ⟨h2, h3⟩⟩
     ·refine .inl ⟨k + 1, by simpa using h2, by simpa using h3, fun j hj => ?_⟩
      cases j with
      | zero => exact h0.2 h1
      | succ j => exact okAt_succ.2 (h4 j (by omega))
     ·refine .inr ⟨by simp [h2], fun j hj => ?_⟩
      cases j with
      | zero => exact h0.2 h1
      | succ j => exact okAt_succ.2 (h3 j (by simpa using hj))
    ·rintro (⟨k, h2, h3, h4⟩ | ⟨h2, h3⟩)
     ·cases k with
      | zero => simp at h2; exact absurd h2 hl
      | succ k => exact ⟨h0.1 (h4 0 (by omega)), .inl ⟨k, by simpa using h2, by simpa using h3, fun j hj => okAt_succ.1 (h4 (j + 1) (by omega))⟩⟩
     ·exact ⟨h0.1 (h3 0 (by simp)), .inr ⟨by simpa using h2, fun j hj => okAt_succ.1 (h3 (j + 1) (by simp; omega))⟩⟩
theorem likeB_no {some : Str → Bool} {L T : List Str} {i : Nat} (h : ∀ j : Nat, j ≤ i → L[j]? ≠ Option.some [35]) (hi : i < L.length) (hn : ¬ okAt some L T i) : QG some L T = false := by
 cases e : QG some L T with
 | false => rfl
 | true =>
  rcases (Yb some L T).1 e with ⟨k, h1, h2, h3⟩ | ⟨h1, h2⟩
  ·by_cases hk : k ≤ i
   ·exact absurd h1 (h k hk)
   ·exact absurd (h3 i (by omega)) hn
  ·exact absurd (h2 i hi) hn
theorem likeB_end {some : Str → Bool} {L T : List Str} (h : ∀ j : Nat, L[j]? ≠ Option.some [35]) (hok : ∀ j, j < L.length → okAt some L T j) : QG some L T = decide (L.length = T.length) := by
 by_cases hl : L.length = T.length
 ·rw [decide_eq_true hl]; exact (Yb some L T).2 (.inr ⟨hl, hok⟩)
 ·rw [decide_eq_false hl]
  cases e : QG some L T with
  | false => rfl
  | true =>
   rcases (Yb some L T).1 e with ⟨k, h1, _⟩ | ⟨h1, _⟩
   ·exact absurd h1 (h k)
   ·exact absurd h1 hl
theorem levOk_a {b : Bool} {l : Str} (q : (43 : UInt8) ∈ l) (h : ¬ l = [43]) : JO b l = false := by
 unfold JO; split
 ·have : ¬ l = [35] := fun e => by subst e; simp at q
  simp [this]
 ·simp [q, h]
theorem levOk_b {b : Bool} {l : Str} (q : (35 : UInt8) ∈ l) (h : ¬ l = [35]) : JO b l = false := by
 unfold JO; rw [if_pos q]; simp [h]
theorem levOk_c {b : Bool} {l : Str} (h : l = [35]) : JO b l = b := by subst h; unfold JO; simp
theorem levOk_d {b : Bool} {l : Str} (q : ¬ (35 : UInt8) ∈ l) (h : (43 : UInt8) ∈ l → l = [43]) : JO b l = true := by
 unfold JO; rw [if_neg q]
 by_cases h4 : (43 : UInt8) ∈ l
 ·simp [h h4]
 ·simp [h4]
theorem filter_no {s : Str} {i : Nat} {l : Str} (hi : (spl 47 s)[i]? = some l) (h : JO (decide (i + 1 = (spl 47 s).length)) l = false) : XJ s = false := by
 unfold XJ levsOk; rw [allIx_no hi h]; simp
theorem filter_yes {s : Str} (h0 : JK s = true) (h : ∀ i l, (spl 47 s)[i]? = some l → JO (decide (i + 1 = (spl 47 s).length)) l = true) : XJ s = true := by
 unfold XJ levsOk; rw [h0, allIx_iff.2 h]; rfl
theorem filter_small {s : Str} (h : JK s = false) : XJ s = false := by unfold XJ; rw [h]; rfl
theorem topic_ne {s : Str} (h : Q7 s = true) : ∃ c, s[0]? = some c := by
 unfold Q7 JK at h
 simp only [Bool.and_eq_true, decide_eq_true_eq] at h
 cases s with
 | nil => exact absurd rfl h.1.1.1.1
 | cons c s => exact ⟨c, rfl⟩
theorem headIs_at {s : Str} {c d : UInt8} (h : s[0]? = some c) : Ji d s = decide (c = d) := by
 cases s with
 | nil => cases h
 | cons x s => simp at h; subst h; simp [Ji]
theorem u8_eq {c d : UInt8} (h : (c.toNat : Int) = (d.toNat : Int)) : c = d := UInt8.toNat_inj.1 (by omega)
abbrev anyS : Str → Bool := fun _ => true
theorem match_no1 {f t : Str} (h : XJ f = false) : Q1 f t = false := by unfold Q1; rw [h]; rfl
theorem match_no2 {f t : Str} (h : Q7 t = false) : Q1 f t = false := by unfold Q1; rw [h]; simp
theorem match_no3 {f t : Str} (h : (wildB f && Ji 36 t) = true) : Q1 f t = false := by unfold Q1; rw [h]; simp
theorem match_eq {f t : Str} (h1 : XJ f = true) (h2 : Q7 t = true) (h3 : (wildB f && Ji 36 t) = false) : Q1 f t = QG anyS (spl 47 f) (spl 47 t) := by unfold Q1; rw [h1, h2, h3]; rfl
abbrev Tru : Nat → Prop := fun _ => True
def Jh (L : List Str) : List (Nat × Str) := L.zipIdx.map fun p => (p.2, p.1)
theorem numb_snoc (L : List Str) (x : Str) : Jh (L ++ [x]) = Jh L ++ [(L.length, x)] := by simp [Jh, List.zipIdx_append]
theorem numb_len (L : List Str) : (Jh L).length = L.length := by simp [Jh]
theorem numb_pre {L : List Str} {pre post : List Str} {x : Str} (h : L = pre ++ x :: post) : ∃ q, Jh L = Jh pre ++ (pre.length, x) :: q := by
 subst h
 refine ⟨(post.zipIdx (pre.length + 1)).map fun p => (p.2, p.1), ?_⟩
 simp [Jh, List.zipIdx_append, List.zipIdx_cons]
theorem numb_snd (L : List Str) : (Jh L).map (fun p => p.2) = L := by
 unfold Jh; rw [List.map_map]; have : ((fun p : Nat × Str => p.2) ∘ fun p : Str × Nat => (p.2, p.1)) = Prod.fst := rfl
 rw [this]; simp
theorem numb_get (L : List Str) (j : Nat) : (Jh L)[j]? = L[j]?.map fun x => (j, x) := by
 unfold Jh; rw [List.getElem?_map, List.getElem?_zipIdx]; cases L[j]? <;> simp
theorem numb_take (L : List Str) (n : Nat) : (Jh L).take n = Jh (L.take n) := by
 apply List.ext_getElem?; intro j
 rw [List.getElem?_take, numb_get, numb_get, List.getElem?_take]; split <;> simp
theorem numb_at {L : List Str} {pre post : List (Nat × Str)} {i : Nat} {x : Str} (h : Jh L = pre ++ (i, x) :: post) : i = pre.length ∧ L[i]? = some x ∧ pre = Jh (L.take i) := by
 have h0 : (Jh L)[pre.length]? = some (i, x) := by rw [h]; simp
 rw [numb_get] at h0
 cases hx : L[pre.length]? with
 | none => rw [hx] at h0; cases h0
 | some y =>
  rw [hx] at h0
  simp at h0
  obtain ⟨rfl, rfl⟩ := h0
  refine ⟨rfl, hx, ?_⟩
  have h1 : (Jh L).take pre.length = pre := by rw [h]; simp
  rw [← numb_take]; exact h1.symm
set_option maxHeartbeats 800000 in
theorem splitSeq_iter (s : Str) (M : Nat → Prop) (w0 : World) (b1 b2 b3 : Nat) (hC1 : Zj w0 b1 [Sv [47]]) (hC2 : Zj w0 b2 [Sv s]) (C3 : Zj w0 b3 [.int .i64 0]) (hm1 : ¬ M b1) (hm2 : ¬ M b2) (hm3 : ¬ M b3) (hne1 : b1 ≠ b2) (hne3 : b3 ≠ b2) (hsn : s.length ≤ 1000000) :
  IterE Tryz.prog M w0 (fun i => i = b2) (.func (.func 332) #[] #[(Zpt b1), (Zpt b2), (Zpt b3)]) (fun x : Str => #[Sv x]) (spl 47 s) := by
 refine iterE_of zE (fun i hi => by subst hi; exact ⟨hC2.lt, hm2⟩) fun l W J Jx hW hT hY => ?_
 have hlt1 := hC1.lt; have hlt2 := hC2.lt; have hlt3 := C3.lt
 have ea : (#[Value.func (.yield l) #[] #[]] ++ #[(Zpt b1), (Zpt b2), (Zpt b3)] : Array Value) = [Value.func (.yield l) #[] #[], (Zpt b1), (Zpt b2), (Zpt b3)].toArray := by simp
 rw [ea]
 have hX := Ext.refl Tru W
 have B1 := hC1.ext hW hm1; have B2 := hC2.ext hW hm2; have B3 := C3.ext hW hm3
 have hl1 : Xo Tru W b1 := .inl trivial; have hl2 : Xo Tru W b2 := .inl trivial; have hl3 : Xo Tru W b3 := .inl trivial
 refine Q2 (R := fun v W' => Te M w0 W (fun i => i = b2) (J (spl 47 s)) (fun i => i = b2) W' ∨ Te M w0 W (fun i => i = b2) Jx (fun i => i = b2) W') Tryz.func332 rfl (by kernel_rfl) rfl ?_
 refine ZC (Zs (Zb (Zi p_9 rfl B1 rfl) (Zb (Qe Qj rfl) (Zb (Xc rfl rfl) (Zc ?_)))))
 refine ZE rfl (fun hc0 => ?_) (fun hc0 => ?_)
 ·exact absurd (of_decide_eq_true hc0) (by simp)
 ·refine ZF (ZC (ZO (Xt (S := List Str × Str) [0, 1, 2, 3] (fun ⟨pre, r⟩ => [.func (.yield l) #[] #[], (Zpt b1), (Zpt b2), (Zpt b3)]) (fun ⟨pre, r⟩ A => (Ext Tru W A) ∧ (Zj A b1 [Sv [47]]) ∧ (Zj A b2 [Sv r]) ∧ (Zj A b3 [.int .i64 0]) ∧ (Xo Tru W b1) ∧ (Xo Tru W b2) ∧ (Xo Tru W b3) ∧ (spl 47 s = pre ++ spl 47 r ∧ r.length ≤ s.length ∧ Te M w0 W (fun i => i = b2) (J pre) (fun i => i = b2) A)) (fun ⟨pre, r⟩ => r.length) ([], s) ⟨rfl, rfl, rfl, rfl, trivial⟩ ⟨hX, B1, B2, B3, hl1, hl2, hl3, ⟨rfl, Nat.le_refl _, hT⟩⟩ ?_)))
  rintro τ0 ⟨pre, r⟩ A0 ⟨hX, B1, B2, B3, hl1, hl2, hl3, I0⟩
  obtain ⟨hsp, hrl, hT⟩ := I0
  refine ZO ?_
  refine Zs (Zb (Zi p_9 rfl B2 rfl) (Zb (Zi p_9 rfl B1 rfl) (Zw zE rfl (sindex_ok A0 r 47) ?_))); intro v31 w1 E1 R1
  replace hX := hX.tr E1
  replace B1 := Zx B1 E1; replace B2 := Zx B2 E1; replace B3 := Zx B3 E1
  replace hT := hT.tr E1
  subst R1
  refine Za ?_
  refine Zc (ZC (Zs (Zm ?_)))
  refine Zb (Xj rfl rfl) (Zc ?_)
  refine ZE rfl (fun hc1 => ?_) (fun hc1 => ?_)
  ·have hcm : ¬ (47 : UInt8) ∈ r := fun h => by have := of_decide_eq_true hc1; have := (fi_ge r 47).2 h; omega
   refine XL ?_
   refine ZJ (Zm ?_)
   refine Zb (Zi p_9 rfl B2 rfl) (J3 rfl rfl (hY pre r [] (fun i => i = b2) w1 (by rw [hsp, spl_not hcm]) hT) ?_); intro y51 w2 ⟨E2, hyT, hyF⟩
   refine Zc ?_
   exact ⟨_, rfl, by cases y51; exact .inr (hyF rfl); exact .inl (by rw [hsp, spl_not hcm]; exact hyT rfl)⟩
  ·have hcm : (47 : UInt8) ∈ r := (fi_ge r 47).1 (by have := of_decide_eq_false hc1; omega)
   have hfi := fi_in hcm
   have hplt : (Xk 47 r).length < r.length := (List.getElem?_eq_some_iff.1 (pre1_mem hcm)).1
   refine ZF (Zs (Zb (Zi p_9 rfl B2 rfl) (Zb (Rn.cast (XO rfl) (v' := .int .i64 ((Xk 47 r).length : Nat)) (congrArg (Value.int .i64) hfi)) (Zb (Zi p_3 rfl B3 rfl) (Zb (Rn.cast (ZX rfl rfl (by omega)) (v' := .int .i64 ((Xk 47 r).length : Nat)) (congrArg (Value.int .i64) (Int.add_zero _))) ?_)))))
   refine Zb (Rn.cast (JC Qj (l := 0) (h := (Xk 47 r).length) rfl rfl ⟨_, rfl⟩ (by omega) (by omega)) (v' := Sv (Xk 47 r)) (congrArg Sv (by rw [List.drop_zero, Nat.sub_zero, J9]))) ?_
   refine Za ?_
   refine Zc (ZC (Zs (Zm (Zm ?_))))
   refine J3 rfl rfl (hY pre (Xk 47 r) (spl 47 (r.drop ((Xk 47 r).length + 1))) (fun i => i = b2) w1 (by rw [hsp, spl_cut hcm]) hT) ?_; intro y41 w3 ⟨E3, hyT, hyF⟩
   replace hX := hX.trans (E3.mono fun _ _ => trivial); replace B1 := B1.ext E3 (fun h => by rcases h.2 with h | h; exact hm1 h; omega); replace B2 := B2.ext E3 (fun h => h.1 rfl); replace B3 := B3.ext E3 (fun h => by rcases h.2 with h | h; exact hm3 h; omega)
   refine Zb (Xy rfl) (Zc ?_)
   refine ZE rfl (fun hc2 => ?_) (fun hc2 => ?_)
   ·have hyf := hyF (by simpa using hc2)
    refine ZB ?_
    exact ⟨_, rfl, .inr hyf⟩
   ·replace hT := hyT (by simpa using hc2)
    refine ZF (ZJ (Zb (Zi p_9 rfl B2 rfl) (Zb (Rn.cast (XO rfl) (v' := .int .i64 ((Xk 47 r).length : Nat)) (congrArg (Value.int .i64) hfi)) (Zb (Zi p_9 rfl B1 rfl) (Zb (Qe Qj rfl) (Zb (Rn.cast (ZX rfl rfl (by simp only [List.length_singleton]; omega)) (v' := .int .i64 (((Xk 47 r).length + 1 : Nat) : Int)) rfl) ?_))))))
    refine Zb (Rn.cast (JC Qj (l := (Xk 47 r).length + 1) (h := r.length) rfl ⟨_, rfl⟩ rfl (by omega) (by omega)) (v' := Sv (r.drop ((Xk 47 r).length + 1))) (congrArg Sv (List.take_of_length_le (by rw [List.length_drop]; exact Nat.le_refl _)))) ?_
    have Bo := B2
    refine ZN (b := b2) p_9 rfl (by conv => lhs; whnf) rfl rfl B2 Zbl ?_; intro w4 E4 B2 hz4
    replace hX := hX.mine E4 hl2
    replace B1 := B1.ext E4 (fun h => by omega); replace B3 := B3.ext E4 (fun h => by omega)
    replace hT := hT.ext E4 (fun i e => e)
    refine Zc ?_
    exact ⟨rfl, (pre ++ [Xk 47 r], r.drop ((Xk 47 r).length + 1)), ⟨rfl, rfl, rfl, rfl, trivial⟩, ⟨hX, B1, B2, B3, hl1, hl2, hl3, ⟨by rw [hsp, spl_cut hcm]; simp, by rw [List.length_drop]; omega, hT⟩⟩, by show (r.drop ((Xk 47 r).length + 1)).length < r.length; rw [List.length_drop]; omega⟩
theorem splitSeq0_ok (w : World) (s : Str) (M : Nat → Prop) (hM : ∀ i, M i → i < w.heap.size) (hsn : s.length ≤ 1000000) : Fn Tryz.prog 304 #[Sv s, Sv [47], .int .i64 0] w fun u w' => ∃ b2, IterE Tryz.prog M w' (fun i => i = b2) u (fun x : Str => #[Sv x]) (spl 47 s) ∧ w.heap.size ≤ b2 ∧ b2 < w'.heap.size := by
 have hX := Ext.refl Non w
 refine Zfw (args := [_, _, _]) Tryz.func304 rfl rfl ?_
 refine Zs (ZP (by conv => lhs; whnf) rfl ?_); intro b3 w1 hb3 E1 B3
 have hq3 := Zq hX hb3
 replace hX := hX.tr E1
 refine ZP (by conv => lhs; whnf) rfl ?_; intro b4 w2 hb4 E2 B4
 have hn3_4 := Zn B3 hb4
 have hq4 := Zq hX hb4
 replace hX := hX.tr E2
 replace B3 := Zx B3 E2
 refine ZP (by conv => lhs; whnf) rfl ?_; intro b5 w3 hb5 E3 B5
 have hn3_5 := Zn B3 hb5
 have hn4_5 := Zn B4 hb5
 have hq5 := Zq hX hb5
 replace hX := hX.tr E3
 replace B3 := Zx B3 E3; replace B4 := Zx B4 E3
 refine Za ?_
 refine Zc (Zs (Zb (ZL rfl) (Za ?_)))
 refine Zc (ZB ?_)
 exact ⟨_, ZD (Zh rfl), hX, ⟨b3, splitSeq_iter s M _ b4 b3 b5 B4 B3 B5 (fun h => by have := hM _ h; omega) (fun h => by have := hM _ h; omega) (fun h => by have := hM _ h; omega) (by omega) (by omega) hsn, hq3, B3.lt⟩⟩
theorem splitSeqP_ok (w : World) (s : Str) (M : Nat → Prop) (hM : ∀ i, M i → i < w.heap.size) (hsn : s.length ≤ 1000000) : Fn Tryz.prog 261 #[Sv s, Sv [47]] w fun u w' => ∃ b2, IterE Tryz.prog M w' (fun i => i = b2) u (fun x : Str => #[Sv x]) (spl 47 s) ∧ w.heap.size ≤ b2 ∧ b2 < w'.heap.size := by
 have hX := Ext.refl Non w
 refine Zfw (args := [_, _]) Tryz.func261 rfl rfl ?_
 refine Zs (Za ?_)
 refine Zc (Zs (Zm (Zm ?_)))
 have hXc := hX
 refine Zw zE rfl (splitSeq0_ok w s M (fun i h => Zlt (hM i h) hX.size) hsn) ?_; intro v7 w1 E1 R1
 replace hX := hX.tr E1
 obtain ⟨b2, hI2, hb2, hb2l⟩ := R1
 refine Za ?_
 refine Zc (ZB ?_)
 exact ⟨_, ZD (Zh rfl), hX, ⟨b2, hI2, Zle hXc.size hb2, hb2l⟩⟩
set_option maxHeartbeats 800000 in
theorem each_iter (s : Str) (M : Nat → Prop) (w0 : World) (b1 : Nat) (hC1 : Zj w0 b1 [Sv s]) (hm1 : ¬ M b1) (hsn : s.length ≤ 1000000) :
  J2 Tryz.prog M w0 (.func (.func 260) #[] #[(Zpt b1)]) (fun p : Nat × Str => #[.int .i64 (p.1 : Nat), Sv p.2]) (Jh (spl 47 s)) := by
 refine iter_ofS zE fun l W J Jx hW hT hY => ?_
 replace hT := hT.all0
 have ea : (#[Value.func (.yield l) #[] #[]] ++ #[(Zpt b1)] : Array Value) = [Value.func (.yield l) #[] #[], (Zpt b1)].toArray := by simp
 rw [ea]
 have hX := Ext.refl Tru W
 have B1 := hC1.ext hW hm1
 have hl1 : Xo Tru W b1 := .inl trivial
 refine Q2 (R := fun v W' => Ts M w0 W (J (Jh (spl 47 s))) Non W' ∨ Ts M w0 W Jx Non W') Tryz.func260 rfl (by kernel_rfl) rfl ?_
 refine Zs (ZP (by conv => lhs; whnf) rfl ?_); intro b2 w1 hb2 E1 B2
 have hn1_2 := Zn B1 hb2
 have hq2 : W.heap.size ≤ b2 := Zle hX.size hb2
 replace hX := hX.tr E1
 replace B1 := Zx B1 E1
 replace hT := hT.allT E1
 refine Zc (Zs (ZT z_3 ?_)); intro b3 w2 hb3 E2 B3
 have hn1_3 := Zn B1 hb3
 have hn2_3 := Zn B2 hb3
 have hq3 : W.heap.size ≤ b3 := Zle hX.size hb3
 have hl3 : Xo Tru W b3 := .inr hq3
 replace hX := hX.tr E2
 replace B1 := Zx B1 E2; replace B2 := Zx B2 E2
 replace hT := hT.allT E2
 have Bo := B3
 refine ZN (b := b3) p_3 rfl (by conv => lhs; whnf) rfl rfl B3 Zbl ?_; intro w3 E3 B3 hz3
 replace hX := hX.mine E3 hl3
 replace B1 := B1.ext E3 (fun h => by omega); replace B2 := B2.ext E3 (fun h => by omega)
 replace hT := hT.allM E3 hq3 Bo.lt
 refine Zc (Zs (Zb (Zi p_9 rfl B1 rfl) ?_))
 have hz2 := B2.lt; have hz3 := B3.lt; have hW3 := hX.size
 refine Zw zE rfl (splitSeqP_ok w3 s (fun i => i < w3.heap.size) (fun i h => h) hsn) ?_; intro v6 w4 E4 R4
 replace hX := hX.tr E4
 replace B1 := Zx B1 E4; replace B2 := Zx B2 E4; replace B3 := Zx B3 E4
 replace hT := hT.allT E4
 obtain ⟨bs, It, hbs, hbsl⟩ := R4; obtain ⟨fk, ck, hfk, _⟩ := id It; subst hfk
 have hzz := E4.size
 refine Zc (ZO ?_)
 have hszr := hW3
 refine W_rangeFuncE w3.heap.size (fun i => i = bs) (M := fun i => i < w3.heap.size) (w0 := w4) (I := fun pre N A => Box N A b2 [.func (.yield l) #[] #[]] ∧ Box N A b3 [.int .i64 (pre.length : Nat)] ∧ Ext Tru W A ∧ MkN W [] N A ∧ (Ts M w0 W (J (Jh pre)) (fun i => Al W w4 i ∨ N i) A) ∧ (True)) (X := fun c N A => c = .ret ∧ Ext Tru W A ∧ MkN W [] N A ∧ (Ts M w0 W Jx (fun i => Al W w4 i ∨ N i) A) ∧ (True)) (encs := fun x : Str => [Sv x]) (xs := spl 47 s) rfl (It) (Ext.refl _ w4) (E4.size) (fun i hi => by rw [hi]; exact ⟨hbs, hbsl⟩) (fun _ => rfl) (fun pre => (Z6.box _ _).and ((Z6.box _ _).and ((Z6.oldM hW3).and ((Z6.mk _ _).and ((Ts.stabS _ _ _ _ _).and ((Z6.pure _))))))) (fun c => (Z6.pure _).and ((Z6.oldM hW3).and ((Z6.mk _ _).and ((Ts.stabS _ _ _ _ _).and ((Z6.pure _)))))) ⟨⟨B2, fun e => by omega⟩, ⟨B3, fun e => by omega⟩, hX, ⟨Mk.nil, fun r h => by cases h⟩, hT.less (fun i hi => hi.elim id (fun e => by rw [e]; exact ⟨by omega, hbsl⟩)), trivial⟩ ?_ ?_ ?_
 ·rintro l N pre x A hl hN hA hst ⟨hK2, K3, hXo, Dk, hT, Ir⟩ ⟨post, hpre⟩
  have B2 := hK2.1
  have B3 := K3.1; have hl3 : Xo (Yc (fun i => i < w3.heap.size) w4 N) A b3 := .inl ⟨K3.2, .inl (by omega)⟩
  have hX := Ext.refl (Yc (fun i => i < w3.heap.size) w4 N) A
  refine ZJ (Za ?_)
  refine Zc ?_
  refine ⟨rfl, hX, fun A2 E2r hz2r hst2 => ?_⟩
  have hNl := (hN l hl).2
  replace B2 := B2.ext E2r (fun e => hK2.2 (by rw [e]; exact hl))
  replace B3 := B3.ext E2r (fun e => K3.2 (by rw [e]; exact hl))
  replace hXo := hXo.mine E2r (.inr (Zle hszr (hN l hl).1)); replace Dk := Dk.lp E2r hl
  replace hT := hT.ext E2r (fun i e => .inr (by rw [e]; exact hl))
  have hl3 : Xo (Yc (fun i => i < w3.heap.size) w4 N) A2 b3 := .inl ⟨K3.2, .inl (by omega)⟩
  have hX := Ext.refl (Yc (fun i => i < w3.heap.size) w4 N) A2
  obtain ⟨q, hq⟩ := numb_pre hpre
  have hpl : pre.length ≤ s.length := by have h1 := JH 47 s; rw [hpre] at h1; simp only [List.length_append, List.length_cons] at h1; omega
  refine ZO ?_
  refine ZC (Zs (Zb (Zi p_127 rfl B2 rfl) (Zb (Zi p_3 rfl B3 rfl) (Zm ?_))))
  refine J3 rfl rfl (hY (Jh pre) (pre.length, x) q (fun i => Al W w4 i ∨ N i) A2 hq hT) ?_; intro y11 w5 ⟨E5, hyT, hyF⟩
  replace hX := hX.trans (E5.mono fun i h => ⟨fun hn => h.1 (.inr hn), (Nat.lt_or_ge i w3.heap.size).imp id (fun h3 => (Nat.lt_or_ge i w4.heap.size).elim (fun h4 => absurd (Or.inl ⟨Zle hW3 h3, h4⟩) h.1) id)⟩)
  replace hXo := hXo.trans (E5.mono fun _ _ => trivial); replace Dk : MkN W [] N w5 := ⟨Mk.nil, fun r h => by cases h⟩
  replace B2 := B2.ext E5 (fun h => h.1 (.inl ⟨hq2, by omega⟩)); replace B3 := B3.ext E5 (fun h => h.1 (.inl ⟨hq3, by omega⟩))
  refine Zb (Xy rfl) (Zc ?_)
  refine ZE rfl (fun hc0 => ?_) (fun hc0 => ?_)
  ·have hTx := hyF (by simpa using hc0)
   refine ZB ?_
   exact ⟨hX, rfl, hXo, Dk, hTx, trivial⟩
  ·replace hT := hyT (by simpa using hc0)
   refine ZF (ZJ (Zb (Zi p_3 rfl B3 rfl) (Zb (ZX rfl rfl (by omega)) ?_)))
   have Bo := B3
   refine ZN (b := b3) p_3 rfl (by conv => lhs; whnf) rfl rfl B3 Zbl ?_; intro w6 E6 B3 hz6
   replace hX := hX.mine E6 hl3
   replace B2 := B2.ext E6 (fun h => by omega)
   replace hXo := hXo.mine E6 (.inl trivial)
   replace Dk := Dk.box E6 Bo
   replace hT := hT.ext E6 (fun i e => .inl (by rw [e]; exact ⟨hq3, by omega⟩))
   refine Zc ?_
   replace B3 := B3.cast (show [Value.int .i64 ((pre.length : Int) + 1)] = [.int .i64 ((pre ++ [x]).length : Nat)] by simp)
   exact ⟨hX, ⟨B2, hK2.2⟩, ⟨B3, K3.2⟩, hXo, Dk, (by rw [numb_snoc]; exact hT), trivial⟩
 ·rintro N rk w' ⟨hK2, K3, hXo, Dk, hT, Ir⟩ hN hA hr hrd
  have B2 := hK2.1
  have B3 := K3.1
  have hX := hXo; have hD := Dk.add hrd (Zle hszr (hN rk hr).1) hr
  refine hD.leave fun B hB => ?_
  have B2 := B2.ext hB (hD.ne B2)
  have B3 := B3.ext hB (hD.ne B3)
  exact ⟨_, rfl, .inl ((hT.ext hB (fun i hi => .inr (by simp only [List.mem_singleton] at hi; rw [Qi hi]; exact hr))).less (fun _ h => h.elim))⟩
 ·rintro c N rk w' ⟨rfl, hXo, Dk, hTx, Ir⟩ hN hA hr hrd
  have hX := hXo; have hD := Dk.add hrd (Zle hszr (hN rk hr).1) hr
  refine ZB (hD.leave fun B hB => ?_)
  exact ⟨_, rfl, .inr ((hTx.ext hB (fun i hi => .inr (by simp only [List.mem_singleton] at hi; rw [Qi hi]; exact hr))).less (fun _ h => h.elim))⟩
theorem each_ok (w : World) (s : Str) (M : Nat → Prop) (hM : ∀ i, M i → i < w.heap.size) (hsn : s.length ≤ 1000000) : Fn Tryz.prog 200 #[Sv s] w fun u w' => J2 Tryz.prog M w' u (fun p : Nat × Str => #[.int .i64 (p.1 : Nat), Sv p.2]) (Jh (spl 47 s)) := by
 have hX := Ext.refl Non w
 refine Zfw (args := [_]) Tryz.func200 rfl rfl ?_
 refine Zs (ZP (by conv => lhs; whnf) rfl ?_); intro b1 w1 hb1 E1 B1
 have hq1 := Zq hX hb1
 replace hX := hX.tr E1
 refine Za ?_
 refine Zc (Zs (Zb (ZL rfl) (Za ?_)))
 refine Zc (ZB ?_)
 exact ⟨_, ZD (Zh rfl), hX, each_iter s M _ b1 B1 (fun h => by have := hM _ h; omega) hsn⟩
theorem levels_ok (w : World) (s : Str) (hsn : s.length ≤ 1000000) : Fn Tryz.prog 136 #[Sv s] w fun u w' => Sl Non w' u 1 ((spl 47 s).map eS1) := by
 have hX := Ext.refl Non w
 refine Zfw (args := [_]) Tryz.func136 rfl rfl ?_
 refine Zs (Za ?_)
 refine Zc (Zs (ZT z_28 ?_)); intro b3 w1 hb3 E1 B3
 have hq3 := Zq hX hb3
 have hl3 := Zl hX hb3
 replace hX := hX.tr E1
 refine Zc (ZC (Zs (Zm ?_)))
 refine Zw zE rfl (each_ok w1 s (fun i => i = b3) (fun i e => by rw [e]; exact B3.lt) hsn) ?_; intro v7 w2 E2 R2
 replace hX := hX.tr E2
 replace B3 := Zx B3 E2
 have It := R2; obtain ⟨fk, ck, hfk, _⟩ := id It; subst hfk
 have hW := Ext.refl (fun i => i = b3) w2; have hz3 := B3.lt; have hspl := JH 47 s
 refine Zc (ZO ?_)
 have hszr := hX.size
 have hsz_hW := hW.size
 have ho3 : w.heap.size ≤ b3 := by rcases hl3 with h | h; exact h.elim; exact h
 refine Qb (M := fun i => i = b3) (w0 := w2) (I := fun pre N A => ∃ v3 : Value, ∃ oo : Option Nat, Box N A b3 [v3] ∧ Ext Non w A ∧ Ext (fun i => i = b3) w2 A ∧ MkN w [] N A ∧ (OwX w2.heap.size N A v3 oo 1 ((pre.map fun p => p.2).map eS1)) ∧ (True)) (X := fun c N A => False) (encs := fun p : Nat × Str => [.int .i64 (p.1 : Nat), Sv p.2]) (xs := Jh (spl 47 s)) rfl (It) (hW) (fun _ => rfl) (fun pre => Z6.ex fun v3 => Z6.ex fun oo => (Z6.box _ _).and ((Z6.old hX.size).and ((Z6.oldM hW.size).and ((Z6.mk _ _).and ((Z6.owx _ _ _ _ _).and ((Z6.pure _))))))) (fun c => Z6.false) ⟨.slice none 0 0, none, ⟨B3, id⟩, hX, hW, (Mk.nil : Mk w [] w2).toN, ⟨OwO.nil, by simp⟩, trivial⟩ ?_ ?_ ?_
 ·rintro l N pre x A hl hN hA hst ⟨v3, oo, K3, hXo, hW, Dk, hO, Ir⟩ ⟨post, hpre⟩
  have B3 := K3.1; have hl3 : Xo (Yc (fun i => i = b3) w2 N) A b3 := .inl ⟨K3.2, .inl rfl⟩
  have hX := Ext.refl (Yc (fun i => i = b3) w2 N) A
  refine ZJ (Za ?_)
  refine Zc ?_
  refine ⟨rfl, hX, fun A2 E2r hz2r hst2 => ?_⟩
  have hNl := (hN l hl).2
  replace B3 := B3.ext E2r (fun e => K3.2 (by rw [e]; exact hl))
  replace hXo := hXo.mine E2r (.inr (Zle hszr (hN l hl).1)); replace Dk := Dk.lp E2r hl
  replace hW := hW.mine E2r (.inr (Zle hsz_hW (hN l hl).1))
  replace hO := hO.ext E2r (fun i hi e => (hO.2 i hi).1 (by rw [e]; exact hl))
  have hl3 : Xo (Yc (fun i => i = b3) w2 N) A2 b3 := .inl ⟨K3.2, .inl rfl⟩
  have hX := Ext.refl (Yc (fun i => i = b3) w2 N) A2
  refine ZO ?_
  refine ZJ ?_
  have hpl : (spl 47 s).length = pre.length + (post.length + 1) := by have := congrArg List.length hpre; rw [numb_len] at this; rw [this]; simp
  refine Zb (Zi p_28 rfl B3 rfl) (Zm ?_)
  refine Xz (r := eS1 x.2) Xq rfl rfl rfl rfl (by decide) ?_; intro v12 w3 b12 hb12 E3 hO12
  replace hX := hX.tr E3
  replace B3 := Zx B3 E3
  replace hXo := hXo.tr E3
  replace Dk := Dk.non E3
  replace hW := hW.tr E3
  replace hO := hO.ext E3 (fun _ _ h => h)
  have hsx := hX.size; have hsw := hW.size
  refine Qm Xq rfl rfl rfl hO.1 (hO12.sl (M := Non) id) (fun r hr => by simp only [List.mem_singleton] at hr; subst hr; exact J1 rfl) (by simp only [List.length_map, List.length_cons, List.length_nil]; omega) (by simp only [List.length_map, List.length_cons, List.length_nil, big]; omega) ?_; intro v13 w4 o13 E4 hO13 hf13
  obtain ⟨a13, c13, hv13⟩ := id hO13.len; subst hv13
  replace hX := hX.mineO E4 (fun i hi => .inl ⟨(hO.2 i hi).1, .inr (hO.2 i hi).2⟩); replace hXo := hXo.mineO E4 (fun i hi => .inr (Zle hszr (hO.2 i hi).2)); replace hW := hW.mineO E4 (fun i hi => .inr (hO.2 i hi).2); replace Dk : MkN w [] N w4 := ⟨Mk.nil, fun r h => by cases h⟩
  replace B3 := B3.ext E4 (fun e => by have := (hO.2 _ e).2; omega)
  have hOn : OwX w2.heap.size N w4 _ o13 1 (((pre ++ [x]).map fun p => p.2).map eS1) := ⟨by rw [List.map_append, List.map_append]; exact hO13, fun i hi => by rcases hf13 i hi with h | h; exact hO.2 i h; exact ⟨fun hNi => by have := (hN i hNi).2; omega, by omega⟩⟩
  have Bo := B3
  refine ZN (b := b3) p_28 rfl (by conv => lhs; whnf) rfl rfl B3 Zbl ?_; intro w5 E5 B3 hz5
  replace hX := hX.mine E5 hl3
  replace hXo := hXo.mine E5 (.inr ho3)
  replace Dk := Dk.box E5 Bo
  replace hW := hW.mine E5 (.inl rfl)
  replace hOn := hOn.ext E5 (fun i hi e => by have := (hOn.2 i hi).2; omega)
  refine Zc ?_
  exact ⟨hX, .slice a13 _ c13, o13, ⟨B3, K3.2⟩, hXo, hW, Dk, hOn, trivial⟩
 ·rintro N rk w' ⟨v3, oo, K3, hXo, hW, Dk, hO, Ir⟩ hN hA hr hrd
  have B3 := K3.1
  have hX := hXo; have hD := Dk.add hrd (Zle hszr (hN rk hr).1) hr
  rw [numb_snd] at hO
  obtain ⟨a3, c3, hv3⟩ := id hO.1.len; subst hv3
  refine Zs (Zb (Zi p_28 rfl B3 rfl) (Za ?_))
  refine Zc (ZB (hD.leave fun B hB => ?_))
  have B3 := B3.ext hB (hD.ne B3)
  have hX := hD.out hX hB
  exact ⟨_, ZD (Zh rfl), hX, (hO.ext hB (fun i hi h => (hO.2 i hi).1 (by simp only [List.mem_singleton] at h; rw [Qi h]; exact hr))).1.sl (fun i hi => id)⟩
 ·intro c N rk w' h; exact h.elim
end Go.Proofs.YtjklgohpminefaaGreatDoorC
