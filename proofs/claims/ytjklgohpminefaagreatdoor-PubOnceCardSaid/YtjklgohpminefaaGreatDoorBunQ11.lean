/- Filters of the program; the law TopicEach. -/
import Derived.Test.YtjklgohpminefaaGreatDoorBunQ10
import Derived.Test.YtjklgohpminefaaGreatDoorBunQ3
import Derived.Scope
import Derived.Laws.RangeAny
import Derived.Laws.Runes
import Derived.Shelf.Strings.IndexAnyAll
import Derived.Test.YtjklgohpminefaaGreatDoorBunQ5

set_option linter.unusedVariables false
set_option linter.unusedSimpArgs false
set_option maxRecDepth 1000000
namespace Go.Proofs.YtjklgohpminefaaGreatDoorC
open Go.RowKit
theorem cs_name : (Tryz.f310.name == "runtime.NumGoroutine") = false := by kernel_rfl
theorem cs_body : Tryz.f310.body.isNone = true := by kernel_rfl
theorem cs_next : Extern.findNext Tryz.f310 = none := by kernel_rfl
theorem cs_find : Extern.find Tryz.f310 = some Extern.BytealgCount.count := by kernel_rfl
theorem cbs : CB Tryz.prog 310 := ⟨_, Tryz.func310, cs_name, cs_body, cs_next, cs_find⟩
theorem sized_eq (s : Str) : JK s = (decide (s ≠ []) && (decide ((s.length : Int) ≤ 32) && decide (fi s 0 < 0))) := by
 unfold JK
 have h1 : decide ((s.length : Int) ≤ 32) = decide (s.length ≤ 32) := decide_eq_decide.2 (by omega)
 have h2 : decide (fi s 0 < 0) = decide (¬ (0 : UInt8) ∈ s) := decide_eq_decide.2 (by rw [← fi_ge s 0]; omega)
 rw [h1, h2, Bool.and_assoc]
theorem tsized_ok (w : World) (s : Str) : Fn Tryz.prog 113 #[Sv s] w fun u w' => u = .bool (JK s) := by
 have hX := Ext.refl Non w
 refine Zfw (args := [_]) Tryz.func113 rfl rfl ?_
 refine Zs (Za ?_)
 refine Zc (Zs (Zm ?_))
 refine Zb (rn_sneq rfl rfl) (Zm ?_)
 refine Z3 (d := 5) rfl (fun hg5 => ?_) (fun hg5 => ?_)
 ·refine Zu rfl (Zcb hg5) (Zm ?_)
  refine Zu rfl (Zcb hg5) (Zb (Qe Qj rfl) (Zu rfl (Zcb hg5) (Zb (rn_leq rfl rfl) (Zb (Z8 (Zcb hg5) (by conv => lhs; whnf)) ?_))))
  refine Zm ?_
  refine Z3 (d := 10) rfl (fun hg10 => ?_) (fun hg10 => ?_)
  ·refine Zu rfl (Zcb hg10) (Zm ?_)
   refine Zu rfl (Zcb hg10) (Zw zE rfl (JZ w s 0) ?_); intro v12 w1 E1 R1
   replace hX := hX.tr E1
   subst R1
   refine Zu rfl (Zcb hg10) (Zb (Xj rfl rfl) (Zb (Z8 (Zcb hg10) (by conv => lhs; whnf)) ?_))
   refine Za ?_
   refine Zc (ZB ?_)
   exact ⟨_, ZD (Zh rfl), hX, by rw [sized_eq, hg5, hg10]; rfl⟩
  ·refine ZU rfl (Zcb hg10) (ZU rfl (Zcb hg10) (ZU rfl (Zcb hg10) (Zb (ZQ (Zcb hg10) (by conv => lhs; whnf)) ?_)))
   refine Za ?_
   refine Zc (ZB ?_)
   exact ⟨_, ZD (Zh rfl), hX, by rw [sized_eq, hg5, hg10]; rfl⟩
 ·refine ZU rfl (Zcb hg5) (ZU rfl (Zcb hg5) (ZU rfl (Zcb hg5) (Zb (ZQ (Zcb hg5) (by conv => lhs; whnf)) ?_)))
  refine Zm ?_
  refine ZU rfl rfl (ZU rfl rfl (ZU rfl rfl (Zb (ZQ rfl (by conv => lhs; whnf)) ?_)))
  refine Za ?_
  refine Zc (ZB ?_)
  exact ⟨_, ZD (Zh rfl), hX, by rw [sized_eq, hg5]; rfl⟩
set_option maxHeartbeats 1000000 in
theorem scount_ok (w : World) (s : Str) (c : UInt8) : Fn Tryz.prog 269 #[Sv s, Sv [c]] w fun u w' => u = .int .i64 (s.count c : Nat) := by
 have hX := Ext.refl Non w
 refine Zfw (args := [_, _]) Tryz.func269 rfl rfl ?_
 refine Zs (Za ?_)
 refine Zc (ZC (Zs (Zm ?_)))
 refine Zb (Qe Qj rfl) (Zb (Xc rfl rfl) (Zc ?_))
 refine ZE rfl (fun hc0 => ?_) (fun hc0 => ?_)
 ·exact absurd (of_decide_eq_true hc0) (by simp)
 ·refine ZF (ZC (Zs (Zm ?_)))
  refine Zb (Qe Qj rfl) (Zb (Xc rfl rfl) (Zc ?_))
  refine ZE rfl (fun hc1 => ?_) (fun hc1 => ?_)
  ·refine Zs (Zm (Zm ?_))
   refine Zb (Qh Qj rfl rfl (by omega) rfl) (Zb (P := Tryz.prog) (op := .call ⟨.value (.func 310), #[.tmp 16, .tmp 18], #[9, 5]⟩) (v := .int .i64 (s.count c : Nat)) (rn_countString (s := s) (c := c) cbs rfl rfl) ?_)
   refine Za ?_
   refine Zc (ZB ?_)
   exact ⟨_, ZD (Zh rfl), hX, rfl⟩
  ·exact absurd (of_decide_eq_false hc1) (by simp)
theorem tdepth_ok (w : World) (s : Str) (hn : s.length ≤ 1000000) : Fn Tryz.prog 212 #[Sv s] w fun u w' => u = .int .i64 ((spl 47 s).length : Nat) := by
 have hcl := List.count_le_length (a := (47 : UInt8)) (l := s)
 have hX := Ext.refl Non w
 refine Zfw (args := [_]) Tryz.func212 rfl rfl ?_
 refine Zs (Za ?_)
 refine Zc (Zs (Zm ?_))
 refine Zw zE rfl (scount_ok w s 47) ?_; intro v4 w1 E1 R1
 replace hX := hX.tr E1
 subst R1
 refine Zb (ZX rfl rfl (by omega)) (Za ?_)
 refine Zc (ZB ?_)
 exact ⟨_, ZD (Zh rfl), hX, by rw [spl_len]; rfl⟩
set_option maxHeartbeats 1600000 in
theorem tfilter_ok (w : World) (s : Str) (hn : s.length ≤ 1000000) : Fn Tryz.prog 153 #[Sv s] w fun u w' => u = .bool (XJ s) := by
 have hsl := JH 47 s
 have hX := Ext.refl Non w
 refine Zfw (args := [_]) Tryz.func153 rfl rfl ?_
 refine Zs (ZT z_4 ?_); intro b2 w1 hb2 E1 B2
 have hq2 := Zq hX hb2
 have hl2 := Zl hX hb2
 replace hX := hX.tr E1
 refine Zc (ZC (Zs (Zm ?_)))
 refine Zw zE rfl (tsized_ok w1 s) ?_; intro v7 w2 E2 R2
 replace hX := hX.tr E2
 replace B2 := Zx B2 E2
 subst R2
 refine Zb (Xy rfl) (Zc ?_)
 refine ZE rfl (fun hc0 => ?_) (fun hc0 => ?_)
 ·have hz : JK s = false := by simpa using hc0
  refine Zs (ZN (b := b2) p_4 rfl (by conv => lhs; whnf) rfl rfl B2 Zbl ?_); intro w3 E3 B2 hz3
  replace hX := hX.mine E3 hl2
  refine Zc (ZB ?_)
  exact ⟨_, ZD (Q4 p_4 rfl B2), hX, by rw [filter_small hz]⟩
 ·have hz : JK s = true := by simpa using hc0
  refine ZF (Zs (Zm ?_))
  refine Zw zE rfl (tdepth_ok w2 s hn) ?_; intro v10 w4 E4 R4
  replace hX := hX.tr E4
  replace B2 := Zx B2 E4
  subst R4
  refine Zb (QS rfl rfl (by omega)) (ZT z_3 ?_); intro b3 w5 hb3 E5 B3
  have hn2_3 := Zn B2 hb3
  have hq3 := Zq hX hb3
  have hl3 := Zl hX hb3
  replace hX := hX.tr E5
  replace B2 := Zx B2 E5
  refine ZN (b := b3) p_3 rfl (by conv => lhs; whnf) rfl rfl B3 Zbl ?_; intro w6 E6 B3 hz6
  replace hX := hX.mine E6 hl3
  replace B2 := B2.ext E6 (fun h => by omega)
  refine Zc (ZC (Zs (Zm ?_)))
  refine Zw zE rfl (each_ok w6 s (fun i => i = b2) (fun i e => by rw [e]; exact B2.lt) hn) ?_; intro v13 w7 E7 R7
  replace hX := hX.tr E7
  replace B2 := Zx B2 E7; replace B3 := Zx B3 E7
  have It := R7; obtain ⟨fk, ck, hfk, _⟩ := id It; subst hfk
  obtain ⟨wa, hwa⟩ : ∃ x, x = w7 := ⟨_, rfl⟩
  have hW : Ext (fun i => i = b2) wa w7 := by rw [hwa]; exact Ext.refl _ _
  have hIt2 := It; rw [← hwa] at hIt2; have hz2 : b2 < wa.heap.size := by rw [hwa]; exact B2.lt
  refine Zc (ZO ?_)
  have hszr := hX.size
  have hsz_hW := hW.size
  have ho2 : w.heap.size ≤ b2 := by rcases hl2 with h | h; exact h.elim; exact h
  have ho3 : w.heap.size ≤ b3 := by rcases hl3 with h | h; exact h.elim; exact h
  refine Qb (M := fun i => i = b2) (w0 := wa) (I := fun pre N A => Box N A b2 [.bool false] ∧ Box N A b3 [.int .i64 (((spl 47 s).length : Int) - 1)] ∧ Ext Non w A ∧ Ext (fun i => i = b2) wa A ∧ MkN w [] N A ∧ (∀ (j : Nat) l, j < pre.length → (spl 47 s)[j]? = some l → JO (decide (j + 1 = (spl 47 s).length)) l = true)) (X := fun c N A => c = .ret ∧ Box N A b2 [.bool false] ∧ Ext Non w A ∧ Ext (fun i => i = b2) wa A ∧ MkN w [] N A ∧ (XJ s = false)) (encs := fun p : Nat × Str => [.int .i64 (p.1 : Nat), Sv p.2]) (xs := Jh (spl 47 s)) rfl (hIt2) (hW) (fun _ => rfl) (fun pre => (Z6.box _ _).and ((Z6.box _ _).and ((Z6.old hX.size).and ((Z6.oldM hW.size).and ((Z6.mk _ _).and ((Z6.pure _))))))) (fun c => (Z6.pure _).and ((Z6.box _ _).and ((Z6.old hX.size).and ((Z6.oldM hW.size).and ((Z6.mk _ _).and ((Z6.pure _))))))) ⟨⟨B2, id⟩, ⟨B3, id⟩, hX, hW, (Mk.nil : Mk w [] _).toN, fun j l h => absurd h (Nat.not_lt_zero _)⟩ ?_ ?_ ?_
  ·rintro l N pre x A hl hN hA hst ⟨hK2, K3, hXo, hW, Dk, Ir⟩ ⟨post, hpre⟩
   have B2 := hK2.1; have hl2 : Xo (Yc (fun i => i = b2) wa N) A b2 := .inl ⟨hK2.2, .inl rfl⟩
   have B3 := K3.1
   have hX := Ext.refl (Yc (fun i => i = b2) wa N) A
   refine Zs (Za ?_)
   refine Zc (ZJ (Za ?_))
   refine Zc ?_
   refine ⟨rfl, hX, fun A2 E2r hz2r hst2 => ?_⟩
   have hNl := (hN l hl).2
   replace B2 := B2.ext E2r (fun e => hK2.2 (by rw [e]; exact hl))
   replace B3 := B3.ext E2r (fun e => K3.2 (by rw [e]; exact hl))
   replace hXo := hXo.mine E2r (.inr (Zle hszr (hN l hl).1)); replace Dk := Dk.lp E2r hl
   replace hW := hW.mine E2r (.inr (Zle hsz_hW (hN l hl).1))
   have hl2 : Xo (Yc (fun i => i = b2) wa N) A2 b2 := .inl ⟨hK2.2, .inl rfl⟩
   have hX := Ext.refl (Yc (fun i => i = b2) wa N) A2
   obtain ⟨hxi, hxl, hxp⟩ := numb_at (i := x.1) (x := x.2) (post := post) (pre := pre) (by rw [hpre])
   have hxlt := (List.getElem?_eq_some_iff.1 hxl).1
   refine ZO ?_
   refine ZO ?_
   refine Zs (Zm ?_)
   refine Zw zE rfl (scontains_ok A2 x.2 35) ?_; intro v18 w8 E8 hR8
   replace hX := hX.tr E8
   replace B2 := Zx B2 E8; replace B3 := Zx B3 E8
   replace hXo := hXo.tr E8
   replace Dk := Dk.non E8
   replace hW := hW.tr E8
   subst hR8
   refine Za ?_
   refine Zc ?_
   refine ZE rfl (fun hc1 => ?_) (fun hc1 => ?_)
   ·have q35 : (35 : UInt8) ∈ x.2 := of_decide_eq_true hc1
    refine Zs (Zm ?_)
    refine Zb (rn_sneq rfl rfl) (Zm ?_)
    refine Z3 (d := 21) rfl (fun hg21 => ?_) (fun hg21 => ?_)
    ·have hR : XJ s = false := filter_no hxl (levOk_b q35 (by simpa using of_decide_eq_true hg21))
     refine ZU rfl (Zcb hg21) (ZU rfl (Zcb hg21) (ZU rfl (Zcb hg21) (Zb (Z8 (Zcb hg21) (by conv => lhs; whnf)) ?_)))
     refine Zc (Qr rfl (Zs ?_))
     have Bo := B2
     refine ZN (b := b2) p_4 rfl (by conv => lhs; whnf) rfl rfl B2 Zbl ?_; intro w9 E9 B2 hz9
     replace hX := hX.mine E9 hl2
     replace B3 := B3.ext E9 (fun h => by omega)
     replace hXo := hXo.mine E9 (.inr ho2)
     replace Dk := Dk.box E9 Bo
     replace hW := hW.mine E9 (.inl rfl)
     refine Zc (ZB ?_)
     exact ⟨hX, rfl, ⟨B2, hK2.2⟩, hXo, hW, Dk, hR⟩
    ·have qh : x.2 = [35] := by simpa using of_decide_eq_false hg21
     refine Zu rfl (Zcb hg21) (Zm ?_)
     refine Zu rfl (Zcb hg21) (Zb (Zi p_3 rfl B3 rfl) (Zu rfl (Zcb hg21) (Zb (X2 rfl rfl) (Zb (ZQ (Zcb hg21) (by conv => lhs; whnf)) ?_))))
     refine Zc ?_
     refine ZE rfl (fun hc2 => ?_) (fun hc2 => ?_)
     ·have hR : XJ s = false := filter_no hxl (by rw [levOk_c qh]; have := of_decide_eq_true hc2; exact decide_eq_false (by omega))
      refine Zs ?_
      have Bo := B2
      refine ZN (b := b2) p_4 rfl (by conv => lhs; whnf) rfl rfl B2 Zbl ?_; intro w10 E10 B2 hz10
      replace hX := hX.mine E10 hl2
      replace B3 := B3.ext E10 (fun h => by omega)
      replace hXo := hXo.mine E10 (.inr ho2)
      replace Dk := Dk.box E10 Bo
      replace hW := hW.mine E10 (.inl rfl)
      refine Zc (ZB ?_)
      exact ⟨hX, rfl, ⟨B2, hK2.2⟩, hXo, hW, Dk, hR⟩
     ·have hok : JO (decide (x.1 + 1 = (spl 47 s).length)) x.2 = true := by rw [levOk_c qh]; have := of_decide_eq_false hc2; exact decide_eq_true (by omega)
      refine ZF ?_
      exact ⟨hX, ⟨B2, hK2.2⟩, ⟨B3, K3.2⟩, hXo, hW, Dk, (fun j l hj h2 => by rw [List.length_append, List.length_singleton] at hj; rcases Nat.lt_or_ge j pre.length with h | h; exact Ir j l h h2; (have e : j = x.1 := by omega); subst e; rw [hxl] at h2; cases h2; exact hok)⟩
   ·have q35 : ¬ (35 : UInt8) ∈ x.2 := of_decide_eq_false hc1
    refine Zs (Zm ?_)
    refine Zw zE rfl (scontains_ok w8 x.2 43) ?_; intro v28 w11 E11 hR11
    replace hX := hX.tr E11
    replace B2 := Zx B2 E11; replace B3 := Zx B3 E11
    replace hXo := hXo.tr E11
    replace Dk := Dk.non E11
    replace hW := hW.tr E11
    subst hR11
    refine Zm ?_
    refine Z3 (d := 29) rfl (fun hg29 => ?_) (fun hg29 => ?_)
    ·have q43 : (43 : UInt8) ∈ x.2 := of_decide_eq_true hg29
     refine Zu rfl (Zcb hg29) (Zm ?_)
     refine Zu rfl (Zcb hg29) (Zb (rn_sneq rfl rfl) (Zb (Z8 (Zcb hg29) (by conv => lhs; whnf)) ?_))
     refine Za ?_
     refine Zc ?_
     refine ZE rfl (fun hc3 => ?_) (fun hc3 => ?_)
     ·have hR : XJ s = false := filter_no hxl (levOk_a q43 (by simpa using of_decide_eq_true hc3))
      refine Zs ?_
      have Bo := B2
      refine ZN (b := b2) p_4 rfl (by conv => lhs; whnf) rfl rfl B2 Zbl ?_; intro w12 E12 B2 hz12
      replace hX := hX.mine E12 hl2
      replace B3 := B3.ext E12 (fun h => by omega)
      replace hXo := hXo.mine E12 (.inr ho2)
      replace Dk := Dk.box E12 Bo
      replace hW := hW.mine E12 (.inl rfl)
      refine Zc (ZB ?_)
      exact ⟨hX, rfl, ⟨B2, hK2.2⟩, hXo, hW, Dk, hR⟩
     ·have hok : JO (decide (x.1 + 1 = (spl 47 s).length)) x.2 = true := levOk_d q35 (fun _ => by simpa using of_decide_eq_false hc3)
      refine ZF ?_
      exact ⟨hX, ⟨B2, hK2.2⟩, ⟨B3, K3.2⟩, hXo, hW, Dk, (fun j l hj h2 => by rw [List.length_append, List.length_singleton] at hj; rcases Nat.lt_or_ge j pre.length with h | h; exact Ir j l h h2; (have e : j = x.1 := by omega); subst e; rw [hxl] at h2; cases h2; exact hok)⟩
    ·have hok : JO (decide (x.1 + 1 = (spl 47 s).length)) x.2 = true := levOk_d q35 (fun h => absurd h (of_decide_eq_false hg29))
     refine ZU rfl (Zcb hg29) (ZU rfl (Zcb hg29) (Zb (ZQ (Zcb hg29) (by conv => lhs; whnf)) ?_))
     refine Za ?_
     refine Zc (Xu rfl (ZF ?_))
     exact ⟨hX, ⟨B2, hK2.2⟩, ⟨B3, K3.2⟩, hXo, hW, Dk, (fun j l hj h2 => by rw [List.length_append, List.length_singleton] at hj; rcases Nat.lt_or_ge j pre.length with h | h; exact Ir j l h h2; (have e : j = x.1 := by omega); subst e; rw [hxl] at h2; cases h2; exact hok)⟩
  ·rintro N rk w' ⟨hK2, K3, hXo, hW, Dk, Ir⟩ hN hA hr hrd
   have B2 := hK2.1
   have B3 := K3.1
   have hX := hXo; have hD := Dk.add hrd (Zle hszr (hN rk hr).1) hr
   refine Zs ?_
   have Bo := B2
   refine ZN (b := b2) p_4 rfl (by conv => lhs; whnf) rfl rfl B2 Zbl ?_; intro w13 E13 B2 hz13
   replace hX := hX.mine E13 hl2
   replace B3 := B3.ext E13 (fun h => by omega)
   replace hD := hD.box E13 Bo
   refine Zc (ZB (hD.leave fun B hB => ?_))
   have B2 := B2.ext hB (hD.ne B2)
   have B3 := B3.ext hB (hD.ne B3)
   have hX := hD.out hX hB
   exact ⟨_, ZD (Q4 p_4 rfl B2), hX, by rw [filter_yes hz (fun j l h2 => Ir j l (by rw [numb_len]; exact (List.getElem?_eq_some_iff.1 h2).1) h2)]⟩
  ·rintro c N rk w' ⟨rfl, hK2, hXo, hW, Dk, Ir⟩ hN hA hr hrd
   have B2 := hK2.1
   have hX := hXo; have hD := Dk.add hrd (Zle hszr (hN rk hr).1) hr
   refine ZB (hD.leave fun B hB => ?_)
   have B2 := B2.ext hB (hD.ne B2)
   have hX := hD.out hX hB
   exact ⟨_, ZD (Q4 p_4 rfl B2), hX, by rw [Ir]⟩
section
variable {P : Program} {n : Nat} {Q : QH} {σ : Env} {D : List Deferred} {w : World} {dst : Option Nat} {ty : TypeId} {pos : String} {af : Array Edge} {g : Option (Nat × Bool)}
variable {ops rest : List Oper} {K : Ops}
def NoGo (Q : QH) : QH
 | .goto _ => fun _ _ _ => False
 | e => Q e
theorem W_scope {c : Code} (h : W none P n c (NoGo Q) σ D w) : W none P n (.scope c) Q σ D w := by
 intro hk a hs hd
 have h1 := h hk a hs hd
 refine wpIn_wide.2 (wp_scope_straight ?_)
 refine (wpIn_wide.1 (wpIn_mono h1 ?_))
 rintro e a' w' ⟨σ', h2, h3⟩
 cases e with
 | goto t => exact h3.elim
 | _ => exact ⟨σ', h2, h3⟩
theorem QJ (s : Str) : (ByteArray.mk s.toArray).size = s.length := by simp [ByteArray.size]
theorem get_str (s : Str) (i : Nat) (h : i < (ByteArray.mk s.toArray).size) : (ByteArray.mk s.toArray)[i]'h = s[i]'(by rw [QJ] at h; exact h) := rfl
def IsIt (w : World) (b : Nat) (s : Str) (i : Nat) : Prop := w.heap[b]? = some (.stringIter ⟨s.toArray⟩ i)
theorem IsIt.ext {M : Nat → Prop} {w w' : World} {b : Nat} {s : Str} {i : Nat} (h : IsIt w b s i) (hE : Ext M w w') (hm : ¬ M b) : IsIt w' b s i := hE.obj h hm
theorem IsIt.lt {w : World} {b : Nat} {s : Str} {i : Nat} (h : IsIt w b s i) : b < w.heap.size := (Array.getElem?_eq_some_iff.1 h).1
theorem wl_rangeS {t : TypeId} (hu : P.underlying t = some .string) {x : Operand} {s : Str} {d : Nat} (hx : ev σ x = Sv s)
  (kk : ∀ b w', w.heap.size ≤ b → Ext Non w w' → IsIt w' b s 0 → wl P ops rest K (upd σ d (.pointer (some ⟨b, 0, none⟩))) w') : wl P ops (⟨some d, .range t x, ty, pos, af, none⟩ :: rest) K σ w := by
 refine QR (P := P) (w' := w.iter ⟨s.toArray⟩ 0) (v := .pointer (some ⟨w.heap.size, 0, none⟩)) ?_ (kk _ _ (Nat.le_refl _) (Ext.alloc w _) (World.iter_heap w _ 0))
 show (execOp (ev σ) _).run P w = _
 simp [execOp, hx, run_range_string w t _ hu]
def dec (s : Str) (i : Nat) : Nat × Nat := Utf8.decode ⟨s.toArray⟩ i
def nxA (s : Str) (i : Nat) : Array Value := if i < s.length then #[.bool true, .int .i64 (i : Nat), .int .i32 ((dec s i).1 : Nat)] else #[.bool false]
def nxP (s : Str) (i : Nat) : Nat := if i < s.length then i + (dec s i).2 else i
theorem nx0 (s : Str) (i : Nat) : (nxA s i)[0]? = some (.bool (decide (i < s.length))) := by unfold nxA; split <;> simp_all
theorem nx1 {s : Str} {i : Nat} (h : i < s.length) : (nxA s i)[1]? = some (.int .i64 (i : Nat)) := by unfold nxA; rw [if_pos h]; rfl
theorem nx2 {s : Str} {i : Nat} (h : i < s.length) : (nxA s i)[2]? = some (.int .i32 ((dec s i).1 : Nat)) := by unfold nxA; rw [if_pos h]; rfl
theorem wl_nextS {x : Operand} {s : Str} {b i d : Nat} (hx : ev σ x = .pointer (some ⟨b, 0, none⟩)) (hI : IsIt w b s i)
  (kk : ∀ w', Ext (fun j => j = b) w w' → w'.heap.size = w.heap.size → IsIt w' b s (nxP s i) → wl P ops rest K (upd σ d (.tuple (nxA s i))) w') : wl P ops (⟨some d, .next x true, ty, pos, af, none⟩ :: rest) K σ w := by
 have hlt := hI.lt
 unfold IsIt at hI
 by_cases h : i < s.length
 ·have h2 : i < (ByteArray.mk s.toArray).size := by rw [QJ]; exact h
  refine QR (P := P) (w' := w.putObj b (.stringIter ⟨s.toArray⟩ (i + (dec s i).2))) (v := .tuple (nxA s i)) ?_ (kk _ (Ext.putObj _ _ _ _ rfl) (by simp [World.putObj]) ?_)
  ·show (execOp (ev σ) _).run P w = _
   unfold nxA dec
   simp only [execOp, hx, Instr.next, getObj, setObj, Sem.run_bind, Sem.run, hI, Result.andThen, h2, h, if_true]
   simp [goInt, World.putObj, Sem.run, hI, hlt]
  ·unfold IsIt nxP; rw [if_pos h]; exact World.putObj_heap_same hlt
 ·have h2 : ¬ i < (ByteArray.mk s.toArray).size := by rw [QJ]; exact h
  refine QR (P := P) (w' := w) (v := .tuple (nxA s i)) ?_ (kk _ (Ext.refl _ _) rfl ?_)
  ·show (execOp (ev σ) _).run P w = _
   unfold nxA
   simp [execOp, hx, Instr.next, getObj, Sem.run, hI, h2, h]
  ·unfold IsIt nxP; rw [if_neg h]; exact hI
theorem rn_runeText {s t : TypeId} {x : Operand} {k : IntKind} {r : Int} (hs : (P.underlying s).isSome = true) (ht : P.underlying t = some .string) (hx : ev σ x = .int k r) : Rn P σ w ⟨dst, .convert s t x, ty, pos, af, g⟩ (.string (Utf8.encode r)) := by
 show (execOp (ev σ) _).run P w = _
 simp [execOp, hx, run_convert_int_string w s t k r hs ht]
theorem dec_low {s : Str} {i : Nat} {c : UInt8} (h : s[i]? = some c) (hc : c.toNat < 128) : dec s i = (c.toNat, 1) := by
 obtain ⟨hlt, e⟩ := List.getElem?_eq_some_iff.1 h
 have h2 : i < (ByteArray.mk s.toArray).size := by rw [QJ]; exact hlt
 have := decode_ascii ⟨s.toArray⟩ i h2 (by rw [get_str, e]; exact hc)
 unfold dec; rw [this, get_str, e]
theorem getb (s : Str) (i : Nat) (h : i < s.length) : (ByteArray.mk s.toArray).get! i = s[i] := by
 have h2 : i < (ByteArray.mk s.toArray).size := by rw [QJ]; exact h
 have := get_at ⟨s.toArray⟩ i h2
 rw [Nat.add_zero] at this
 rw [this]; rfl
theorem dec_high {s : Str} {i : Nat} {c : UInt8} (h : s[i]? = some c) (hc : 128 ≤ c.toNat) :
  128 ≤ (dec s i).1 ∧ 1 ≤ (dec s i).2 ∧ Utf8.valid ((dec s i).1 : Nat) = true ∧ ∀ j, i ≤ j → j < i + (dec s i).2 → ∃ x, s[j]? = some x ∧ 128 ≤ x.toNat := by
 obtain ⟨hlt, e⟩ := List.getElem?_eq_some_iff.1 h
 have h2 : i < (ByteArray.mk s.toArray).size := by rw [QJ]; exact hlt
 have hh := decode_high ⟨s.toArray⟩ i h2 (by rw [get_str, e]; exact hc)
 refine ⟨hh.1, hh.2, ?_⟩
 have hb0 : ((ByteArray.mk s.toArray).get! (i + 0)).toNat = c.toNat := by rw [Nat.add_zero, getb s i hlt, e]
 have hn : ¬ c.toNat < 128 := by omega
 have hsz : (ByteArray.mk s.toArray).size = s.length := QJ s
 have one : ∀ j, i ≤ j → j < i + 1 → ∃ x, s[j]? = some x ∧ 128 ≤ x.toNat := fun j h1 h2 => by
  obtain rfl : j = i := by omega
  exact ⟨c, h, hc⟩
 have ct : ∀ k, (decide (i + k < (ByteArray.mk s.toArray).size) && ((ByteArray.mk s.toArray).get! (i + k)).toNat / 64 == 2) = true → ∃ x, s[i + k]? = some x ∧ 128 ≤ x.toNat := fun k hk => by
  rw [Bool.and_eq_true, decide_eq_true_eq, hsz] at hk
  refine ⟨s[i + k]'hk.1, List.getElem?_eq_getElem hk.1, ?_⟩
  have := hk.2
  rw [getb s (i + k) hk.1] at this
  have := eq_of_beq this
  omega
 have hc8 := UInt8.toNat_lt c
 have hv : ∀ r : Nat, r = Utf8.runeError → Utf8.valid (r : Nat) = true := fun r hr => by subst hr; decide
 unfold dec
 unfold Utf8.decode
 simp only [hb0, hn, if_false]
 split
 ·rename_i hq
  rw [Bool.and_eq_true] at hq
  split
  ·refine ⟨?_, fun j h1 h2 => ?_⟩
   ·unfold Utf8.valid; simp; omega
   ·rcases Nat.lt_or_ge j (i + 1) with h3 | h3
    ·exact one j h1 h3
    ·obtain rfl : j = i + 1 := by simp at h2; omega
     exact ct 1 hq.2
  ·exact ⟨hv _ rfl, one⟩
 ·split
  ·rename_i hq
   simp only [Bool.and_eq_true] at hq
   split
   ·rename_i hr
    simp only [Bool.and_eq_true] at hr
    refine ⟨hr.2, fun j h1 h2 => ?_⟩
    have h2 : j < i + 3 := h2
    rcases Nat.lt_or_ge j (i + 1) with h3 | h3
    ·exact one j h1 h3
    ·rcases Nat.lt_or_ge j (i + 2) with h4 | h4
     ·obtain rfl : j = i + 1 := by omega
      exact ct 1 (by simpa using hq.1.2)
     ·obtain rfl : j = i + 2 := by omega
      exact ct 2 (by simpa using hq.2)
   ·exact ⟨hv _ rfl, one⟩
  ·split
   ·rename_i hq
    simp only [Bool.and_eq_true] at hq
    split
    ·rename_i hr
     simp only [Bool.and_eq_true] at hr
     refine ⟨hr.2, fun j h1 h2 => ?_⟩
     have h2 : j < i + 4 := h2
     rcases Nat.lt_or_ge j (i + 1) with h3 | h3
     ·exact one j h1 h3
     ·rcases Nat.lt_or_ge j (i + 2) with h4 | h4
      ·obtain rfl : j = i + 1 := by omega
       exact ct 1 (by simpa using hq.1.1.2)
      ·rcases Nat.lt_or_ge j (i + 3) with h5 | h5
       ·obtain rfl : j = i + 2 := by omega
        exact ct 2 (by simpa using hq.1.2)
       ·obtain rfl : j = i + 3 := by omega
        exact ct 3 (by simpa using hq.2)
    ·exact ⟨hv _ rfl, one⟩
   ·exact ⟨hv _ rfl, one⟩
end
end Go.Proofs.YtjklgohpminefaaGreatDoorC
namespace Go.Proofs.YtjklgohpminefaaGreatDoorC
open Go.RowKit Go.Shelf
def Tryz.lays153_ren : Go.Shelf.Ren := ⟨fun | 153 => 189 | 152 => 249 | 226 => 250 | 227 => 251 | 228 => 252 | 137 => 188 | 119 => 298 | 224 => 299 | 225 => 300 | 217 => 248 | 266 => 297 | n => n, fun | 9 => 9 | 3 => 3 | 4 => 4 | 5 => 5 | 21 => 21 | 117 => 292 | 116 => 291 | 0 => 0 | 46 => 253 | 124 => 331 | n => n, fun | n => n⟩
theorem Tryz.lays153 : Go.Proofs.Lays.n153 Tryz.prog Tryz.lays153_ren := {
 mixed := by kernel_rfl
 f119 := Tryz.func298.trans (congrArg some (by kernel_rfl))
 f137 := Tryz.func188.trans (congrArg some (by kernel_rfl))
 f152 := Tryz.func249.trans (congrArg some (by kernel_rfl))
 f153 := Tryz.func189.trans (congrArg some (by kernel_rfl))
 f217 := Tryz.func248.trans (congrArg some (by kernel_rfl))
 f224 := Tryz.func299.trans (congrArg some (by kernel_rfl))
 f225 := Tryz.func300.trans (congrArg some (by kernel_rfl))
 f226 := Tryz.func250.trans (congrArg some (by kernel_rfl))
 f227 := Tryz.func251.trans (congrArg some (by kernel_rfl))
 f228 := Tryz.func252.trans (congrArg some (by kernel_rfl))
 f266 := Tryz.func297.trans (congrArg some (by kernel_rfl))
 t0 := Tryz.underlying0
 a0 := Tryz.isAgg0
 z0 := Tryz.sizeOf0
 v0 := Tryz.zeroValue0
 t3 := Tryz.underlying3
 a3 := Tryz.isAgg3
 z3 := Tryz.sizeOf3
 v3 := Tryz.zeroValue3
 t4 := Tryz.underlying4
 a4 := Tryz.isAgg4
 z4 := Tryz.sizeOf4
 v4 := Tryz.zeroValue4
 t5 := Tryz.underlying5
 a5 := Tryz.isAgg5
 z5 := Tryz.sizeOf5
 v5 := Tryz.zeroValue5
 t9 := Tryz.underlying9
 a9 := Tryz.isAgg9
 z9 := Tryz.sizeOf9
 v9 := Tryz.zeroValue9
 t21 := Tryz.underlying21
 a21 := Tryz.isAgg21
 z21 := Tryz.sizeOf21
 v21 := Tryz.zeroValue21
 t46 := Tryz.underlying253
 a46 := Tryz.isAgg253
 z46 := Tryz.sizeOf253
 v46 := Tryz.zeroValue253
 t116 := Tryz.underlying291
 a116 := Tryz.isAgg291
 z116 := Tryz.sizeOf291
 t117 := Tryz.underlying292
 a117 := Tryz.isAgg292
 z117 := Tryz.sizeOf292
 v117 := Tryz.zeroValue292
 t124 := Tryz.underlying331
 a124 := Tryz.isAgg331
 z124 := Tryz.sizeOf331
 v124 := Tryz.zeroValue331 }
theorem wrap_u8 {a : Int} (h : 0 ≤ a ∧ a ≤ 255) : IntKind.u8.wrap a = a := by
 have hm : a % 256 = a := by omega
 unfold IntKind.wrap; simp [IntKind.bits, IntKind.signed, hm]
theorem valid_iff (r : Int) : Utf8.valid r = true ↔ (0 ≤ r ∧ r < 55296) ∨ (57344 ≤ r ∧ r ≤ 1114111) := by
 unfold Utf8.valid
 rw [Bool.or_eq_true, Bool.and_eq_true, Bool.and_eq_true, decide_eq_true_eq, decide_eq_true_eq, decide_eq_true_eq, decide_eq_true_eq]
theorem runeText (r : Int) (h128 : 128 ≤ r) (hv : Utf8.valid r = true) : ∃ e : Str, Utf8.encode r = ⟨e.toArray⟩ ∧ 2 ≤ e.length ∧ e.length ≤ 4 ∧ ∃ x, e[e.length - 1]? = some x ∧ 128 ≤ x.toNat := by
 obtain ⟨h1, h2, h3⟩ := encode_facts r hv h128
 have hs : (Utf8.encode r).size = (Utf8.encode r).data.toList.length := (Array.length_toList (xs := (Utf8.encode r).data)).symm
 have hlt : (Utf8.encode r).size - 1 < (Utf8.encode r).size := by omega
 refine ⟨(Utf8.encode r).data.toList, rfl, by rw [← hs]; exact h1, by rw [← hs]; exact h2, (Utf8.encode r)[(Utf8.encode r).size - 1]'hlt, ?_, h3 hlt⟩
 rw [← hs, List.getElem?_eq_getElem (by rw [← hs]; exact hlt)]; rfl
def anyB (s : Str) : Bool := decide ((43 : UInt8) ∈ s) || decide ((35 : UInt8) ∈ s)
theorem indexAny_eq : ∀ s : Str, decide (0 ≤ Lib.indexAny s [43, 35]) = anyB s
 | [] => rfl
 | b :: l => by
  have ih := indexAny_eq l
  have hge := Lib.indexAny_ge [43, 35] l
  unfold Lib.indexAny
  by_cases hb : ([43, 35] : Str).contains b = true
  ·rw [if_pos hb]
   have : b = 43 ∨ b = 35 := by simpa using hb
   unfold anyB
   rcases this with rfl | rfl <;> simp
  ·rw [if_neg hb]
   have hne : ¬ (43 : UInt8) = b ∧ ¬ (35 : UInt8) = b := by
    refine ⟨fun e => hb (by rw [← e]; decide), fun e => hb (by rw [← e]; decide)⟩
   have e2 : anyB (b :: l) = anyB l := by unfold anyB; simp [hne.1, hne.2]
   rw [e2, ← ih]
   by_cases h1 : (Lib.indexAny l [43, 35] == -1) = true
   ·rw [if_pos h1]
    have := eq_of_beq h1
    rw [this]
   ·rw [if_neg h1]
    have h2 : ¬ Lib.indexAny l [43, 35] = -1 := fun e => h1 (by rw [e]; rfl)
    exact decide_eq_decide.2 (by omega)
theorem anyB_yes {s : Str} {i : Nat} {c : UInt8} (h : s[i]? = some c) (hc : c = 43 ∨ c = 35) : anyB s = true := by
 have := List.mem_of_getElem? h
 unfold anyB
 rcases hc with rfl | rfl <;> simp [this]
theorem anyB_no {s : Str} (h1 : ¬ (43 : UInt8) ∈ s) (h2 : ¬ (35 : UInt8) ∈ s) : anyB s = false := by unfold anyB; simp [h1, h2]
theorem gone_over {s : Str} {i k : Nat} {x : UInt8} (h : ¬ x ∈ s.take i) (hn : ∀ j c, i ≤ j → j < k → s[j]? = some c → c ≠ x) : ¬ x ∈ s.take k := by
 intro hm
 obtain ⟨j, hj⟩ := List.getElem?_of_mem hm
 rw [List.getElem?_take] at hj
 split at hj
 ·rename_i hjk
  rcases Nat.lt_or_ge j i with h1 | h1
  ·exact h (List.mem_of_getElem? (i := j) (by rw [List.getElem?_take, if_pos h1]; exact hj))
  ·exact hn j x h1 hjk hj rfl
 ·cases hj
theorem fi_two (c : UInt8) : 0 ≤ fi [43, 35] c ↔ c = 43 ∨ c = 35 := by rw [fi_ge]; simp
theorem validRune_ok (w : World) (r : Nat) (hv : Utf8.valid (r : Int) = true) : Fn Tryz.prog 298 #[.int .i32 (r : Nat)] w fun u w' => u = .bool true := by
 have hv2 := (valid_iff r).1 hv
 have hX := Ext.refl Non w
 refine Zfw (args := [_]) Tryz.func298 rfl rfl ?_
 refine Zs (Za ?_)
 refine Zc (ZC (ZO (Zs (Zm ?_))))
 refine Zb (rn_leq rfl rfl) (Zm ?_)
 refine Z3 (d := 6) rfl (fun hg6 => ?_) (fun hg6 => ?_)
 ·have q1 := of_decide_eq_true hg6
  refine Zu rfl (Zcb hg6) (Zm ?_)
  refine Zu rfl (Zcb hg6) (Zb (Xj rfl rfl) (Zb (Z8 (Zcb hg6) (by conv => lhs; whnf)) ?_))
  refine Za ?_
  refine Zc ?_
  refine ZE rfl (fun hc0 => ?_) (fun hc0 => ?_)
  ·refine Zs (Za ?_)
   refine Zc (ZB ?_)
   first | exact ⟨_, ZD (Zh rfl), hX, rfl⟩ | exact ⟨_, ZD (Zh rfl), hX, (by omega : False).elim⟩
  ·have q2 := of_decide_eq_false hc0
   refine Zs (Zm ?_)
   refine Zb (Xj rfl rfl) (Zm ?_)
   refine Z3 (d := 13) rfl (fun hg13 => ?_) (fun hg13 => ?_)
   ·have q3 := of_decide_eq_true hg13
    refine Zu rfl (Zcb hg13) (Zm ?_)
    refine Zu rfl (Zcb hg13) (Zb (rn_leq rfl rfl) (Zb (Z8 (Zcb hg13) (by conv => lhs; whnf)) ?_))
    refine Za ?_
    refine Zc ?_
    refine ZE rfl (fun hc1 => ?_) (fun hc1 => ?_)
    ·refine Zs (Za ?_)
     refine Zc (ZB ?_)
     first | exact ⟨_, ZD (Zh rfl), hX, rfl⟩ | exact ⟨_, ZD (Zh rfl), hX, (by omega : False).elim⟩
    ·have q4 := of_decide_eq_false hc1
     refine ZF (Zs (Za ?_))
     refine Zc (ZB ?_)
     first | exact ⟨_, ZD (Zh rfl), hX, rfl⟩ | exact ⟨_, ZD (Zh rfl), hX, (by omega : False).elim⟩
   ·have q3 := of_decide_eq_false hg13
    refine ZU rfl (Zcb hg13) (ZU rfl (Zcb hg13) (Zb (ZQ (Zcb hg13) (by conv => lhs; whnf)) ?_))
    refine Za ?_
    refine Zc (Xu rfl (ZF (Zs (Za ?_))))
    refine Zc (ZB ?_)
    first | exact ⟨_, ZD (Zh rfl), hX, rfl⟩ | exact ⟨_, ZD (Zh rfl), hX, (by omega : False).elim⟩
 ·have q1 := of_decide_eq_false hg6
  refine ZU rfl (Zcb hg6) (ZU rfl (Zcb hg6) (Zb (ZQ (Zcb hg6) (by conv => lhs; whnf)) ?_))
  refine Za ?_
  refine Zc (Xu rfl (Zs (Zm ?_)))
  refine Zb (Xj rfl rfl) (Zm ?_)
  refine Z3 (d := 13) rfl (fun hg13 => ?_) (fun hg13 => ?_)
  ·have q3 := of_decide_eq_true hg13
   refine Zu rfl (Zcb hg13) (Zm ?_)
   refine Zu rfl (Zcb hg13) (Zb (rn_leq rfl rfl) (Zb (Z8 (Zcb hg13) (by conv => lhs; whnf)) ?_))
   refine Za ?_
   refine Zc ?_
   refine ZE rfl (fun hc1 => ?_) (fun hc1 => ?_)
   ·refine Zs (Za ?_)
    refine Zc (ZB ?_)
    first | exact ⟨_, ZD (Zh rfl), hX, rfl⟩ | exact ⟨_, ZD (Zh rfl), hX, (by omega : False).elim⟩
   ·have q4 := of_decide_eq_false hc1
    refine ZF (Zs (Za ?_))
    refine Zc (ZB ?_)
    first | exact ⟨_, ZD (Zh rfl), hX, rfl⟩ | exact ⟨_, ZD (Zh rfl), hX, (by omega : False).elim⟩
  ·have q3 := of_decide_eq_false hg13
   refine ZU rfl (Zcb hg13) (ZU rfl (Zcb hg13) (Zb (ZQ (Zcb hg13) (by conv => lhs; whnf)) ?_))
   refine Za ?_
   refine Zc (Xu rfl (ZF (Zs (Za ?_))))
   refine Zc (ZB ?_)
   first | exact ⟨_, ZD (Zh rfl), hX, rfl⟩ | exact ⟨_, ZD (Zh rfl), hX, (by omega : False).elim⟩
theorem shouldUse_ok (w : World) (n : Int) : Fn Tryz.prog 250 #[.int .i64 n] w fun u w' => u = .bool (decide (n > 8)) := by
 have hX := Ext.refl Non w
 refine Zfw (args := [_]) Tryz.func250 rfl rfl ?_
 refine Zs (Za ?_)
 refine Zc (Zs (Zm ?_))
 refine Zb (Ja rfl rfl) (Za ?_)
 refine Zc (ZB ?_)
 exact ⟨_, ZD (Zh rfl), hX, rfl⟩
set_option maxHeartbeats 800000 in
theorem idxRuneA_ok (w : World) (s : Str) (c : UInt8) (hc : c.toNat < 128) : Fn Tryz.prog 249 #[Sv s, .int .i32 (c.toNat : Nat)] w fun u w' => u = .int .i64 (fi s c) := by
 have hX := Ext.refl Non w
 refine Zfw (args := [_, _]) Tryz.func249 rfl rfl ?_
 refine Zs (Za ?_)
 refine Zc (ZO (Zs (Zm ?_)))
 refine Zb (rn_leq rfl rfl) (Zm ?_)
 refine Z3 (d := 163) rfl (fun hg163 => ?_) (fun hg163 => ?_)
 ·refine Zu rfl (Zcb hg163) (Zm ?_)
  refine Zu rfl (Zcb hg163) (Zb (Xj rfl rfl) (Zb (Z8 (Zcb hg163) (by conv => lhs; whnf)) ?_))
  refine Za ?_
  refine Zc ?_
  refine ZE rfl (fun hc0 => ?_) (fun hc0 => ?_)
  ·refine Zs (Zm (Zm ?_))
   refine Zb (XH ui_21 ui_5 rfl (wrap_u8 (by omega))) (Zw zE rfl (JZ w s c) ?_); intro v170 w1 E1 R1
   replace hX := hX.tr E1
   subst R1
   refine Za ?_
   refine Zc (ZB ?_)
   exact ⟨_, ZD (Zh rfl), hX, rfl⟩
  ·exact absurd (of_decide_eq_false hc0) (by omega)
 ·exact absurd (of_decide_eq_false hg163) (by omega)
set_option maxHeartbeats 1600000 in
theorem idxRuneH_ok (w : World) (r : Nat) (h128 : 128 ≤ r) (hv : Utf8.valid (r : Int) = true) : Fn Tryz.prog 249 #[Sv [43, 35], .int .i32 (r : Nat)] w fun u w' => u = .int .i64 (-1) := by
 obtain ⟨e, he, he2, he4, x, hx, hx8⟩ := runeText r (by omega) hv
 have hX := Ext.refl Non w
 refine Zfw (args := [_, _]) Tryz.func249 rfl rfl ?_
 refine Zs (Za ?_)
 refine Zc (ZO (Zs (Zm ?_)))
 refine Zb (rn_leq rfl rfl) (Zm ?_)
 refine Z3 (d := 163) rfl (fun hg163 => ?_) (fun hg163 => ?_)
 ·refine Zu rfl (Zcb hg163) (Zm ?_)
  refine Zu rfl (Zcb hg163) (Zb (Xj rfl rfl) (Zb (Z8 (Zcb hg163) (by conv => lhs; whnf)) ?_))
  refine Za ?_
  refine Zc ?_
  refine ZE rfl (fun hc0 => ?_) (fun hc0 => ?_)
  ·exact absurd (of_decide_eq_true hc0) (by omega)
  ·refine Zs (Zm ?_)
   refine Zb (Xc rfl rfl) (Za ?_)
   refine Zc ?_
   refine ZE rfl (fun hc1 => ?_) (fun hc1 => ?_)
   ·refine ZC (Zs (Zm ?_))
    refine wl_rangeS Qj rfl ?_; intro b175 w1 hb175 E1 hI175
    have hq175 := Zq hX hb175
    replace hX := hX.tr E1
    refine Zc (ZO (Xt (S := Nat) [175] (fun pos => [(Zpt b175)]) (fun pos A => (Ext Non w A) ∧ (IsIt A b175 [43, 35] pos ∧ pos ≤ 2)) (fun pos => 2 - pos) 0 ⟨rfl, trivial⟩ ⟨hX, ⟨hI175, by omega⟩⟩ ?_))
    rintro τ0 pos A0 ⟨hX, I0⟩
    obtain ⟨hI175, hp2⟩ := I0
    refine Zs (wl_nextS rfl hI175 ?_); intro w2 E2 hz2 hI176
    replace hX := hX.mine E2 (.inr hq175)
    refine Zb (ZM rfl (nx0 _ _)) (Zc (ZC ?_))
    refine ZE rfl (fun hc2 => ?_) (fun hc2 => ?_)
    ·have hlt : pos < ([43, 35] : Str).length := of_decide_eq_true hc2
     have hd : (dec [43, 35] pos).1 < 65533 ∧ (dec [43, 35] pos).2 = 1 := by (have h01 : pos = 0 ∨ pos = 1 := by simp at hlt; omega); rcases h01 with rfl | rfl; exact (by rw [dec_low (c := 43) rfl (by decide)]; decide); exact (by rw [dec_low (c := 35) rfl (by decide)]; decide)
     have hnx : nxP [43, 35] pos = pos + 1 := by unfold nxP; rw [if_pos hlt, hd.2]
     rw [hnx] at hI176
     refine ZF (ZO (Zs (Zb (ZM rfl (nx1 hlt)) (Zb (ZM rfl (nx2 hlt)) (Za (Za ?_))))))
     refine Zc (Zs (Zm ?_))
     refine Zb (Xc rfl rfl) (Zc ?_)
     refine ZE rfl (fun hc3 => ?_) (fun hc3 => ?_)
     ·exact absurd (of_decide_eq_true hc3) (by omega)
     ·refine ZF ?_
      exact ⟨rfl, pos + 1, ⟨rfl, trivial⟩, ⟨hX, ⟨hI176, by simp at hlt; omega⟩⟩, by simp at hlt; omega⟩
    ·refine XL ?_
     refine Zs (Za ?_)
     refine Zc (ZB ?_)
     exact ⟨_, ZD (Zh rfl), hX, rfl⟩
   ·refine Zs (Zm ?_)
    refine Zw zE rfl (validRune_ok w r hv) ?_; intro v185 w3 E3 R3
    replace hX := hX.tr E3
    subst R3
    refine Zb (Xy rfl) (Za ?_)
    refine Zc ?_
    refine ZE rfl (fun hc4 => ?_) (fun hc4 => ?_)
    ·exact absurd hc4 (by simp)
    ·refine W_scope ?_
     refine Zs (Zm ?_)
     refine Zb (Rn.cast (rn_runeText (by kernel_rfl) Qj rfl) (congrArg Value.string he)) (Za ?_)
     refine Zc (Zs (Zm ?_))
     refine Zb (Qe Qj rfl) (Zb (QS rfl rfl (by omega)) (Za ?_))
     refine Zc (Zs (Zm (Za ?_)))
     refine Zc (Zs (Za ?_))
     refine Zc (ZC (ZO (Xt (S := Unit) [0, 7, 8, 9] (fun _ => [Sv [43, 35], Sv e, .int .i64 ((e.length : Int) - 1), .int .i64 ((e.length : Int) - 1)]) (fun _ A => (Ext Non w A) ∧ (True)) (fun _ => 0) () ⟨rfl, rfl, rfl, rfl, trivial⟩ ⟨hX, trivial⟩ ?_)))
     rintro τ1 _ A1 ⟨hX, hI1⟩
     refine ZC (Zs (Zm (Zm ?_)))
     refine Zb (Qe Qj rfl) (Zb (Xj rfl rfl) (Zc ?_))
     refine ZE rfl (fun hc5 => ?_) (fun hc5 => ?_)
     ·have hlt2 := of_decide_eq_true hc5
      have hel : e.length = 2 := by simp at hlt2; omega
      have hto : ((e.length : Int) - 1).toNat = e.length - 1 := by omega
      have hto1 : ((e.length : Int) - 1).toNat = 1 := by omega
      refine ZF (ZO (W_scope (ZC (ZC (Qq mixed ?_))))); intro w4 E4
      replace hX := hX.tr E4
      have hS := Ext.refl Non w4
      refine Zd 0 rfl hS Zy ?_
      refine Zd 1 rfl hS Zy ?_
      refine Zd 2 rfl hS (ZG fun A hA => Qh Qj rfl rfl (by omega) (show ([43, 35] : Str)[((e.length : Int) - 1).toNat]? = some 35 by rw [hto1]; rfl)) ?_
      refine Zd 3 rfl hS Zy ?_
      refine Zd 4 rfl hS Zy ?_
      refine Zd 5 rfl hS (ZG fun A hA => Qh Qj rfl rfl (by omega) (by rw [hto]; exact hx)) (Zd 6 rfl hS (Zr (X2 rfl rfl)) ?_)
      refine Xw (by kernel_rfl) ?_ _
      replace hX := hX.tr hS
      refine ZE rfl (fun hc6 => ?_) (fun hc6 => ?_)
      ·refine ZC (Qq mixed ?_); intro w5 E5
       replace hX := hX.tr E5
       have hS := Ext.refl Non w5
       refine Zd 0 rfl hS Zy ?_
       refine Zd 1 rfl hS Zy ?_
       refine Zd 2 rfl hS (ZG fun A hA => Rn.cast (ZX rfl rfl (by omega)) (v' := .int .i64 ((2 : Nat) : Int)) (congrArg (Value.int .i64) (show (e.length : Int) - 1 + 1 = 2 by omega))) ?_
       refine Zd 3 rfl hS (ZG fun A hA => JC Qj (l := 2) (h := 2) rfl ⟨_, rfl⟩ rfl (by omega) (by first | omega | (simp only [List.length_cons, List.length_nil, List.length_append]; omega))) ?_
       refine Zd 4 rfl hS Zy ?_
       refine Zd 5 rfl hS Zy ?_
       refine Zd 6 rfl hS (ZG fun A hA => Qh Qj rfl rfl (by omega) (by rw [hto]; exact hx)) (Zp 7 rfl (ZK (Zw zE rfl (JZ w5 ((([43, 35] : Str).drop 2).take (2 - 2)) x) ?_))); intro v41 w6 E6 R6
       replace hS := hS.tr E6
       subst R6
       refine Zc ⟨hS, ?_⟩
       refine Zd 8 rfl hS (ZG fun A hA => Xm (by conv => lhs; whnf)) ?_
       refine Xw (by kernel_rfl) ?_ _
       replace hX := hX.tr hS
       refine ZC (Zs (Zm ?_))
       refine Zb (Xj rfl rfl) (Zc ?_)
       refine ZE rfl (fun hc7 => ?_) (fun hc7 => ?_)
       ·refine Zs (Za ?_)
        refine Zc (ZB ?_)
        exact ⟨_, ZD (Zh rfl), hX, rfl⟩
       ·exact absurd (of_decide_eq_false hc7) (by simp [fi])
      ·exact absurd (of_decide_eq_false hc6) (by simp only [ne_eq, Classical.not_not]; intro e; have e2 : (35 : Int) = x.toNat := e; omega)
     ·refine XL ?_
      refine ZC (Zs (Za ?_))
      refine Zc (ZB ?_)
      exact ⟨_, ZD (Zh rfl), hX, rfl⟩
 ·exact absurd (of_decide_eq_false hg163) (by omega)
theorem idxRune_ok (w : World) (s : Str) (i : Nat) (c : UInt8) (h : s[i]? = some c) : Fn Tryz.prog 249 #[Sv [43, 35], .int .i32 ((dec s i).1 : Nat)] w fun u w' => ∃ k : Int, u = .int .i64 k ∧ (0 ≤ k ↔ c = 43 ∨ c = 35) := by
 by_cases hc : c.toNat < 128
 ·rw [dec_low h hc]
  exact (idxRuneA_ok w [43, 35] c hc).mono fun v w' _ hv => ⟨_, hv, fi_two c⟩
 ·have hd := dec_high h (by omega)
  exact (idxRuneH_ok w (dec s i).1 hd.1 hd.2.2.1).mono fun v w' _ hv => ⟨_, hv, ⟨fun h => absurd h (by decide), fun h => by rcases h with rfl | rfl <;> exact absurd hc (by decide)⟩⟩
theorem step_over {s : Str} {i : Nat} {c x : UInt8} (h : s[i]? = some c) (hx : x = 43 ∨ x = 35) (hc : c ≠ x) (hno : ¬ x ∈ s.take i) : nxP s i ≤ s.length ∧ i < nxP s i ∧ ¬ x ∈ s.take (nxP s i) := by
 have hlt := (List.getElem?_eq_some_iff.1 h).1
 have e : nxP s i = i + (dec s i).2 := if_pos hlt
 rw [e]
 by_cases h8 : c.toNat < 128
 ·have hd : (dec s i).2 = 1 := by rw [dec_low h h8]
  rw [hd]
  refine ⟨by omega, by omega, gone_over hno fun j y h1 h2 hy => ?_⟩
  obtain rfl : j = i := by omega
  rw [h] at hy; cases hy; exact hc
 ·have hd := dec_high h (by omega)
  have hx8 : x.toNat < 128 := by rcases hx with rfl | rfl <;> decide
  refine ⟨?_, by have := hd.2.1; omega, gone_over hno fun j y h1 h2 hy => ?_⟩
  ·obtain ⟨y, hy, _⟩ := hd.2.2.2 (i + (dec s i).2 - 1) (by have := hd.2.1; omega) (by have := hd.2.1; omega)
   have := (List.getElem?_eq_some_iff.1 hy).1; have := hd.2.1; omega
  ·obtain ⟨z, hz, h3⟩ := hd.2.2.2 j h1 h2
   rw [hz] at hy; cases hy
   intro e; subst e; omega
set_option maxHeartbeats 1600000 in
theorem indexAnyS_ok (w : World) (s : Str) (hn : s.length ≤ 8) : Fn Tryz.prog 189 #[Sv s, Sv [43, 35]] w fun u w' => ∃ k : Int, u = .int .i64 k ∧ decide (k ≥ 0) = anyB s := by
 have hX := Ext.refl Non w
 refine Zfw (args := [_, _]) Tryz.func189 rfl rfl ?_
 refine Zs (Za ?_)
 refine Zc (ZC (Zs (Zm ?_)))
 refine Zb (Jv rfl rfl) (Zc ?_)
 refine ZE rfl (fun hc0 => ?_) (fun hc0 => ?_)
 ·exact absurd (of_decide_eq_true hc0) (by simp)
 ·refine ZF (ZC (Zs (Zm ?_)))
  refine Zb (Qe Qj rfl) (Zb (Xc rfl rfl) (Zc ?_))
  refine ZE rfl (fun hc1 => ?_) (fun hc1 => ?_)
  ·exact absurd (of_decide_eq_true hc1) (by simp)
  ·refine ZF (ZC (Zs (Zm ?_)))
   refine Zb (Qe Qj rfl) (Zw zE rfl (shouldUse_ok w (s.length : Nat)) ?_); intro v26 w1 E1 R1
   replace hX := hX.tr E1
   subst R1
   refine Zc ?_
   refine ZE rfl (fun hc2 => ?_) (fun hc2 => ?_)
   ·exact absurd (of_decide_eq_true hc2) (by omega)
   ·refine ZF (ZC (Zs (Zm ?_)))
    refine wl_rangeS Qj rfl ?_; intro b45 w2 hb45 E2 hI45
    have hq45 := Zq hX hb45
    replace hX := hX.tr E2
    refine Zc (ZO (Xt (S := Nat) [1, 45] (fun pos => [Sv [43, 35], (Zpt b45)]) (fun pos A => (Ext Non w A) ∧ (IsIt A b45 s pos ∧ pos ≤ s.length ∧ (¬ (43 : UInt8) ∈ s.take pos) ∧ ¬ (35 : UInt8) ∈ s.take pos)) (fun pos => s.length - pos) 0 ⟨rfl, rfl, trivial⟩ ⟨hX, ⟨hI45, Nat.zero_le _, by simp, by simp⟩⟩ ?_))
    rintro τ0 pos A0 ⟨hX, I0⟩
    obtain ⟨hI45, hpl, h43, h35⟩ := I0
    refine Zs (wl_nextS rfl hI45 ?_); intro w3 E3 hz3 hI46
    replace hX := hX.mine E3 (.inr hq45)
    refine Zb (ZM rfl (nx0 _ _)) (Zc (ZC ?_))
    refine ZE rfl (fun hc3 => ?_) (fun hc3 => ?_)
    ·have hlt : pos < s.length := of_decide_eq_true hc3
     obtain ⟨c, hcc⟩ : ∃ c, s[pos]? = some c := ⟨_, List.getElem?_eq_getElem hlt⟩
     refine ZF (ZO (Zs (Zb (ZM rfl (nx1 hlt)) (Zb (ZM rfl (nx2 hlt)) (Za (Za ?_))))))
     refine Zc (Zs (Zm (Zm ?_)))
     refine Zw zE rfl (idxRune_ok w3 s pos c hcc) ?_; intro v52 w4 E4 R4
     replace hX := hX.tr E4
     obtain ⟨k, rfl, hk⟩ := R4
     replace hI46 := hI46.ext E4 id
     refine Zb (X8 rfl rfl) (Zc ?_)
     refine ZE rfl (fun hc4 => ?_) (fun hc4 => ?_)
     ·have hR := anyB_yes hcc (hk.1 (of_decide_eq_true hc4))
      refine Zs (Zm (Za ?_))
      refine Zc (ZB ?_)
      exact ⟨_, ZD (Zh rfl), hX, ⟨_, rfl, by rw [hR]; exact decide_eq_true (by omega)⟩⟩
     ·have hno : ¬ (c = 43 ∨ c = 35) := fun h => of_decide_eq_false hc4 (hk.2 h)
      have hs1 := step_over hcc (.inl rfl) (fun e => hno (.inl e)) h43
      have hs2 := step_over hcc (.inr rfl) (fun e => hno (.inr e)) h35
      refine ZF ?_
      exact ⟨rfl, nxP s pos, ⟨rfl, rfl, trivial⟩, ⟨hX, ⟨hI46, hs1.1, hs1.2.2, hs2.2.2⟩⟩, by have := hs1.1; have := hs1.2.1; omega⟩
    ·have hge := of_decide_eq_false hc3
     rw [List.take_of_length_le (by omega)] at h43 h35
     have hR := anyB_no h43 h35
     refine XL ?_
     refine Zs (Za ?_)
     refine Zc (ZB ?_)
     exact ⟨_, ZD (Zh rfl), hX, ⟨_, rfl, by rw [hR]; rfl⟩⟩
theorem indexAny_ok (w : World) (s : Str) (hn : s.length ≤ 1000000) : Fn Tryz.prog 189 #[Sv s, Sv [43, 35]] w fun u w' => ∃ k : Int, u = .int .i64 k ∧ decide (k ≥ 0) = anyB s := by
 by_cases h8 : s.length ≤ 8
 ·exact indexAnyS_ok w s h8
 ·have hz116 := zero_of_info (P := Tryz.prog) (t := Tryz.lays153_ren.t 116) (v := .agg (Array.replicate 256 (.bool false))) (n := 256) (by kernel_rfl)
  have h := Any.strings_IndexAny_long Tryz.lays153 hz116.1 hz116.2 ⟨s.toArray⟩ ⟨([43, 35] : Str).toArray⟩ w (by rw [QJ]; decide) (by rw [QJ]; omega) (by rw [QJ]; omega) (by rw [QJ]; decide) (by intro j b hb; have := List.mem_of_getElem? hb; simp at this; rcases this with rfl | rfl <;> decide)
  refine Calls.mono h fun e w' ⟨he, hw⟩ => ⟨_, he, ?_, _, rfl, ?_⟩
  ·rw [hw]; exact (Ext.alloc _ _).trans (Ext.alloc _ _)
  ·exact indexAny_eq s
theorem containsAny_ok (w : World) (s : Str) (hn : s.length ≤ 1000000) : Fn Tryz.prog 114 #[Sv s, Sv [43, 35]] w fun u w' => u = .bool (anyB s) := by
 have hX := Ext.refl Non w
 refine Zfw (args := [_, _]) Tryz.func114 rfl rfl ?_
 refine Zs (Za ?_)
 refine Zc (Zs (Zm (Zm ?_)))
 refine Zw zE rfl (indexAny_ok w s hn) ?_; intro v7 w1 E1 R1
 replace hX := hX.tr E1
 obtain ⟨k, rfl, hk⟩ := R1
 refine Zb (X8 rfl rfl) (Za ?_)
 refine Zc (ZB ?_)
 exact ⟨_, ZD (Zh rfl), hX, by rw [← hk]; rfl⟩
theorem topicB_eq (s : Str) : Q7 s = (JK s && !anyB s) := by
 unfold Q7 anyB
 by_cases h1 : (43 : UInt8) ∈ s <;> by_cases h2 : (35 : UInt8) ∈ s <;> simp [h1, h2]
theorem ttopic_ok (w : World) (s : Str) (hn : s.length ≤ 1000000) : Fn Tryz.prog 59 #[Sv s] w fun u w' => u = .bool (Q7 s) := by
 have hX := Ext.refl Non w
 refine Zfw (args := [_]) Tryz.func59 rfl rfl ?_
 refine Zs (Za ?_)
 refine Zc (Zs (Zm ?_))
 refine Zw zE rfl (tsized_ok w s) ?_; intro v4 w1 E1 R1
 replace hX := hX.tr E1
 subst R1
 refine Zm ?_
 refine Z3 (d := 5) rfl (fun hg5 => ?_) (fun hg5 => ?_)
 ·refine Zu rfl (Zcb hg5) (Zm ?_)
  refine Zu rfl (Zcb hg5) (Zw zE rfl (containsAny_ok w1 s hn) ?_); intro v7 w2 E2 R2
  replace hX := hX.tr E2
  subst R2
  refine Zu rfl (Zcb hg5) (Zb (Xy rfl) (Zb (Z8 (Zcb hg5) (by conv => lhs; whnf)) ?_))
  refine Za ?_
  refine Zc (ZB ?_)
  exact ⟨_, ZD (Zh rfl), hX, by rw [topicB_eq, hg5]; rfl⟩
 ·refine ZU rfl (Zcb hg5) (ZU rfl (Zcb hg5) (ZU rfl (Zcb hg5) (Zb (ZQ (Zcb hg5) (by conv => lhs; whnf)) ?_)))
  refine Za ?_
  refine Zc (ZB ?_)
  exact ⟨_, ZD (Zh rfl), hX, by rw [topicB_eq, hg5]; rfl⟩
def Tells (fk : FuncId) (cap : Array Value) (w : World) (p : Str → Bool) : Prop := Xa Tryz.prog fk = true ∧ ∀ (A : World) (x : Str), x.length ≤ 1000000 → Ext Non w A → Fn Tryz.prog fk (#[Sv x] ++ cap) A fun u _ => u = .bool (p x)
theorem wl_tell {P : Program} {σ : Env} {w : World} {ty : TypeId} {pos : String} {af : Array Edge} {ops rest : List Oper} {K : Ops} {f : FuncId} {x y : Operand} {cap : Array Value} {ts : Array TypeId} {d : Nat} {s : Str} {b : Bool} (hx : ev σ x = .func (.func f) #[] cap) (hf : Xa P f = true) (hy : ev σ y = Sv s)
  (h : Fn P f (#[Sv s] ++ cap) w fun u _ => u = .bool b) (k : ∀ w', Ext Non w w' → wl P ops rest K (put σ (some d) (.bool b)) w') : wl P ops (⟨some d, .call ⟨.value x, #[y], ts⟩, ty, pos, af, none⟩ :: rest) K σ w :=
 JE hx hf (show [y].map (ev σ) = [Sv s] by simp [hy]) h fun e w' he => by obtain ⟨v, e1, e2, e3⟩ := he; subst e3; exact ⟨_, e1, k w' e2⟩
theorem like_yes {some : Str → Bool} {L T : List Str} {n : Nat} (h : L[n]? = Option.some [35]) (hn : n ≤ T.length) (hall : ∀ j, j < n → okAt some L T j ∧ L[j]? ≠ Option.some [35]) : QG some L T = true :=
 (Yb some L T).2 (.inl ⟨n, h, hn, fun j hj => (hall j hj).1⟩)
theorem like_no {some : Str → Bool} {L T : List Str} {n : Nat} {l : Str} (hl : L[n]? = Option.some l) (h35 : ¬ l = [35]) (hall : ∀ j, j < n → okAt some L T j ∧ L[j]? ≠ Option.some [35]) (hno : ¬ okAt some L T n) : QG some L T = false :=
 likeB_no (i := n) (fun j hj => by
  rcases Nat.lt_or_ge j n with h | h
  ·exact (hall j h).2
  ·obtain rfl : j = n := by omega
   rw [hl]; exact fun e => h35 (Option.some.inj e)) (List.getElem?_eq_some_iff.1 hl).1 hno
theorem not_okAt {some : Str → Bool} {L T : List Str} {n : Nat} {l t : Str} (hl : L[n]? = Option.some l) (ht : T[n]? = Option.some t) (h1 : ¬ l = t) (h2 : l = [43] → some t = false) : ¬ okAt some L T n := by
 rintro ⟨l2, t2, e1, e2, h3⟩
 rw [hl] at e1; rw [ht] at e2; cases e1; cases e2
 rcases h3 with h3 | ⟨h3, h4⟩
 ·exact h1 h3
 ·rw [h2 h3] at h4; cases h4
theorem not_okAt2 {some : Str → Bool} {L T : List Str} {n : Nat} (h : T.length ≤ n) : ¬ okAt some L T n := by
 rintro ⟨l2, t2, e1, e2, h3⟩
 rw [List.getElem?_eq_none h] at e2; cases e2
theorem like_end {some : Str → Bool} {L T : List Str} (hall : ∀ j, j < L.length → okAt some L T j ∧ L[j]? ≠ Option.some [35]) : QG some L T = decide ((L.length : Int) = (T.length : Int)) := by
 rw [likeB_end (fun j => by
  rcases Nat.lt_or_ge j L.length with h | h
  ·exact (hall j h).2
  ·rw [List.getElem?_eq_none h]; simp) (fun j hj => (hall j hj).1)]
 exact decide_eq_decide.2 (by omega)
theorem headIs_pre (c : UInt8) (s : Str) : Ji c s = decide (s.take 1 = [c]) := by cases s <;> simp [Ji]
theorem hasPrefix1_ok (w : World) (s : Str) (c : UInt8) (hn : s.length ≤ 1000000) : Fn Tryz.prog 342 #[Sv s, Sv [c]] w fun u w' => u = .bool (Ji c s) := by
 have hX := Ext.refl Non w
 refine Zfw (args := [_, _]) Tryz.func342 rfl rfl ?_
 refine Zs (Za ?_)
 refine Zc (Zs (Zm ?_))
 refine Zb (Qe Qj rfl) (Zm ?_)
 refine Zb (Qe Qj rfl) (Zb (X8 rfl rfl) (Zm ?_))
 refine Z3 (d := 10) rfl (fun hg10 => ?_) (fun hg10 => ?_)
 ·have hq := of_decide_eq_true hg10; simp only [List.length_singleton] at hq
  refine Zu rfl (Zcb hg10) (Zm ?_)
  refine Zu rfl (Zcb hg10) (Zm ?_)
  refine Zu rfl (Zcb hg10) (Zb (Qe Qj rfl) (Zu rfl (Zcb hg10) (Zb (JC Qj (l := 0) (h := 1) rfl rfl ⟨_, rfl⟩ (by omega) (by first | omega | (simp only [List.length_cons, List.length_nil, List.length_append]; omega))) ?_)))
  refine Zu rfl (Zcb hg10) (Zm ?_)
  refine Zu rfl (Zcb hg10) (Zb (Jv rfl rfl) (Zb (Z8 (Zcb hg10) (by conv => lhs; whnf)) ?_))
  refine Za ?_
  refine Zc (ZB ?_)
  exact ⟨_, ZD (Zh rfl), hX, by rw [headIs_pre]; show Value.bool (decide ((s.drop 0).take (1 - 0) = [c])) = _; rw [List.drop_zero]⟩
 ·have hq := of_decide_eq_false hg10; simp only [List.length_singleton] at hq
  refine ZU rfl (Zcb hg10) (ZU rfl (Zcb hg10) (ZU rfl (Zcb hg10) (ZU rfl (Zcb hg10) (ZU rfl (Zcb hg10) (ZU rfl (Zcb hg10) (Zb (ZQ (Zcb hg10) (by conv => lhs; whnf)) ?_))))))
  refine Za ?_
  refine Zc (ZB ?_)
  exact ⟨_, ZD (Zh rfl), hX, by rw [headIs_pre]; have e : s = [] := List.length_eq_zero_iff.1 (by omega); subst e; rfl⟩
theorem hasPrefix_ok (w : World) (s : Str) (c : UInt8) (hn : s.length ≤ 1000000) : Fn Tryz.prog 323 #[Sv s, Sv [c]] w fun u w' => u = .bool (Ji c s) := by
 have hX := Ext.refl Non w
 refine Zfw (args := [_, _]) Tryz.func323 rfl rfl ?_
 refine Zs (Za ?_)
 refine Zc (Zs (Zm (Zm ?_)))
 refine Zw zE rfl (hasPrefix1_ok w s c hn) ?_; intro v7 w1 E1 R1
 replace hX := hX.tr E1
 subst R1
 refine Za ?_
 refine Zc (ZB ?_)
 exact ⟨_, ZD (Zh rfl), hX, rfl⟩
theorem apart_ok (w : World) (f s : Str) (hnf : f.length ≤ 1000000) (hn : s.length ≤ 1000000) : Fn Tryz.prog 291 #[Sv f, Sv s] w fun u w' => u = .bool (wildB f && Ji 36 s) := by
 have hX := Ext.refl Non w
 refine Zfw (args := [_, _]) Tryz.func291 rfl rfl ?_
 refine Zs (Za ?_)
 refine Zc (Zs (Zm ?_))
 refine Zw zE rfl (twild_ok w f hnf) ?_; intro v6 w1 E1 R1
 replace hX := hX.tr E1
 subst R1
 refine Zm ?_
 refine Z3 (d := 7) rfl (fun hg7 => ?_) (fun hg7 => ?_)
 ·refine Zu rfl (Zcb hg7) (Zm ?_)
  refine Zu rfl (Zcb hg7) (Zw zE rfl (hasPrefix_ok w1 s 36 hn) ?_); intro v9 w2 E2 R2
  replace hX := hX.tr E2
  subst R2
  refine Zb (Z8 (Zcb hg7) (by conv => lhs; whnf)) ?_
  refine Za ?_
  refine Zc (ZB ?_)
  exact ⟨_, ZD (Zh rfl), hX, by have e : wildB f = true := hg7; rw [e]; rfl⟩
 ·refine ZU rfl (Zcb hg7) (ZU rfl (Zcb hg7) (Zb (ZQ (Zcb hg7) (by conv => lhs; whnf)) ?_))
  refine Za ?_
  refine Zc (ZB ?_)
  exact ⟨_, ZD (Zh rfl), hX, by have e : wildB f = false := hg7; rw [e]; rfl⟩
set_option maxHeartbeats 2000000 in
theorem like_ok (w : World) (f : Str) (T : List Str) (p : Str → Bool) {v : Value} {fk : FuncId} {cap : Array Value} (hnf : f.length ≤ 1000000) (hTl : ∀ t ∈ T, t.length ≤ 1000000) (hs : Sl Non w v 1 (T.map eS1)) (hp : Tells fk cap w p) : Fn Tryz.prog 292 #[Sv f, v, .func (.func fk) #[] cap] w fun u w' => u = .bool (QG p (spl 47 f) T) := by
 obtain ⟨a, c, rfl, hbg⟩ := hs.len
 simp only [List.length_map] at hs hbg ⊢
 have hsl := JH 47 f
 have hX := Ext.refl Non w
 refine Zfw (args := [_, _, _]) Tryz.func292 rfl rfl ?_
 refine Zs (ZP (by conv => lhs; whnf) rfl ?_); intro b4 w1 hb4 E1 B4
 have hq4 := Zq hX hb4
 have hl4 := Zl hX hb4
 replace hX := hX.tr E1
 refine ZP (by conv => lhs; whnf) rfl ?_; intro b5 w2 hb5 E2 B5
 have hn4_5 := Zn B4 hb5
 have hq5 := Zq hX hb5
 have hl5 := Zl hX hb5
 replace hX := hX.tr E2
 replace B4 := Zx B4 E2
 refine ZT z_4 ?_; intro b6 w3 hb6 E3 B6
 have hn4_6 := Zn B4 hb6
 have hn5_6 := Zn B5 hb6
 have hq6 := Zq hX hb6
 have hl6 := Zl hX hb6
 replace hX := hX.tr E3
 replace B4 := Zx B4 E3; replace B5 := Zx B5 E3
 refine Zc (Zs (ZT z_3 ?_)); intro b7 w4 hb7 E4 B7
 have hn4_7 := Zn B4 hb7
 have hn5_7 := Zn B5 hb7
 have hn6_7 := Zn B6 hb7
 have hq7 := Zq hX hb7
 have hl7 := Zl hX hb7
 replace hX := hX.tr E4
 replace B4 := Zx B4 E4; replace B5 := Zx B5 E4; replace B6 := Zx B6 E4
 refine ZN (b := b7) p_3 rfl (by conv => lhs; whnf) rfl rfl B7 Zbl ?_; intro w5 E5 B7 hz5
 replace hX := hX.mine E5 hl7
 replace B4 := B4.ext E5 (fun h => by omega); replace B5 := B5.ext E5 (fun h => by omega); replace B6 := B6.ext E5 (fun h => by omega)
 refine Zc (ZC (Zs (Zm ?_)))
 refine Zw zE rfl (each_ok w5 f (fun i => i = b6 ∨ i = b7) (fun i e => by rcases e with e | e; rw [e]; exact B6.lt; rw [e]; exact B7.lt) hnf) ?_; intro v11 w6 E6 R6
 replace hX := hX.tr E6
 replace B4 := Zx B4 E6; replace B5 := Zx B5 E6; replace B6 := Zx B6 E6; replace B7 := Zx B7 E6
 have It := R6; obtain ⟨fk2, ck, hfk, _⟩ := id It; subst hfk
 obtain ⟨wa, hwa⟩ : ∃ x, x = w6 := ⟨_, rfl⟩
 have hW : Ext (fun i => i = b6 ∨ i = b7) wa w6 := by rw [hwa]; exact Ext.refl _ _
 have hIt2 := It; rw [← hwa] at hIt2; have hz6 : b6 < wa.heap.size := by rw [hwa]; exact B6.lt
 have hz7 : b7 < wa.heap.size := by rw [hwa]; exact B7.lt
 refine Zc (ZO ?_)
 have hszr := hX.size
 have hsz_hW := hW.size
 have ho4 : w.heap.size ≤ b4 := by rcases hl4 with h | h; exact h.elim; exact h
 have ho5 : w.heap.size ≤ b5 := by rcases hl5 with h | h; exact h.elim; exact h
 have ho6 : w.heap.size ≤ b6 := by rcases hl6 with h | h; exact h.elim; exact h
 have ho7 : w.heap.size ≤ b7 := by rcases hl7 with h | h; exact h.elim; exact h
 refine Qb (M := fun i => i = b6 ∨ i = b7) (w0 := wa) (I := fun pre N A => Box N A b4 [.slice a T.length c] ∧ Box N A b5 [.func (.func fk) #[] cap] ∧ Box N A b6 [.bool false] ∧ Box N A b7 [.int .i64 (pre.length : Nat)] ∧ Ext Non w A ∧ Ext (fun i => i = b6 ∨ i = b7) wa A ∧ MkN w [] N A ∧ ((∀ j, j < pre.length → okAt p (spl 47 f) T j ∧ (spl 47 f)[j]? ≠ some [35]) ∧ pre.length ≤ T.length)) (X := fun c N A => c = .ret ∧ Box N A b6 [.bool (QG p (spl 47 f) T)] ∧ Ext Non w A ∧ Ext (fun i => i = b6 ∨ i = b7) wa A ∧ MkN w [] N A ∧ (True)) (encs := fun p : Nat × Str => [.int .i64 (p.1 : Nat), Sv p.2]) (xs := Jh (spl 47 f)) rfl (hIt2) (hW) (fun _ => rfl) (fun pre => (Z6.box _ _).and ((Z6.box _ _).and ((Z6.box _ _).and ((Z6.box _ _).and ((Z6.old hX.size).and ((Z6.oldM hW.size).and ((Z6.mk _ _).and ((Z6.pure _))))))))) (fun c => (Z6.pure _).and ((Z6.box _ _).and ((Z6.old hX.size).and ((Z6.oldM hW.size).and ((Z6.mk _ _).and ((Z6.pure _))))))) ⟨⟨B4, id⟩, ⟨B5, id⟩, ⟨B6, id⟩, ⟨B7, id⟩, hX, hW, (Mk.nil : Mk w [] _).toN, ⟨fun j h => absurd h (Nat.not_lt_zero _), Nat.zero_le _⟩⟩ ?_ ?_ ?_
 ·rintro l N pre x A hl hN hA hst ⟨hK4, hK5, hK6, hK7, hXo, hW, Dk, Ir⟩ ⟨post, hpre⟩
  have B4 := hK4.1
  have B5 := hK5.1
  have B6 := hK6.1; have hl6 : Xo (Yc (fun i => i = b6 ∨ i = b7) wa N) A b6 := .inl ⟨hK6.2, .inl (.inl rfl)⟩
  have B7 := hK7.1; have hl7 : Xo (Yc (fun i => i = b6 ∨ i = b7) wa N) A b7 := .inl ⟨hK7.2, .inl (.inr rfl)⟩
  have hX := Ext.refl (Yc (fun i => i = b6 ∨ i = b7) wa N) A
  refine Zs (Za ?_)
  refine Zc (ZJ (Za ?_))
  refine Zc ?_
  refine ⟨rfl, hX, fun A2 E2r hz2r hst2 => ?_⟩
  have hNl := (hN l hl).2
  replace B4 := B4.ext E2r (fun e => hK4.2 (by rw [e]; exact hl))
  replace B5 := B5.ext E2r (fun e => hK5.2 (by rw [e]; exact hl))
  replace B6 := B6.ext E2r (fun e => hK6.2 (by rw [e]; exact hl))
  replace B7 := B7.ext E2r (fun e => hK7.2 (by rw [e]; exact hl))
  replace hXo := hXo.mine E2r (.inr (Zle hszr (hN l hl).1)); replace Dk := Dk.lp E2r hl
  replace hW := hW.mine E2r (.inr (Zle hsz_hW (hN l hl).1))
  have hl6 : Xo (Yc (fun i => i = b6 ∨ i = b7) wa N) A2 b6 := .inl ⟨hK6.2, .inl (.inl rfl)⟩
  have hl7 : Xo (Yc (fun i => i = b6 ∨ i = b7) wa N) A2 b7 := .inl ⟨hK7.2, .inl (.inr rfl)⟩
  have hX := Ext.refl (Yc (fun i => i = b6 ∨ i = b7) wa N) A2
  obtain ⟨hxi, hxl, hxp⟩ := numb_at (i := x.1) (x := x.2) (post := post) (pre := pre) (by rw [hpre])
  have hxlt := (List.getElem?_eq_some_iff.1 hxl).1
  have hprl := Ir.2
  refine ZO ?_
  refine ZC (Zs (Zm ?_))
  refine Zb (Jv rfl rfl) (Zc ?_)
  refine ZE rfl (fun hc0 => ?_) (fun hc0 => ?_)
  ·have hR : QG p (spl 47 f) T = true := like_yes (by rw [← hxi, hxl, of_decide_eq_true hc0]) (by omega) Ir.1
   refine Zs ?_
   have Bo := B6
   refine ZN (b := b6) p_4 rfl (by conv => lhs; whnf) rfl rfl B6 Zbl ?_; intro w7 E7 B6 hz7
   replace hX := hX.mine E7 hl6
   replace B4 := B4.ext E7 (fun h => by omega); replace B5 := B5.ext E7 (fun h => by omega); replace B7 := B7.ext E7 (fun h => by omega)
   replace hXo := hXo.mine E7 (.inr ho6)
   replace Dk := Dk.box E7 Bo
   replace hW := hW.mine E7 (.inl (by first | exact .inl rfl | exact .inr rfl))
   refine Zc (ZB ?_)
   replace B6 := B6.cast (cs' := [Value.bool (QG p (spl 47 f) T)]) (by rw [hR] <;> rfl)
   exact ⟨hX, rfl, ⟨B6, hK6.2⟩, hXo, hW, Dk, trivial⟩
  ·have q35 : ¬ x.2 = [35] := of_decide_eq_false hc0
   refine ZF (ZC (ZC (Qq mixed ?_))); intro w8 E8
   replace hX := hX.tr E8
   replace B4 := Zx B4 E8; replace B5 := Zx B5 E8; replace B6 := Zx B6 E8; replace B7 := Zx B7 E8
   replace hXo := hXo.tr E8
   replace Dk := Dk.non E8
   replace hW := hW.tr E8
   have hS := Ext.refl Non w8
   refine Zd 0 rfl hS Zy ?_
   refine Zd 1 rfl hS (Zv p_28 rfl B4 rfl) (Zd 2 rfl hS (Zr (Z1 Xq rfl)) (Zd 3 rfl hS (Zr (X8 rfl rfl)) (Zd 4 rfl hS Zy ?_)))
   refine wd_split (d := 20) rfl (fun hg20 => ?_) (fun hg20 => ?_)
   ·have hR : QG p (spl 47 f) T = false := like_no hxl q35 (by rw [hxi]; exact Ir.1) (not_okAt2 (by have := of_decide_eq_true hg20; omega))
    refine Zd 5 rfl hS (Qt rfl (Zcb hg20)) (Zd 6 rfl hS (Qt rfl (Zcb hg20)) (Zd 7 rfl hS (Qt rfl (Zcb hg20)) (Zd 8 rfl hS (Qt rfl (Zcb hg20)) (Zd 9 rfl hS (Qt rfl (Zcb hg20)) (Zd 10 rfl hS (Qt rfl (Zcb hg20)) (Zd 11 rfl hS (Qt rfl (Zcb hg20)) (Zd 12 rfl hS (QX rfl rfl) (Zd 13 rfl hS (QX rfl rfl) ?_))))))))
    refine Zd 14 rfl hS (QX rfl rfl) (Zd 15 rfl hS (QX rfl rfl) (Zd 16 rfl hS (QX rfl rfl) (Zd 17 rfl hS (QX rfl rfl) (Zd 18 rfl hS (QX rfl rfl) (Zd 19 rfl hS (QX rfl rfl) (Zp 20 rfl ?_))))))
    refine s1_nou rfl rfl ⟨hS, ?_⟩
    refine Zd 21 rfl hS (QX rfl rfl) (Zd 22 rfl hS (QX rfl rfl) (Zd 23 rfl hS (Qt rfl (Zcb hg20)) (Zd 24 rfl hS (ZG fun A hA => Z8 (Zcb hg20) (by conv => lhs; whnf)) ?_)))
    refine Xw (by kernel_rfl) ?_ _
    replace hX := hX.tr hS
    replace B4 := Zx B4 hS; replace B5 := Zx B5 hS; replace B6 := Zx B6 hS; replace B7 := Zx B7 hS
    replace hXo := hXo.tr hS
    replace Dk := Dk.non hS
    replace hW := hW.tr hS
    refine Qr rfl ?_
    refine Zs ?_
    have Bo := B6
    refine ZN (b := b6) p_4 rfl (by conv => lhs; whnf) rfl rfl B6 Zbl ?_; intro w9 E9 B6 hz9
    replace hX := hX.mine E9 hl6
    replace B4 := B4.ext E9 (fun h => by omega); replace B5 := B5.ext E9 (fun h => by omega); replace B7 := B7.ext E9 (fun h => by omega)
    replace hXo := hXo.mine E9 (.inr ho6)
    replace Dk := Dk.box E9 Bo
    replace hW := hW.mine E9 (.inl (by first | exact .inl rfl | exact .inr rfl))
    refine Zc (ZB ?_)
    replace B6 := B6.cast (cs' := [Value.bool (QG p (spl 47 f) T)]) (by rw [hR] <;> rfl)
    exact ⟨hX, rfl, ⟨B6, hK6.2⟩, hXo, hW, Dk, trivial⟩
   ·have hxT : x.1 < T.length := by have := of_decide_eq_false hg20; omega
    obtain ⟨t, ht⟩ : ∃ t, T[x.1]? = some t := ⟨_, List.getElem?_eq_getElem hxT⟩
    obtain ⟨bt, ot, eat⟩ := hs.base (by intro e; have := congrArg List.length e; simp only [List.length_map, List.length_nil] at this; omega)
    refine Zd 5 rfl hS (Z7 rfl (Zcb hg20) fun A hA => XO (by conv => lhs; whnf)) ?_
    refine Zd 6 rfl hS (Z7 rfl (Zcb hg20) fun A hA => Zi p_28 rfl (B4.ext hA id) rfl) (Zd 7 rfl hS (Z7 rfl (Zcb hg20) fun A hA => XO (by conv => lhs; whnf)) ?_)
    refine Zd 8 rfl hS (Z7 rfl (Zcb hg20) fun A hA => ZH Xq (a := ⟨bt, ot, none⟩) (n := T.length) (c := c) (by rw [← eat]; rfl) rfl (by omega)) ?_
    refine Zd 9 rfl hS (Z7 rfl (Zcb hg20) fun A hA => Xb p_9 rfl ((((eat ▸ hs : Sl Non w (.slice (some ⟨bt, ot, none⟩) T.length c) 1 (T.map eS1)).ext hXo (fun _ h => h)).ext hA (fun _ h => h.elim)).at0 (eS_at (i := ((x.1 : Nat) : Int).toNat) ht) rfl)) ?_
    refine Zd 10 rfl hS (Z7 rfl (Zcb hg20) fun A hA => rn_sneq rfl rfl) (Zd 11 rfl hS (Z7 rfl (Zcb hg20) fun A hA => XO (by conv => lhs; whnf)) ?_)
    refine wd_split (d := 27) rfl (fun hg27 => ?_) (fun hg27 => ?_)
    ·have q1 : ¬ x.2 = t := by simpa using of_decide_eq_true hg27
     refine Zd 12 rfl hS (Z7 rfl (Zcb hg27) fun A hA => XO (by conv => lhs; whnf)) ?_
     refine Zd 13 rfl hS (Z7 rfl (Zcb hg27) fun A hA => Jv rfl rfl) (Zd 14 rfl hS (Z7 rfl (Zcb hg27) fun A hA => XO (by conv => lhs; whnf)) ?_)
     refine wd_split (d := 30) rfl (fun hg30 => ?_) (fun hg30 => ?_)
     ·have q2 : x.2 = [43] := of_decide_eq_true hg30
      refine Zd 15 rfl hS (Z7 rfl (Zcb hg30) fun A hA => Zi p_70 rfl (B5.ext hA id) rfl) (Zd 16 rfl hS (Z7 rfl (Zcb hg30) fun A hA => Zi p_28 rfl (B4.ext hA id) rfl) (Zd 17 rfl hS (Z7 rfl (Zcb hg30) fun A hA => XO (by conv => lhs; whnf)) ?_))
      refine Zd 18 rfl hS (Z7 rfl (Zcb hg30) fun A hA => ZH Xq (a := ⟨bt, ot, none⟩) (n := T.length) (c := c) (by rw [← eat]; rfl) rfl (by omega)) ?_
      refine Zd 19 rfl hS (Z7 rfl (Zcb hg30) fun A hA => Xb p_9 rfl ((((eat ▸ hs : Sl Non w (.slice (some ⟨bt, ot, none⟩) T.length c) 1 (T.map eS1)).ext hXo (fun _ h => h)).ext hA (fun _ h => h.elim)).at0 (eS_at (i := ((x.1 : Nat) : Int).toNat) ht) rfl)) ?_
      refine Zp 20 rfl (s1_yes rfl (Zcb hg30) (wl_tell (s := t) rfl hp.1 rfl (hp.2 w8 t (hTl t (List.mem_of_getElem? ht)) (hXo.tr hS)) ?_)); intro w10 E10
      replace hS := hS.tr E10
      refine Zc ⟨hS, ?_⟩
      refine Zd 21 rfl hS (Z7 rfl (Zcb hg27) fun A hA => Z8 (Zcb hg30) (by conv => lhs; whnf)) ?_
      refine Zd 22 rfl hS (Z7 rfl (Zcb hg27) fun A hA => Xy rfl) (Zd 23 rfl hS (Z7 rfl (Zcb hg20) fun A hA => Z8 (Zcb hg27) (by conv => lhs; whnf)) ?_)
      refine Zd 24 rfl hS (ZG fun A hA => ZQ (Zcb hg20) (by conv => lhs; whnf)) ?_
      refine Xw (by kernel_rfl) ?_ _
      replace hX := hX.tr hS
      replace B4 := Zx B4 hS; replace B5 := Zx B5 hS; replace B6 := Zx B6 hS; replace B7 := Zx B7 hS
      replace hXo := hXo.tr hS
      replace Dk := Dk.non hS
      replace hW := hW.tr hS
      refine ZE rfl (fun hc1 => ?_) (fun hc1 => ?_)
      ·have hR : QG p (spl 47 f) T = false := by first | assumption | exact like_no hxl q35 (by rw [hxi]; exact Ir.1) (not_okAt hxl ht q1 (fun _ => by simpa using hc1))
       refine Zs ?_
       have Bo := B6
       refine ZN (b := b6) p_4 rfl (by conv => lhs; whnf) rfl rfl B6 Zbl ?_; intro w11 E11 B6 hz11
       replace hX := hX.mine E11 hl6
       replace B4 := B4.ext E11 (fun h => by omega); replace B5 := B5.ext E11 (fun h => by omega); replace B7 := B7.ext E11 (fun h => by omega)
       replace hXo := hXo.mine E11 (.inr ho6)
       replace Dk := Dk.box E11 Bo
       replace hW := hW.mine E11 (.inl (by first | exact .inl rfl | exact .inr rfl))
       refine Zc (ZB ?_)
       replace B6 := B6.cast (cs' := [Value.bool (QG p (spl 47 f) T)]) (by rw [hR] <;> rfl)
       exact ⟨hX, rfl, ⟨B6, hK6.2⟩, hXo, hW, Dk, trivial⟩
      ·have hok : okAt p (spl 47 f) T x.1 := by first | assumption | exact ⟨x.2, t, hxl, ht, .inr ⟨q2, by simpa using hc1⟩⟩ | exact absurd hc1 (by simp)
       refine ZF (ZJ (Zb (Zi p_3 rfl B7 rfl) (Zb (ZX rfl rfl (by omega)) ?_)))
       have Bo := B7
       refine ZN (b := b7) p_3 rfl (by conv => lhs; whnf) rfl rfl B7 Zbl ?_; intro w12 E12 B7 hz12
       replace hX := hX.mine E12 hl7
       replace B4 := B4.ext E12 (fun h => by omega); replace B5 := B5.ext E12 (fun h => by omega); replace B6 := B6.ext E12 (fun h => by omega)
       replace hXo := hXo.mine E12 (.inr ho7)
       replace Dk := Dk.box E12 Bo
       replace hW := hW.mine E12 (.inl (by first | exact .inl rfl | exact .inr rfl))
       refine Zc ?_
       replace B7 := B7.cast (show [Value.int .i64 ((pre.length : Int) + 1)] = [.int .i64 ((pre ++ [x]).length : Nat)] by simp)
       exact ⟨hX, ⟨B4, hK4.2⟩, ⟨B5, hK5.2⟩, ⟨B6, hK6.2⟩, ⟨B7, hK7.2⟩, hXo, hW, Dk, ⟨fun j hj => by rw [List.length_append, List.length_singleton] at hj; rcases Nat.lt_or_ge j pre.length with h | h; exact Ir.1 j h; (have e : j = x.1 := by omega); subst e; exact ⟨hok, by rw [hxl]; exact fun e => q35 (Option.some.inj e)⟩, by rw [List.length_append, List.length_singleton]; omega⟩⟩
     ·have hR : QG p (spl 47 f) T = false := like_no hxl q35 (by rw [hxi]; exact Ir.1) (not_okAt hxl ht q1 (fun e => absurd e (of_decide_eq_false hg30)))
      refine Zd 15 rfl hS (Qt rfl (Zcb hg30)) (Zd 16 rfl hS (Qt rfl (Zcb hg30)) (Zd 17 rfl hS (Qt rfl (Zcb hg30)) (Zd 18 rfl hS (Qt rfl (Zcb hg30)) (Zd 19 rfl hS (Qt rfl (Zcb hg30)) (Zp 20 rfl ?_)))))
      refine s1_no rfl (Zcb hg30) ⟨hS, ?_⟩
      refine Zd 21 rfl hS (Z7 rfl (Zcb hg27) fun A hA => ZQ (Zcb hg30) (by conv => lhs; whnf)) ?_
      refine Zd 22 rfl hS (Z7 rfl (Zcb hg27) fun A hA => Xy rfl) (Zd 23 rfl hS (Z7 rfl (Zcb hg20) fun A hA => Z8 (Zcb hg27) (by conv => lhs; whnf)) ?_)
      refine Zd 24 rfl hS (ZG fun A hA => ZQ (Zcb hg20) (by conv => lhs; whnf)) ?_
      refine Xw (by kernel_rfl) ?_ _
      replace hX := hX.tr hS
      replace B4 := Zx B4 hS; replace B5 := Zx B5 hS; replace B6 := Zx B6 hS; replace B7 := Zx B7 hS
      replace hXo := hXo.tr hS
      replace Dk := Dk.non hS
      replace hW := hW.tr hS
      refine ZE rfl (fun hc1 => ?_) (fun hc1 => ?_)
      ·have hR : QG p (spl 47 f) T = false := by first | assumption | exact like_no hxl q35 (by rw [hxi]; exact Ir.1) (not_okAt hxl ht q1 (fun _ => by simpa using hc1))
       refine Zs ?_
       have Bo := B6
       refine ZN (b := b6) p_4 rfl (by conv => lhs; whnf) rfl rfl B6 Zbl ?_; intro w13 E13 B6 hz13
       replace hX := hX.mine E13 hl6
       replace B4 := B4.ext E13 (fun h => by omega); replace B5 := B5.ext E13 (fun h => by omega); replace B7 := B7.ext E13 (fun h => by omega)
       replace hXo := hXo.mine E13 (.inr ho6)
       replace Dk := Dk.box E13 Bo
       replace hW := hW.mine E13 (.inl (by first | exact .inl rfl | exact .inr rfl))
       refine Zc (ZB ?_)
       replace B6 := B6.cast (cs' := [Value.bool (QG p (spl 47 f) T)]) (by rw [hR] <;> rfl)
       exact ⟨hX, rfl, ⟨B6, hK6.2⟩, hXo, hW, Dk, trivial⟩
      ·have hok : okAt p (spl 47 f) T x.1 := by first | assumption | exact ⟨x.2, t, hxl, ht, .inr ⟨q2, by simpa using hc1⟩⟩ | exact absurd hc1 (by simp)
       refine ZF (ZJ (Zb (Zi p_3 rfl B7 rfl) (Zb (ZX rfl rfl (by omega)) ?_)))
       have Bo := B7
       refine ZN (b := b7) p_3 rfl (by conv => lhs; whnf) rfl rfl B7 Zbl ?_; intro w14 E14 B7 hz14
       replace hX := hX.mine E14 hl7
       replace B4 := B4.ext E14 (fun h => by omega); replace B5 := B5.ext E14 (fun h => by omega); replace B6 := B6.ext E14 (fun h => by omega)
       replace hXo := hXo.mine E14 (.inr ho7)
       replace Dk := Dk.box E14 Bo
       replace hW := hW.mine E14 (.inl (by first | exact .inl rfl | exact .inr rfl))
       refine Zc ?_
       replace B7 := B7.cast (show [Value.int .i64 ((pre.length : Int) + 1)] = [.int .i64 ((pre ++ [x]).length : Nat)] by simp)
       exact ⟨hX, ⟨B4, hK4.2⟩, ⟨B5, hK5.2⟩, ⟨B6, hK6.2⟩, ⟨B7, hK7.2⟩, hXo, hW, Dk, ⟨fun j hj => by rw [List.length_append, List.length_singleton] at hj; rcases Nat.lt_or_ge j pre.length with h | h; exact Ir.1 j h; (have e : j = x.1 := by omega); subst e; exact ⟨hok, by rw [hxl]; exact fun e => q35 (Option.some.inj e)⟩, by rw [List.length_append, List.length_singleton]; omega⟩⟩
    ·have hok : okAt p (spl 47 f) T x.1 := ⟨x.2, t, hxl, ht, .inl (by simpa using of_decide_eq_false hg27)⟩
     refine Zd 12 rfl hS (Qt rfl (Zcb hg27)) (Zd 13 rfl hS (Qt rfl (Zcb hg27)) (Zd 14 rfl hS (Qt rfl (Zcb hg27)) (Zd 15 rfl hS (QX rfl rfl) (Zd 16 rfl hS (QX rfl rfl) (Zd 17 rfl hS (QX rfl rfl) (Zd 18 rfl hS (QX rfl rfl) (Zd 19 rfl hS (QX rfl rfl) (Zp 20 rfl ?_))))))))
     refine s1_nou rfl rfl ⟨hS, ?_⟩
     refine Zd 21 rfl hS (Qt rfl (Zcb hg27)) (Zd 22 rfl hS (Qt rfl (Zcb hg27)) (Zd 23 rfl hS (Z7 rfl (Zcb hg20) fun A hA => ZQ (Zcb hg27) (by conv => lhs; whnf)) ?_))
     refine Zd 24 rfl hS (ZG fun A hA => ZQ (Zcb hg20) (by conv => lhs; whnf)) ?_
     refine Xw (by kernel_rfl) ?_ _
     replace hX := hX.tr hS
     replace B4 := Zx B4 hS; replace B5 := Zx B5 hS; replace B6 := Zx B6 hS; replace B7 := Zx B7 hS
     replace hXo := hXo.tr hS
     replace Dk := Dk.non hS
     replace hW := hW.tr hS
     refine Xu rfl ?_
     refine ZF (ZJ (Zb (Zi p_3 rfl B7 rfl) (Zb (ZX rfl rfl (by omega)) ?_)))
     have Bo := B7
     refine ZN (b := b7) p_3 rfl (by conv => lhs; whnf) rfl rfl B7 Zbl ?_; intro w15 E15 B7 hz15
     replace hX := hX.mine E15 hl7
     replace B4 := B4.ext E15 (fun h => by omega); replace B5 := B5.ext E15 (fun h => by omega); replace B6 := B6.ext E15 (fun h => by omega)
     replace hXo := hXo.mine E15 (.inr ho7)
     replace Dk := Dk.box E15 Bo
     replace hW := hW.mine E15 (.inl (by first | exact .inl rfl | exact .inr rfl))
     refine Zc ?_
     replace B7 := B7.cast (show [Value.int .i64 ((pre.length : Int) + 1)] = [.int .i64 ((pre ++ [x]).length : Nat)] by simp)
     exact ⟨hX, ⟨B4, hK4.2⟩, ⟨B5, hK5.2⟩, ⟨B6, hK6.2⟩, ⟨B7, hK7.2⟩, hXo, hW, Dk, ⟨fun j hj => by rw [List.length_append, List.length_singleton] at hj; rcases Nat.lt_or_ge j pre.length with h | h; exact Ir.1 j h; (have e : j = x.1 := by omega); subst e; exact ⟨hok, by rw [hxl]; exact fun e => q35 (Option.some.inj e)⟩, by rw [List.length_append, List.length_singleton]; omega⟩⟩
 ·rintro N rk w' ⟨hK4, hK5, hK6, hK7, hXo, hW, Dk, Ir⟩ hN hA hr hrd
  have B4 := hK4.1
  have B5 := hK5.1
  have B6 := hK6.1
  have B7 := hK7.1
  have hX := hXo; have hD := Dk.add hrd (Zle hszr (hN rk hr).1) hr
  refine Zs (Zb (Zi p_3 rfl B7 rfl) (Zb (Zi p_28 rfl B4 rfl) (Zb (Z1 Xq rfl) (Zb (Xc rfl rfl) ?_))))
  have Bo := B6
  refine ZN (b := b6) p_4 rfl (by conv => lhs; whnf) rfl rfl B6 Zbl ?_; intro w16 E16 B6 hz16
  replace hX := hX.mine E16 hl6
  replace B4 := B4.ext E16 (fun h => by omega); replace B5 := B5.ext E16 (fun h => by omega); replace B7 := B7.ext E16 (fun h => by omega)
  replace hD := hD.box E16 Bo
  refine Zc (ZB (hD.leave fun B hB => ?_))
  have B4 := B4.ext hB (hD.ne B4)
  have B5 := B5.ext hB (hD.ne B5)
  have B6 := B6.ext hB (hD.ne B6)
  have B7 := B7.ext hB (hD.ne B7)
  have hX := hD.out hX hB
  exact ⟨_, ZD (Q4 p_4 rfl B6), hX, by rw [like_end (fun j hj => Ir.1 j (by rw [numb_len]; exact hj)), numb_len]⟩
 ·rintro c N rk w' ⟨rfl, hK6, hXo, hW, Dk, Ir⟩ hN hA hr hrd
  have B6 := hK6.1
  have hX := hXo; have hD := Dk.add hrd (Zle hszr (hN rk hr).1) hr
  refine ZB (hD.leave fun B hB => ?_)
  have B6 := B6.ext hB (hD.ne B6)
  have hX := hD.out hX hB
  exact ⟨_, ZD (Q4 p_4 rfl B6), hX, rfl⟩
theorem match1_ok (w : World) (x : Str) : Fn Tryz.prog 293 #[Sv x] w fun u w' => u = .bool true := by
 have hX := Ext.refl Non w
 refine Zfw (args := [_]) Tryz.func293 rfl rfl ?_
 refine Zs (Za ?_)
 refine Zc (Zs (Za ?_))
 refine Zc (ZB ?_)
 exact ⟨_, ZD (Zh rfl), hX, rfl⟩
theorem tells_any (w : World) : Tells 293 #[] w anyS := ⟨zE, fun A x _ _ => match1_ok A x⟩
set_option maxHeartbeats 800000 in
theorem tmatch_ok (w : World) (f t : Str) (hnf : f.length ≤ 1000000) (hnt : t.length ≤ 1000000) : Fn Tryz.prog 241 #[Sv f, Sv t] w fun u w' => u = .bool (Q1 f t) := by
 have hX := Ext.refl Non w
 refine Zfw (args := [_, _]) Tryz.func241 rfl rfl ?_
 refine Zs (Za ?_)
 refine Zc (ZC (Zs (Zm ?_)))
 refine Zw zE rfl (tfilter_ok w f hnf) ?_; intro v6 w1 E1 R1
 replace hX := hX.tr E1
 subst R1
 refine Zb (Xy rfl) (Zm ?_)
 refine Z3 (d := 8) rfl (fun hg8 => ?_) (fun hg8 => ?_)
 ·have hR : Q1 f t = false := match_no1 (by simpa using hg8)
  refine ZU rfl (Zcb hg8) (ZU rfl (Zcb hg8) (ZU rfl (Zcb hg8) (Zb (Z8 (Zcb hg8) (by conv => lhs; whnf)) ?_)))
  refine Zm ?_
  refine ZU rfl rfl (ZU rfl rfl (ZU rfl rfl (Zb (Z8 rfl (by conv => lhs; whnf)) ?_)))
  refine Zc (Qr rfl (Zs (Za ?_)))
  refine Zc (ZB ?_)
  exact ⟨_, ZD (Zh rfl), hX, by rw [hR]; rfl⟩
 ·have hF : XJ f = true := by simpa using hg8
  refine Zu rfl (Zcb hg8) (Zm ?_)
  refine Zu rfl (Zcb hg8) (Zw zE rfl (ttopic_ok w1 t hnt) ?_); intro v10 w2 E2 R2
  replace hX := hX.tr E2
  subst R2
  refine Zu rfl (Zcb hg8) (Zb (Xy rfl) (Zb (ZQ (Zcb hg8) (by conv => lhs; whnf)) ?_))
  refine Zm ?_
  refine Z3 (d := 13) rfl (fun hg13 => ?_) (fun hg13 => ?_)
  ·have hR : Q1 f t = false := match_no2 (by simpa using hg13)
   refine ZU rfl (Zcb hg13) (ZU rfl (Zcb hg13) (ZU rfl (Zcb hg13) (Zb (Z8 (Zcb hg13) (by conv => lhs; whnf)) ?_)))
   refine Zc (Qr rfl (Zs (Za ?_)))
   refine Zc (ZB ?_)
   exact ⟨_, ZD (Zh rfl), hX, by rw [hR]; rfl⟩
  ·have hP : Q7 t = true := by simpa using hg13
   refine Zu rfl (Zcb hg13) (Zm ?_)
   refine Zu rfl (Zcb hg13) (Zm ?_)
   refine Zu rfl (Zcb hg13) (Zw zE rfl (apart_ok w2 f t hnf hnt) ?_); intro v16 w3 E3 R3
   replace hX := hX.tr E3
   subst R3
   refine Zb (ZQ (Zcb hg13) (by conv => lhs; whnf)) ?_
   refine Zc ?_
   refine ZE rfl (fun hc0 => ?_) (fun hc0 => ?_)
   ·have hR : Q1 f t = false := by first | assumption | exact match_no3 hc0
    refine Zs (Za ?_)
    refine Zc (ZB ?_)
    exact ⟨_, ZD (Zh rfl), hX, by rw [hR]; rfl⟩
   ·have hR := match_eq hF hP hc0
    refine ZF (Zs (Zm (Zm ?_)))
    refine Zw zE rfl (levels_ok w3 t hnt) ?_; intro v20 w4 E4 R4
    replace hX := hX.tr E4
    have hL := R4; obtain ⟨a20, c20, hv20_, _⟩ := id hL.len; rw [List.length_map] at hv20_; subst hv20_
    obtain ⟨wL, hwL⟩ : ∃ x, x = w4 := ⟨_, rfl⟩
    rw [← hwL] at hL
    have hV : Ext Non wL w4 := by rw [hwL]; exact Ext.refl _ _
    refine Zw zE rfl (like_ok w4 f (spl 47 t) anyS hnf (fun x hx => by have := spl_le hx; omega) (hL.ext hV (fun _ h => h)) (tells_any w4)) ?_; intro v21 w5 E5 R5
    replace hX := hX.tr E5
    replace hV := hV.tr E5
    subst R5
    refine Za ?_
    refine Zc (ZB ?_)
    exact ⟨_, ZD (Zh rfl), hX, by rw [hR]; rfl⟩
def Tr.go : List Str → Tr → Tr
 | [], t => t
 | l :: ls, t => Tr.go ls (t.kid l)
theorem Tr.go_snoc (ls : List Str) (l : Str) (t : Tr) : Tr.go (ls ++ [l]) t = (Tr.go ls t).kid l := by
 induction ls generalizing t with
 | nil => rfl
 | cons a ls ih => exact ih _
theorem Tr.Ok.go {n : Nat} : ∀ (ls : List Str) {m : Nat} {t : Tr}, t.Ok n m → ∃ m', (Tr.go ls t).Ok n m'
 | [], m, t, h => ⟨m, h⟩
 | l :: ls, m, t, h => Tr.Ok.go ls (h.kid l)
set_option maxHeartbeats 800000 in
theorem Yg (w : World) (ks os : List Int) {v vo : Value} (M : Nat → Prop) (hM : ∀ i, M i → i < w.heap.size) (hs : Qa M w v ks) (ho : Qa Non w vo os) (hk : Xi ltI ks) (hn : ks.length ≤ 1000) (hno : os.length ≤ 1000) : Fn Tryz.prog 133 #[v, vo] w fun u w' => Qa M w' u (os.foldl (XS ltI) ks) := by
 obtain ⟨v1, v2, vs0, rfl, hm0⟩ := hs
 obtain ⟨q1, n1, c1, rfl⟩ := hm0.keys.shape; obtain ⟨q2, n2, c2, rfl⟩ := hm0.vals.shape
 obtain ⟨o1, o2, vso, rfl, hmo⟩ := ho
 obtain ⟨p1, m1, d1, rfl⟩ := hmo.keys.shape; obtain ⟨p2, m2, d2, rfl⟩ := hmo.vals.shape
 have hX := Ext.refl Non w
 refine Zfw (args := [_, _]) Tryz.func133 rfl rfl ?_
 refine Zs (ZY rfl ?_); intro b2 w1 hb2 E1 B2
 have hq2 := Zq hX hb2
 have hl2 := Zl hX hb2
 replace hX := hX.tr E1
 refine ZY rfl ?_; intro b3 w2 hb3 E2 B3
 have hn2_3 := Zn B2 hb3
 have hq3 := Zq hX hb3
 have hl3 := Zl hX hb3
 replace hX := hX.tr E2
 replace B2 := Zx B2 E2
 refine ZT z_152 ?_; intro b4 w3 hb4 E3 B4
 have hn2_4 := Zn B2 hb4
 have hn3_4 := Zn B3 hb4
 have hq4 := Zq hX hb4
 have hl4 := Zl hX hb4
 replace hX := hX.tr E3
 replace B2 := Zx B2 E3; replace B3 := Zx B3 E3
 refine Zc (ZC (Zs (Zb (ZR XE rfl rfl B3) (Zw zE rfl (all_ok w3 os (fun i => i = b2) (fun i e => by rw [e]; exact B2.lt) ⟨_, _, vso, rfl, (hmo.sub (M' := fun i => i = b2) (fun i e hlt => by omega)).ext hX.of_non (fun _ h => h)⟩) ?_)))); intro v7 w4 E4 R4
 replace hX := hX.tr E4
 replace B2 := Zx B2 E4; replace B3 := Zx B3 E4; replace B4 := Zx B4 E4
 have It := R4; obtain ⟨fk, ck, hfk, _⟩ := id It; subst hfk
 have hW := Ext.refl (fun i => i = b2) w4; have hz2 := B2.lt; have hz4 := B4.lt
 have hmS := (hm0.sub (M' := fun i => Non i ∨ ((i = b2 ∨ i = b4) ∨ M i)) (fun i e hlt => by rcases e with e | (e | e) | e; exact e.elim; omega; omega; exact e)).ext hX (fun _ h => h.elim)
 refine Zc (ZO ?_)
 have hszr := hX.size
 have hsz_hW := hW.size
 have ho2 : w.heap.size ≤ b2 := by rcases hl2 with h | h; exact h.elim; exact h
 have ho3 : w.heap.size ≤ b3 := by rcases hl3 with h | h; exact h.elim; exact h
 have ho4 : w.heap.size ≤ b4 := by rcases hl4 with h | h; exact h.elim; exact h
 refine Qb (M := fun i => i = b2) (w0 := w4) (I := fun pre N A => ∃ u1 : Value, ∃ u2 : Value, ∃ vs : List (List Value), Box N A b2 [u1, u2] ∧ Box N A b3 [.slice p1 m1 d1, .slice p2 m2 d2] ∧ Box N A b4 [.slice none 0 0, .slice none 0 0] ∧ Ext Non w A ∧ Ext (fun i => i = b2) w4 A ∧ MkN w [] N A ∧ (Qs (fun i => N i ∨ ((i = b2 ∨ i = b4) ∨ M i)) A eI1 0 u1 u2 (pre.foldl (XS ltI) ks) vs) ∧ (True)) (X := fun c N A => False) (encs := fun x : Int => [.int .i64 x]) (xs := os) rfl (It) (hW) (fun _ => rfl) (fun pre => Z6.ex fun u1 => Z6.ex fun u2 => Z6.ex fun vs => (Z6.box _ _).and ((Z6.box _ _).and ((Z6.box _ _).and ((Z6.old hX.size).and ((Z6.oldM hW.size).and ((Z6.mk _ _).and ((Z6.mapB _ _ _ _ _ _ _).and ((Z6.pure _))))))))) (fun c => Z6.false) ⟨.slice q1 n1 c1, .slice q2 n2 c2, vs0, ⟨B2, id⟩, ⟨B3, id⟩, ⟨B4, id⟩, hX, hW, (Mk.nil : Mk w [] w4).toN, hmS, trivial⟩ ?_ ?_ ?_
 ·rintro l N pre x A hl hN hA hst ⟨u1, u2, vs, hK2, K3, hK4, hXo, hW, Dk, hm, Ir⟩ ⟨post, hpre⟩
  have B2 := hK2.1; have hl2 : Xo (Yc (fun i => i = b2) w4 N) A b2 := .inl ⟨hK2.2, .inl rfl⟩
  have B3 := K3.1
  have B4 := hK4.1
  have hX := Ext.refl (Yc (fun i => i = b2) w4 N) A
  refine ZJ (Za ?_)
  refine Zc ?_
  refine ⟨rfl, hX, fun A2 E2r hz2r hst2 => ?_⟩
  have hNl := (hN l hl).2
  replace B2 := B2.ext E2r (fun e => hK2.2 (by rw [e]; exact hl))
  replace B3 := B3.ext E2r (fun e => K3.2 (by rw [e]; exact hl))
  replace B4 := B4.ext E2r (fun e => hK4.2 (by rw [e]; exact hl))
  replace hXo := hXo.mine E2r (.inr (Zle hszr (hN l hl).1)); replace Dk := Dk.lp E2r hl
  replace hW := hW.mine E2r (.inr (Zle hsz_hW (hN l hl).1))
  replace hm := hm.ext E2r (fun i e => .inl (by rw [e]; exact hl))
  have hl2 : Xo (Yc (fun i => i = b2) w4 N) A2 b2 := .inl ⟨hK2.2, .inl rfl⟩
  have hX := Ext.refl (Yc (fun i => i = b2) w4 N) A2
  refine ZO ?_
  refine ZJ (Zb (ZR XE rfl rfl B2) (Zm ?_))
  have hsx := hX.size; have hsw := hW.size
  have hfl := foldK_len pre ks
  have hpl : os.length = pre.length + (post.length + 1) := by rw [hpre]; simp
  refine Zw zE rfl (with_ok A2 (pre.foldl (XS ltI) ks) ⟨_, _, vs, rfl, hm.sub (M' := Non) (fun _ h _ => h.elim)⟩ x (Jy _ _ hk) (by omega)) ?_; intro v11 w5 E5 R5
  replace hX := hX.tr E5
  replace B2 := Zx B2 E5; replace B3 := Zx B3 E5; replace B4 := Zx B4 E5
  replace hXo := hXo.tr E5
  replace Dk := Dk.non E5
  replace hW := hW.tr E5
  replace hm := hm.ext E5 (fun _ h => h.elim)
  obtain ⟨u1n, u2n, vsn, rfl, hM11⟩ := R5
  obtain ⟨a1, l1, c1, rfl⟩ := id hM11.keys.shape; obtain ⟨a2, l2, c2, rfl⟩ := id hM11.vals.shape
  replace hM11 := hM11.sub (M' := fun i => N i ∨ ((i = b2 ∨ i = b4) ∨ M i)) (fun i h _ => by unfold Old; rcases h with h | (h | h) | h; have := (hN i h).2; omega; omega; omega; have := hM i h; omega)
  have Bo := B2
  refine ZS XE rfl rfl rfl (Qc rfl rfl) B2 rfl ?_; intro w6 E6 B2 hz6
  replace hX := hX.mine E6 hl2
  replace B3 := B3.ext E6 (fun h => by omega); replace B4 := B4.ext E6 (fun h => by omega)
  replace hXo := hXo.mine E6 (.inr ho2)
  replace Dk := Dk.box E6 Bo
  replace hW := hW.mine E6 (.inl rfl)
  replace hM11 := hM11.ext E6 (fun i e => .inr (.inl (.inl e)))
  refine Zc ?_
  exact ⟨hX, .slice a1 l1 c1, .slice a2 l2 c2, vsn, ⟨B2, hK2.2⟩, ⟨B3, K3.2⟩, ⟨B4, hK4.2⟩, hXo, hW, Dk, (by rw [List.foldl_append]; exact hM11), trivial⟩
 ·rintro N rk w' ⟨u1, u2, vs, hK2, K3, hK4, hXo, hW, Dk, hm, Ir⟩ hN hA hr hrd
  have B2 := hK2.1
  have B3 := K3.1
  have B4 := hK4.1
  have hX := hXo; have hD := Dk.add hrd (Zle hszr (hN rk hr).1) hr
  obtain ⟨a1, l1, c1, hu1⟩ := id hm.keys.shape; obtain ⟨a2, l2, c2, hu2⟩ := id hm.vals.shape
  refine Zs (Zb (ZR XE rfl rfl B2) ?_)
  have Bo := B4
  refine ZS XE rfl rfl rfl (Qc (by rw [hu1]; rfl) (by rw [hu2]; rfl)) B4 rfl ?_; intro w7 E7 B4 hz7
  replace hX := hX.mine E7 hl4
  replace B2 := B2.ext E7 (fun h => by omega); replace B3 := B3.ext E7 (fun h => by omega)
  replace hD := hD.box E7 Bo
  replace hm := hm.ext E7 (fun i e => .inr (.inl (.inr e)))
  refine Zc (ZB (hD.leave fun B hB => ?_))
  have B2 := B2.ext hB (hD.ne B2)
  have B3 := B3.ext hB (hD.ne B3)
  have B4 := B4.ext hB (hD.ne B4)
  have hX := hD.out hX hB
  exact ⟨_, ZD (Xn XE rfl B4 rfl), hX, ⟨_, _, vs, rfl, (hm.ext hB (fun i h => .inl (by simp only [List.mem_singleton] at h; rw [Qi h]; exact hr))).sub (M' := M) (fun i h _ => .inr (.inr h))⟩⟩
 ·intro c N rk w' h; exact h.elim
theorem tat_ok (w : World) (t : Tr) {v vl : Value} (ls : List Str) (ht : TrM Non w t v) (hl : Sl Non w vl 1 (ls.map eS1)) {n m : Nat} (hok : t.Ok n m) (hn : n ≤ 1000000) : Fn Tryz.prog 228 #[v, vl] w fun u w' => TrM Non w' (Tr.go ls t) u := by
 obtain ⟨a, c, rfl, hbg⟩ := hl.len
 simp only [List.length_map] at hl hbg ⊢
 have hbig2 : big = 9223372036854775807 := rfl
 have hX := Ext.refl Non w
 refine Zfw (args := [_, _]) Tryz.func228 rfl rfl ?_
 refine Zs (Za ?_)
 refine Zc (ZC (Zs (Zm ?_)))
 refine Zb (Z1 Xq rfl) (Zm ?_)
 refine Zc (ZO (Xt (S := Nat × Value) [0, 7, 8, 9] (fun ⟨i, p⟩ => [p, .slice a ls.length c, .int .i64 (ls.length : Nat), .int .i64 (i : Nat)]) (fun ⟨i, p⟩ A => (Ext Non w A) ∧ (i ≤ ls.length ∧ TrM Non A (Tr.go (ls.take i) t) p)) (fun ⟨i, p⟩ => ls.length - i) (0, v) ⟨rfl, rfl, rfl, rfl, trivial⟩ ⟨hX, ⟨Nat.zero_le _, ht⟩⟩ ?_))
 rintro τ0 ⟨i, p⟩ A0 ⟨hX, I0⟩
 obtain ⟨hil, hp⟩ := I0
 obtain ⟨m2, hok2⟩ := Tr.Ok.go (ls.take i) hok
 refine Zs (Zb (Xj rfl rfl) (Zc (ZC ?_)))
 refine ZE rfl (fun hc0 => ?_) (fun hc0 => ?_)
 ·have hlt := of_decide_eq_true hc0; simp only [Int.ofNat_lt] at hlt
  obtain ⟨x, hi⟩ : ∃ x, (ls)[i]? = some x := ⟨_, List.getElem?_eq_getElem hlt⟩
  obtain ⟨bb, oo, ea⟩ := hl.base (by intro e; have := congrArg List.length e; simp only [List.length_map, List.length_nil] at this; omega); subst ea
  refine ZF (ZC (ZO (Zs (Zb (ZH Xq rfl rfl (by omega)) (Zb (Xb p_9 rfl ((hl.ext hX (fun _ h => h)).at0 (eS_at hi) rfl)) (Za ?_))))))
  refine Zc (ZJ (Zm (Zm ?_)))
  refine Zw zE rfl (Jl A0 _ Non (fun _ h => h.elim) hp hok2 hn x) ?_; intro v15 w1 E1 R1
  replace hX := hX.tr E1
  replace hp := hp.ext E1 (fun _ h => h)
  have hK15 := R1
  refine Za ?_
  refine Zc (ZJ (Zb (ZX rfl rfl (by omega)) (Zm ?_)))
  refine Zc ?_
  exact ⟨rfl, (i + 1, _), ⟨rfl, rfl, rfl, rfl, trivial⟩, ⟨hX, ⟨hlt, by rw [List.take_add_one, hi]; simp only [Option.toList_some]; rw [Tr.go_snoc]; exact hK15⟩⟩, by show ls.length - (i + 1) < ls.length - i; omega⟩
 ·have hge := of_decide_eq_false hc0; simp only [Int.ofNat_lt, Nat.not_lt] at hge
  rw [List.take_of_length_le hge] at hp
  refine XL ?_
  refine Zs (Zm (Za ?_))
  refine Zc (ZB ?_)
  exact ⟨_, ZD (Zh rfl), hX, hp⟩
end Go.Proofs.YtjklgohpminefaaGreatDoorC
