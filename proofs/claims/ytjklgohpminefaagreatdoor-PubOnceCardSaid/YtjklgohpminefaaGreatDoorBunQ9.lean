/- What is given back; what is got of a queue. -/
import Derived.Test.YtjklgohpminefaaGreatDoorBunQ8
import Derived.Test.YtjklgohpminefaaGreatDoorBunQ3
import Derived.Test.YtjklgohpminefaaGreatDoorBunQ4
import Derived.Test.YtjklgohpminefaaGreatDoorBunQ5
import Derived.Test.YtjklgohpminefaaGreatDoorBunQ6

set_option linter.unusedVariables false
set_option linter.unusedSimpArgs false
set_option maxRecDepth 1000000
namespace Go.Proofs.YtjklgohpminefaaGreatDoorC
open Go.RowKit
theorem four1x {a b c d : Value} (h1 : a.oneCell' = true) (h2 : b.oneCell' = true) (h3 : c.oneCell' = true) (h4 : d.oneCell' = true) : ∀ x ∈ [a, b, c, d], x.oneCell' = true := by intro x hx; simp only [List.mem_cons, List.not_mem_nil, or_false] at hx; rcases hx with rfl | rfl | rfl | rfl <;> assumption
set_option maxHeartbeats 800000 in
theorem pgive_ok (w : World) {b77 : Nat} {lv : Value} {o : Option Nat} {rows : List (List Value)} {p : Option Addr} {len st pid : Int} (hO : OwO w lv o 4 rows) (hob : ∀ i, o = some i → i ≠ b77) (hid : 1 ≤ pid ∧ pid ≤ 60000) (hnn : rows.length ≤ 60000) (hr : rows[(pid - 1).toNat]? = some (plC p len st true)) (hst : 0 ≤ st ∧ st ≤ 1000000000) (B77 : Zj w b77 [lv, .slice none 0 0, .int .i64 65536])  : FnM Tryz.prog (fun i => i = b77 ∨ o = some i) 244 #[(Zpt b77), .int .i64 pid] w fun u w' => ∃ fv o2, Zj w' b77 [lv, fv, .int .i64 65536] ∧ OwO w' lv o 4 (rows.set (pid - 1).toNat (plC none 0 (st + 1) false)) ∧ OwO w' fv o2 1 [eI pid] ∧ ∀ j, o2 = some j → w.heap.size ≤ j := by
 have hlt := (List.getElem?_eq_some_iff.1 hr).1
 obtain ⟨bo, spare, hoe, hOw⟩ : ∃ b sp, o = some b ∧ Ow w lv b 4 rows sp := by rcases hO with ⟨_, h, _⟩ | ⟨b, sp, h, hh⟩; rw [h] at hlt; simp at hlt; exact ⟨b, sp, h, hh⟩
 obtain ⟨c, rfl, _⟩ := id hOw.val
 have hne := hob bo hoe
 have hl77 : Xo (fun i => i = b77 ∨ o = some i) w b77 := .inl (.inl rfl)
 have hX := Ext.refl (fun i => i = b77 ∨ o = some i) w
 refine Zfm (args := [_, _]) Tryz.func244 rfl rfl ?_
 refine Zs (Za ?_)
 refine Zc (Zs (Zm (Zm ?_)))
 refine Zw zE rfl (pat_ok w (pid := pid) ⟨hid.1, by omega⟩ (by omega) B77) ?_; intro v8 w1 E1 R1
 replace hX := hX.tr E1
 replace B77 := Zx B77 E1
 replace hOw := hOw.ext E1 (fun h => h)
 subst R1
 refine Za ?_
 refine Zc (ZC (Zs (Zm ?_)))
 refine Zb (Z9 (by kernel_rfl) rfl rfl) (Zm ?_)
 refine Zu rfl rfl (Zm ?_)
 refine Zu rfl rfl (Zb (Zg rfl) (Zu rfl rfl (Zb (Zf f_183_2 rfl) (Zu rfl rfl (Zb (Xb p_4 rfl ((hOw.sl (M := Non) id).at1 hr rfl)) (Zu rfl rfl (Zb (Xy rfl) (Zb (ZQ rfl (by conv => lhs; whnf)) ?_))))))))
 refine Zc (Xu rfl (ZF (Zs (Zm (Zm ?_)))))
 refine Zb (Zg rfl) (Zb (Zf f_183_1 rfl) (Zb (Xb p_3 rfl ((hOw.sl (M := Non) id).at1 hr rfl)) (Zb (ZX rfl rfl (by omega)) (Zb (Z2 b_183 rfl rfl (cs := _) rfl) (Zb (Zg rfl) (X6 (u := .agg #[.pointer none, .int .i64 0, .int .i64 (st + 1), .bool false]) (d := 0) (i := (pid - 1).toNat) s_183.2 rfl (by simp only [XF, Nat.zero_add, Nat.add_zero]) rfl (four1x rfl rfl rfl rfl) hOw hr Zbl ?_)))))); intro w2 E2 hz2 hOw
 replace hX := hX.own2 E2 (fun i hi => .inl (.inr (by rw [hi]; exact hoe)))
 replace B77 := B77.ext E2 (fun h => hne h.symm)
 replace hOw : Ow w2 _ bo 4 (rows.set (pid - 1).toNat (plC none 0 (st + 1) false)) spare := hOw
 refine Zc (Zs (Zm (Zm ?_)))
 refine Zb (Zg rfl) (Zb (Zf f_178_1 rfl) (Zb (Zi XT rfl B77 rfl) (Zm ?_)))
 refine Xz (r := eI pid) Xe rfl rfl rfl rfl (by decide) ?_; intro v32 w3 b32 hb32 E3 hO32
 replace hX := hX.tr E3
 replace B77 := Zx B77 E3
 replace hOw := hOw.ext E3 (fun h => h)
 have hXo := hX
 have hlb := B77.lt; have hlo := hOw.box.lt
 refine Qm Xe rfl rfl rfl OwO.nil (hO32.sl (M := Non) id) (fun r hr => by simp only [List.mem_singleton] at hr; subst hr; exact J1 rfl) (by simp only [List.length_cons, List.length_nil]; omega) (by simp only [List.length_cons, List.length_nil, big]; omega) ?_; intro v33 w4 o33 E4 hO33 hf33
 have ho33 : ∀ i, o33 = some i → w.heap.size ≤ i ∧ i ≠ b77 ∧ i ≠ bo := fun i hi => by rcases hf33 i hi with h | h; cases h; have := hXo.size; exact ⟨by omega, by omega, by omega⟩
 replace hX := hX.own2 E4 (fun i hi => by cases hi)
 replace B77 := B77.ext E4 (fun h => by cases h)
 replace hOw := hOw.ext E4 (fun h => by cases h)
 obtain ⟨va33, vc33, rfl⟩ := id hO33.len
 refine Zb (Zg rfl) (Zb (Zf f_178_1 rfl) ?_)
 have Bo := B77
 refine ZN (b := b77) XT rfl (by conv => lhs; whnf) rfl rfl B77 Zbl ?_; intro w5 E5 B77 hz5
 replace hX := hX.mine E5 hl77
 replace hOw := hOw.ext E5 (fun e => hne e)
 replace hO33 := hO33.ext E5 (fun j hj e => (ho33 j hj).2.1 e)
 refine Zc (Zs (Za ?_))
 refine Zc (ZB ?_)
 exact ⟨_, ZD (Zh rfl), hX, ⟨_, o33, B77, .inr ⟨bo, spare, hoe, hOw⟩, hO33, fun j hj => (ho33 j hj).1⟩⟩
set_option maxHeartbeats 800000 in
theorem ccollect_give (w : World) {b77 ep pn cc pl : Nat} {pg pr q0 q1 q2 q3 : Option Addr} {rv : Value} (B77 : Zj w b77 [.pointer (some ⟨ep, 0, none⟩), .pointer (some ⟨pl, 0, none⟩), .pointer pg, .pointer pr, .pointer q0, .pointer q1, .pointer q2, .pointer q3, rv, .int .i64 0]) {now : Int} {pin : List Int} {vs : List Value} {spare : List Value} (Ep : Zj w ep (.int .i64 now :: .slice (some ⟨pn, 0, none⟩) pin.length cc :: vs)) (hPn : Ow w (.slice (some ⟨pn, 0, none⟩) pin.length cc) pn 1 (pin.map eI) spare) (hne : pn ≠ ep) (hvl : vs.length = 3) (hn : 0 ≤ now ∧ now ≤ 1000000000) (ha : (pin.any fun p => decide (0 ≤ p ∧ p ≠ now)) = false) {v0 : Value} (hv : vs[(now + 1).toNat % 3]? = some v0) {M2 : Nat → Prop} {lv : Value} {o : Option Nat} {rows : List (List Value)} {p : Option Addr} {len st pid : Int} (hL : Sl M2 w v0 1 ([pid].map eI)) (hm2 : ∀ i, (i = ep ∨ i = pl ∨ o = some i) → M2 i) (hO : OwO w lv o 4 rows) (hoe : ∀ i, o = some i → i ≠ ep ∧ i ≠ pl ∧ i ≠ b77) (hep : ep ≠ pl) (hce : b77 ≠ ep) (hcl : b77 ≠ pl) (hid : 1 ≤ pid ∧ pid ≤ 60000) (hnn : rows.length ≤ 60000) (hr : rows[(pid - 1).toNat]? = some (plC p len st true)) (hst : 0 ≤ st ∧ st ≤ 1000000000) (hPl : Zj w pl [lv, .slice none 0 0, .int .i64 65536])  : FnM Tryz.prog (fun i => i = ep ∨ i = pl ∨ o = some i) 177 #[(Zpt b77)] w fun u w' => Zj w' ep (.int .i64 (now + 1) :: .slice (some ⟨pn, 0, none⟩) pin.length cc :: vs.set ((now + 1).toNat % 3) (.slice none 0 0)) ∧ ∃ fv o2, Zj w' pl [lv, fv, .int .i64 65536] ∧ OwO w' lv o 4 (rows.set (pid - 1).toNat (plC none 0 (st + 1) false)) ∧ OwO w' fv o2 1 [eI pid] ∧ ∀ j, o2 = some j → w.heap.size ≤ j := by
 obtain ⟨va, vc, rfl⟩ : ∃ va vc, v0 = .slice va 1 vc := by obtain ⟨a, c, e, _⟩ := hL.len; exact ⟨a, c, e⟩
 obtain ⟨vb, vo, rfl⟩ := hL.base (by simp)
 have hLl := hL
 have hX := Ext.refl (fun i => i = ep ∨ i = pl ∨ o = some i) w
 refine Zfm (args := [_]) Tryz.func177 rfl rfl ?_
 refine Zs (Zm ?_)
 refine Zb (Zg rfl) (Zb (Zf Qp rfl) (Zb (Zf JV rfl) (Zb (Zi p_97 rfl B77 rfl) (ZI zE rfl (eadv_ok w Ep hPn hne hvl hn ha hv rfl) ?_)))); intro v12 w1 E1 hR
 obtain ⟨rfl, Ep⟩ := hR
 replace hX := hX.trans (E1.mono fun i hi => .inl hi)
 replace B77 := B77.ext E1 (fun e => hce e)
 replace hPl := hPl.ext E1 (fun e => hep e.symm); replace hO := hO.ext E1 (fun i hi e => (hoe i hi).1 e)
 refine Zm ?_
 refine Zb (ZM rfl rfl) (Zb (ZM rfl rfl) (Za (Za ?_)))
 refine Zc (Zs (Zm ?_))
 refine Zb (Z1 Xe rfl) (Zm ?_)
 refine Zc (ZO (Xt (S := Nat) [0, 15, 16, 17] (fun i => [(Zpt b77), .slice (some ⟨vb, vo, none⟩) 1 vc, .int .i64 ((1 : Nat) : Int), .int .i64 (i : Nat)]) (fun i A => (Ext (fun i => i = ep ∨ i = pl ∨ o = some i) w A) ∧ (i ≤ 1 ∧ Zj A b77 [.pointer (some ⟨ep, 0, none⟩), .pointer (some ⟨pl, 0, none⟩), .pointer pg, .pointer pr, .pointer q0, .pointer q1, .pointer q2, .pointer q3, rv, .int .i64 0] ∧ Zj A ep (.int .i64 (now + 1) :: .slice (some ⟨pn, 0, none⟩) pin.length cc :: vs.set ((now + 1).toNat % 3) (.slice none 0 0)) ∧ (i = 0 → (Zj A pl [lv, .slice none 0 0, .int .i64 65536] ∧ OwO A lv o 4 rows)) ∧ (i = 1 → (∃ fv o2, Zj A pl [lv, fv, .int .i64 65536] ∧ OwO A lv o 4 (rows.set (pid - 1).toNat (plC none 0 (st + 1) false)) ∧ OwO A fv o2 1 [eI pid] ∧ ∀ j, o2 = some j → w.heap.size ≤ j)))) (fun i => 1 - i) 0 ⟨rfl, rfl, rfl, rfl, trivial⟩ ⟨hX, ⟨by omega, B77, Ep, fun _ => ⟨hPl, hO⟩, fun h => absurd h (by decide)⟩⟩ ?_))
 rintro τ0 i A0 ⟨hX, I0⟩
 obtain ⟨hi1, B77, Ep, hPre, hPst⟩ := I0
 refine Zs (Zb (Xj rfl rfl) (Zc (ZC ?_)))
 refine ZE rfl (fun hc0 => ?_) (fun hc0 => ?_)
 ·have hi0 : i = 0 := by have := of_decide_eq_true hc0; omega
  obtain ⟨hPl, hO⟩ := hPre hi0
  refine ZF (ZC (ZO (Zs (Zb (ZH Xe rfl rfl (by omega)) (Zb (Xb p_3 rfl ((hLl.ext hX hm2).at0 (show ([pid].map eI)[((i : Nat) : Int).toNat]? = some (eI pid) from by rw [hi0]; rfl) rfl)) ?_)))))
  refine Za ?_
  refine Zc (ZJ (Zm ?_))
  refine Zb (Zg rfl) (Zb (Zf Qp rfl) (Zb (Zf f_106_1 rfl) (Zb (Zi (b := b77) (i := 1) p_99 rfl B77 rfl) (Zm ?_))))
  have hXs := hX.size
  refine ZI zE rfl (pgive_ok A0 hO (fun i hi => (hoe i hi).2.1) hid hnn hr hst hPl) ?_; intro v27 w2 E2 hR
  obtain ⟨fv, o2, hP2, hO2, hF2, ho2⟩ := hR
  replace hX := hX.trans (E2.mono fun i hi => .inr hi)
  replace B77 := B77.ext E2 (fun e => by rcases e with e | e; exact hcl e; exact (hoe _ e).2.2 rfl)
  replace Ep := Ep.ext E2 (fun e => by rcases e with e | e; exact hep e; exact (hoe _ e).1 rfl)
  refine Zc (ZJ (Zb (ZX rfl rfl (by omega)) (Zm ?_)))
  refine Zc ?_
  exact ⟨rfl, i + 1, ⟨rfl, rfl, rfl, rfl, trivial⟩, ⟨hX, ⟨by omega, B77, Ep, fun h => absurd h (by omega), fun _ => ⟨fv, o2, hP2, hO2, hF2, fun j hj => Zle hXs (ho2 j hj)⟩⟩⟩, by show 1 - (i + 1) < 1 - i; omega⟩
 ·have hi2 : i = 1 := by have := of_decide_eq_false hc0; omega
  have hQ := hPst hi2
  refine XL ?_
  exact ⟨_, rfl, hX, ⟨Ep, hQ⟩⟩
theorem rget_no (w : World) {b77 sb n : Nat} {puts gets drops : Int} (B77 : Zj w b77 [.slice (some ⟨sb, 0, none⟩) n n, .int .i64 puts, .int .i64 gets, .int .i64 drops]) (hn : 1 ≤ n ∧ n ≤ 16) {slots : List (XI × Int)} {x : XI} {k : Int} (hne : b77 ≠ sb) (hsl : slots.length = n) (hO : Ow w (.slice (some ⟨sb, 0, none⟩) n n) sb 4 (slots.map Qk) []) (hp : 0 ≤ gets ∧ gets ≤ 1000000000) (hk : slots[gets.toNat % n]? = some (x, k)) (hk2 : k ≠ 2 * gets + 1) : Fn Tryz.prog 97 #[(Zpt b77)] w fun u w' => u = .tuple #[.agg (⟨[], [], false⟩ : XI).enc.toArray, .bool false] := by
 have hks : (slots.map Qk)[gets.toNat % n]? = some (Qk (x, k)) := by rw [List.getElem?_map, hk]; rfl
 have hsb := hO.box.lt
 have hX := Ext.refl Non w
 refine Zfw (args := [_]) Tryz.func97 rfl rfl ?_
 refine Zs (ZT z_35 ?_); intro b2 w1 hb2 E1 B2
 have hn77_2 := Zn B77 hb2
 have hq2 := Zq hX hb2
 have hl2 := Zl hX hb2
 replace hX := hX.tr E1
 replace B77 := Zx B77 E1
 replace hO := hO.ext E1 (fun h => h)
 refine Za ?_
 refine Zc (ZC (Zs (Zm ?_)))
 refine Zb (Z9 (by kernel_rfl) rfl rfl) (Zc (Xu rfl (ZF (Zs (Zm (Zm ?_))))))
 refine Zb (Zg rfl) (Zb (Zf f_192_2 rfl) (Zb (Zi p_3 rfl B77 rfl) (Zw zE rfl (rat_ok w1 B77 hn gets hp.1) ?_))); intro v13 w2 E2 R2
 replace hX := hX.tr E2
 replace B77 := Zx B77 E2; replace B2 := Zx B2 E2
 replace hO := hO.ext E2 (fun h => h)
 subst R2
 refine Za ?_
 refine Zc (ZC (ZC (Qq mixed ?_))); intro w3 E3
 replace hX := hX.tr E3
 replace B77 := Zx B77 E3; replace B2 := Zx B2 E3
 replace hO := hO.ext E3 (fun h => h)
 have hS := Ext.refl Non w3
 refine Zd 0 rfl hS Zy ?_
 refine Zd 1 rfl hS (ZG fun A hA => Z9 (by kernel_rfl) rfl rfl) (Zd 2 rfl hS Zy ?_)
 refine Zd 3 rfl hS (Z7 rfl rfl fun A hA => XO (by conv => lhs; whnf)) ?_
 refine Zd 4 rfl hS (Z7 rfl rfl fun A hA => Zg rfl) (Zd 5 rfl hS (Z7 rfl rfl fun A hA => Zf f_194_1 rfl) (Zd 6 rfl hS (Z7 rfl rfl fun A hA => Zi p_3 rfl (hO.box.ext hA id) (hO_at hks (slots4 slots) (d := 3) (by decide) rfl)) ?_))
 refine Zd 7 rfl hS (Z7 rfl rfl fun A hA => XO (by conv => lhs; whnf)) ?_
 refine Zd 8 rfl hS (Z7 rfl rfl fun A hA => Zg rfl) (Zd 9 rfl hS (Z7 rfl rfl fun A hA => Zf f_192_2 rfl) (Zd 10 rfl hS (Z7 rfl rfl fun A hA => Zi p_3 rfl (B77.ext hA id) rfl) (Zd 11 rfl hS (Z7 rfl rfl fun A hA => rn_mul rfl rfl (by omega)) (Zd 12 rfl hS (Z7 rfl rfl fun A hA => ZX rfl rfl (by omega)) (Zd 13 rfl hS (Z7 rfl rfl fun A hA => X2 rfl rfl) (Zd 14 rfl hS (ZG fun A hA => ZQ rfl (by conv => lhs; whnf)) ?_))))))
 refine Xw (by kernel_rfl) ?_ _
 replace hX := hX.tr hS
 replace B77 := Zx B77 hS; replace B2 := Zx B2 hS
 replace hO := hO.ext hS (fun h => h)
 refine ZE rfl (fun hc1 => ?_) (fun hc1 => ?_)
 ·refine Zs (Zb (ZR s_35 rfl rfl B2) ?_)
  have Bo := B2
  refine ZS s_35 rfl rfl rfl (JY rfl rfl rfl) B2 rfl ?_; intro w4 E4 B2 hz4
  replace hX := hX.mine E4 hl2
  replace B77 := B77.ext E4 (fun h => by omega)
  replace hO := hO.ext E4 (fun e => by omega)
  refine Za ?_
  refine Zc (ZB ?_)
  exact ⟨_, Qd (Xn s_35 rfl B2 rfl) (Zh rfl), hX, rfl⟩
 ·exact absurd (of_decide_eq_false hc1) (by simpa using hk2)
set_option maxHeartbeats 800000 in
theorem rget_ok (w : World) {b77 sb n : Nat} {puts gets drops : Int} (B77 : Zj w b77 [.slice (some ⟨sb, 0, none⟩) n n, .int .i64 puts, .int .i64 gets, .int .i64 drops]) (hn : 1 ≤ n ∧ n ≤ 16) {slots : List (XI × Int)} {x : XI} {k : Int} (hne : b77 ≠ sb) (hsl : slots.length = n) (hO : Ow w (.slice (some ⟨sb, 0, none⟩) n n) sb 4 (slots.map Qk) []) (hp : 0 ≤ gets ∧ gets ≤ 1000000000) (hk : slots[gets.toNat % n]? = some (x, k)) (hk2 : k = 2 * gets + 1) : FnM Tryz.prog (fun i => i = b77 ∨ i = sb) 97 #[(Zpt b77)] w fun u w' => u = .tuple #[.agg x.enc.toArray, .bool true] ∧ Zj w' b77 [.slice (some ⟨sb, 0, none⟩) n n, .int .i64 puts, .int .i64 (gets + 1), .int .i64 drops] ∧ Ow w' (.slice (some ⟨sb, 0, none⟩) n n) sb 4 ((slots.set (gets.toNat % n) (⟨[], [], false⟩, 2 * (gets + (n : Nat)))).map Qk) [] := by
 have hks : (slots.map Qk)[gets.toNat % n]? = some (Qk (x, k)) := by rw [List.getElem?_map, hk]; rfl
 have hsb := hO.box.lt
 have hl77 : Xo (fun i => i = b77 ∨ i = sb) w b77 := .inl (.inl rfl)
 have hX := Ext.refl (fun i => i = b77 ∨ i = sb) w
 refine Zfm (args := [_]) Tryz.func97 rfl rfl ?_
 refine Zs (ZT z_35 ?_); intro b2 w1 hb2 E1 B2
 have hn77_2 := Zn B77 hb2
 have hq2 := Zq hX hb2
 have hl2 := Zl hX hb2
 replace hX := hX.tr E1
 replace B77 := Zx B77 E1
 replace hO := hO.ext E1 (fun h => h)
 refine Za ?_
 refine Zc (ZC (Zs (Zm ?_)))
 refine Zb (Z9 (by kernel_rfl) rfl rfl) (Zc (Xu rfl (ZF (Zs (Zm (Zm ?_))))))
 refine Zb (Zg rfl) (Zb (Zf f_192_2 rfl) (Zb (Zi p_3 rfl B77 rfl) (Zw zE rfl (rat_ok w1 B77 hn gets hp.1) ?_))); intro v13 w2 E2 R2
 replace hX := hX.tr E2
 replace B77 := Zx B77 E2; replace B2 := Zx B2 E2
 replace hO := hO.ext E2 (fun h => h)
 subst R2
 refine Za ?_
 refine Zc (ZC (ZC (Qq mixed ?_))); intro w3 E3
 replace hX := hX.tr E3
 replace B77 := Zx B77 E3; replace B2 := Zx B2 E3
 replace hO := hO.ext E3 (fun h => h)
 have hS := Ext.refl Non w3
 refine Zd 0 rfl hS Zy ?_
 refine Zd 1 rfl hS (ZG fun A hA => Z9 (by kernel_rfl) rfl rfl) (Zd 2 rfl hS Zy ?_)
 refine Zd 3 rfl hS (Z7 rfl rfl fun A hA => XO (by conv => lhs; whnf)) ?_
 refine Zd 4 rfl hS (Z7 rfl rfl fun A hA => Zg rfl) (Zd 5 rfl hS (Z7 rfl rfl fun A hA => Zf f_194_1 rfl) (Zd 6 rfl hS (Z7 rfl rfl fun A hA => Zi p_3 rfl (hO.box.ext hA id) (hO_at hks (slots4 slots) (d := 3) (by decide) rfl)) ?_))
 refine Zd 7 rfl hS (Z7 rfl rfl fun A hA => XO (by conv => lhs; whnf)) ?_
 refine Zd 8 rfl hS (Z7 rfl rfl fun A hA => Zg rfl) (Zd 9 rfl hS (Z7 rfl rfl fun A hA => Zf f_192_2 rfl) (Zd 10 rfl hS (Z7 rfl rfl fun A hA => Zi p_3 rfl (B77.ext hA id) rfl) (Zd 11 rfl hS (Z7 rfl rfl fun A hA => rn_mul rfl rfl (by omega)) (Zd 12 rfl hS (Z7 rfl rfl fun A hA => ZX rfl rfl (by omega)) (Zd 13 rfl hS (Z7 rfl rfl fun A hA => X2 rfl rfl) (Zd 14 rfl hS (ZG fun A hA => ZQ rfl (by conv => lhs; whnf)) ?_))))))
 refine Xw (by kernel_rfl) ?_ _
 replace hX := hX.tr hS
 replace B77 := Zx B77 hS; replace B2 := Zx B2 hS
 replace hO := hO.ext hS (fun h => h)
 refine ZE rfl (fun hc1 => ?_) (fun hc1 => ?_)
 ·exact absurd hk2 (by simpa using of_decide_eq_true hc1)
 ·refine ZF (Zs (Zm ?_))
  refine Zb (Zg rfl) (Zb (Zf f_194_0 rfl) (Zb (XC s_35 (vs := [Sv x.topic, Sv x.payload, .bool x.kept]) rfl rfl (fun j hj => by have h := (hO.sl (M := Non) id).part1 hks (d := 0) rfl Zbl j hj; simp only [XF, Nat.zero_add] at h ⊢; exact h)) ?_))
  have Bo := B2
  refine ZS s_35 rfl rfl rfl (JY rfl rfl rfl) B2 rfl ?_; intro w4 E4 B2 hz4
  replace hX := hX.mine E4 hl2
  replace B77 := B77.ext E4 (fun h => by omega)
  replace hO := hO.ext E4 (fun e => by have h3 : sb = b2 := e; omega)
  refine Zc (ZC (QQ (fun i => i = sb) mixed ?_)); intro w5 E5
  replace hX := hX.tr E5
  replace B77 := Zx B77 E5; replace B2 := Zx B2 E5
  replace hO := hO.ext E5 (fun h => h)
  have hS := Ext.refl (fun i => i = sb) w5
  refine Zd 0 rfl hS Zy ?_
  refine Zd 1 rfl hS Zy ?_
  refine Zd 2 rfl hS (Zr (Zg rfl)) (Zd 3 rfl hS (Zr (Zf f_192_2 rfl)) (Zd 4 rfl hS (ZG fun A hA => Zi p_3 rfl (B77.ext hA (fun e => by omega)) rfl) (Zd 5 rfl hS Zy ?_)))
  refine Zd 6 rfl hS (Zr (Zg rfl)) (Zd 7 rfl hS (Zr (Zf f_192_0 rfl)) (Zd 8 rfl hS (ZG fun A hA => Zi p_190 rfl (B77.ext hA (fun e => by omega)) rfl) (Zd 9 rfl hS (Zr (Z1 sl_190 rfl)) (Zd 10 rfl hS (Zr (ZX rfl rfl (by omega))) (Zd 11 rfl hS (ZG fun A hA => rn_mul rfl rfl (by omega)) (Zd 12 rfl hS (ZG fun A hA => Z2 b_194 rfl rfl (cs := _) rfl) (Zd 13 rfl hS (Zr (Zg rfl)) (Zp 14 rfl ?_))))))))
  refine ZK (X6 (u := .agg #[Sv [], Sv [], .bool false, .int .i64 (2 * (gets + (n : Nat)))]) (d := 0) (i := gets.toNat % n) s_194.2 rfl (by simp only [XF, Nat.zero_add, Nat.add_zero]) rfl (four1x rfl rfl rfl rfl) hO hks Zbl ?_); intro w6 E6 hz6 hO
  replace hS := hS.trans E6
  replace hO : Ow w6 (.slice (some ⟨sb, 0, none⟩) n n) sb 4 ((slots.set (gets.toNat % n) (⟨[], [], false⟩, 2 * (gets + (n : Nat)))).map Qk) [] := by rw [List.map_set]; exact hO
  refine Zc ⟨hS, ?_⟩
  refine Xw (by kernel_rfl) ?_ _
  replace hX := hX.own2 hS (fun i hi => .inl (.inr hi))
  replace B77 := B77.ext hS (fun h => hne h)
  replace B2 := B2.ext hS (fun h => by have h3 : b2 = sb := h; omega)
  refine Zs (Zm ?_)
  refine Zb (Zg rfl) (Zb (Zf f_192_2 rfl) (Zb (Zi p_3 rfl B77 rfl) (Zb (ZX rfl rfl (by omega)) (Zb (Zg rfl) (Zb (Zf f_192_2 rfl) ?_)))))
  have Bo := B77
  refine ZN (b := b77) p_3 rfl (by conv => lhs; whnf) rfl rfl B77 Zbl ?_; intro w7 E7 B77 hz7
  replace hX := hX.mine E7 hl77
  replace B2 := B2.ext E7 (fun h => by omega)
  replace hO := hO.ext E7 (fun e => by have h3 : sb = b77 := e; omega)
  refine Zc (Zs (Zb (ZR s_35 rfl rfl B2) ?_))
  have Bo := B2
  refine ZS s_35 rfl rfl rfl (JY rfl rfl rfl) B2 rfl ?_; intro w8 E8 B2 hz8
  replace hX := hX.mine E8 hl2
  replace B77 := B77.ext E8 (fun h => by omega)
  replace hO := hO.ext E8 (fun e => by have h3 : sb = b2 := e; omega)
  refine Za ?_
  refine Zc (ZB ?_)
  exact ⟨_, Qd (Xn s_35 rfl B2 rfl) (Zh rfl), hX, ⟨rfl, B77, hO⟩⟩
theorem rdrops_ok (w : World) {b77 : Nat} {sv : Value} {puts gets drops : Int} (B77 : Zj w b77 [sv, .int .i64 puts, .int .i64 gets, .int .i64 drops]) : Fn Tryz.prog 99 #[(Zpt b77)] w fun u w' => u = .int .i64 drops := by
 have hX := Ext.refl Non w
 refine Zfw (args := [_]) Tryz.func99 rfl rfl ?_
 refine Zs (Za ?_)
 refine Zc (ZC (Zs (Zm ?_)))
 refine Zb (Z9 (by kernel_rfl) rfl rfl) (Zc (Xu rfl (ZF (Zs (Zm ?_)))))
 refine Zb (Zg rfl) (Zb (Zf f_192_3 rfl) (Zb (Zi p_3 rfl B77 rfl) (Za ?_)))
 refine Zc (ZB ?_)
 exact ⟨_, ZD (Zh rfl), hX, rfl⟩
theorem dropsF_ok (w : World) {b77 : Nat} {sv : Value} {puts gets drops : Int} (B77 : Zj w b77 [sv, .int .i64 puts, .int .i64 gets, .int .i64 drops]) : Fn Tryz.prog 98 #[(Zpt b77)] w fun u w' => u = .agg (⟨0, drops, 0, ⟨[], [], false⟩⟩ : Xl).enc.toArray := by
 have hlb := B77.lt
 have hX := Ext.refl Non w
 refine Zfw (args := [_]) Tryz.func98 rfl rfl ?_
 refine Zs (ZT z_37 ?_); intro b2 w1 hb2 E1 B2
 have hq2 := Zq hX hb2
 have hl2 := Zl hX hb2
 replace hX := hX.tr E1
 replace B77 := Zx B77 E1
 refine Zc (Zs (Zm ?_))
 refine Zw zE rfl (rdrops_ok w1 B77) ?_; intro v4 w2 E2 R2
 replace hX := hX.tr E2
 replace B2 := Zx B2 E2
 replace B77 := Zx B77 E2
 subst R2
 refine Zb (Z2 b_37 rfl rfl (cs := (⟨0, drops, 0, ⟨[], [], false⟩⟩ : Xl).enc) rfl) ?_
 have Bo := B2
 refine ZS s_37 rfl rfl rfl (Xl.one _) B2 rfl ?_; intro w3 E3 B2 hz3
 replace hX := hX.mine E3 hl2
 replace B77 := B77.ext E3 (fun e => by omega)
 refine Zc (ZB ?_)
 exact ⟨_, ZD (Xn s_37 rfl B2 rfl), hX, rfl⟩
theorem pollF_no (w : World) {b77 : Nat} (h : ∀ w1, Ext Non w w1 → Fn Tryz.prog 97 #[(Zpt b77)] w1 fun u _ => u = .tuple #[.agg (⟨[], [], false⟩ : XI).enc.toArray, .bool false]) : Fn Tryz.prog 96 #[(Zpt b77)] w fun u w' => u = .agg (⟨7, 0, 0, ⟨[], [], false⟩⟩ : Xl).enc.toArray := by
 have hXn := Ext.refl Non w
 have hX := Ext.refl Non w
 refine Zfw (args := [_]) Tryz.func96 rfl rfl ?_
 refine Zs (ZT z_37 ?_); intro b2 w1 hb2 E1 B2
 have hq2 := Zq hX hb2
 have hl2 := Zl hX hb2
 replace hX := hX.tr E1
 replace hXn := hXn.tr E1
 refine Zc (Zs (Zm ?_))
 refine Zw zE rfl (h w1 hXn) ?_; intro v7 w2 E2 R2
 replace hX := hX.tr E2
 replace B2 := Zx B2 E2
 replace hXn := hXn.tr E2
 subst R2
 refine Zm ?_
 refine Zb (ZM rfl rfl) (Zb (ZM rfl rfl) (ZT z_35 ?_)); intro b3 w3 hb3 E3 B3
 have hn2_3 := Zn B2 hb3
 have hq3 := Zq hX hb3
 have hl3 := Zl hX hb3
 replace hX := hX.tr E3
 replace B2 := Zx B2 E3
 replace hXn := hXn.tr E3
 have Bo := B3
 refine ZS s_35 rfl rfl rfl (XI.one _) B3 rfl ?_; intro w4 E4 B3 hz4
 replace hX := hX.mine E4 hl3
 replace B2 := B2.ext E4 (fun h => by omega)
 replace hXn := hXn.own E4 hq3
 refine Za ?_
 refine Zc (ZC (Zs (Zm ?_)))
 refine Zb (Xy rfl) (Zc ?_)
 refine ZE rfl (fun hc0 => ?_) (fun hc0 => ?_)
 ·refine Zs (Zb (Z2 b_37 rfl rfl (cs := (⟨7, 0, 0, ⟨[], [], false⟩⟩ : Xl).enc) rfl) ?_)
  have Bo := B2
  refine ZS s_37 rfl rfl rfl (Xl.one _) B2 rfl ?_; intro w5 E5 B2 hz5
  replace hX := hX.mine E5 hl2
  replace B3 := B3.ext E5 (fun h => by omega)
  replace hXn := hXn.own E5 hq2
  refine Zc (ZB ?_)
  exact ⟨_, ZD (Xn s_37 rfl B2 rfl), hX, rfl⟩
 ·cases hc0
theorem pollF_ok (w : World) {M : Nat → Prop} {b77 : Nat} {x : XI} {Q : World → Prop} (hMl : ∀ i, M i → i < w.heap.size) (hq : ∀ A B, Ext (fun i => w.heap.size ≤ i) A B → Q A → Q B) (h : ∀ w1, Ext Non w w1 → FnM Tryz.prog M 97 #[(Zpt b77)] w1 fun u w2 => u = .tuple #[.agg x.enc.toArray, .bool true] ∧ Q w2) : FnM Tryz.prog M 96 #[(Zpt b77)] w fun u w' => u = .agg (⟨0, 0, 0, x⟩ : Xl).enc.toArray ∧ Q w' := by
 have hXn := Ext.refl Non w
 have hX := Ext.refl M w
 refine Zfm (args := [_]) Tryz.func96 rfl rfl ?_
 refine Zs (ZT z_37 ?_); intro b2 w1 hb2 E1 B2
 have hq2 := Zq hX hb2
 have hl2 := Zl hX hb2
 replace hX := hX.tr E1
 replace hXn := hXn.tr E1
 refine Zc (Zs (Zm ?_))
 refine ZI zE rfl (h w1 hXn) ?_; intro v7 w2 E2 hR
 obtain ⟨rfl, hQ⟩ := hR
 replace hX := hX.trans E2
 replace B2 := B2.ext E2 (fun e => by have := hMl _ e; omega)
 refine Zm ?_
 refine Zb (ZM rfl rfl) (Zb (ZM rfl rfl) (ZT z_35 ?_)); intro b3 w3 hb3 E3 B3
 have hn2_3 := Zn B2 hb3
 have hq3 := Zq hX hb3
 have hl3 := Zl hX hb3
 replace hX := hX.tr E3
 replace B2 := Zx B2 E3
 replace hQ := hq _ _ (E3.mono fun _ h => h.elim) hQ
 have Bo := B3
 refine ZS s_35 rfl rfl rfl (XI.one x) B3 rfl ?_; intro w4 E4 B3 hz4
 replace hX := hX.mine E4 hl3
 replace B2 := B2.ext E4 (fun h => by omega)
 replace hQ := hq _ _ (E4.mono fun i hi => by have h3 : i = b3 := hi; omega) hQ
 refine Za ?_
 refine Zc (ZC (Zs (Zm ?_)))
 refine Zb (Xy rfl) (Zc ?_)
 refine ZE rfl (fun hc0 => ?_) (fun hc0 => ?_)
 ·cases hc0
 ·refine ZF (Zs (Zb (ZR s_35 rfl rfl B3) (Zb (Z2 b_37 rfl rfl (cs := (⟨0, 0, 0, x⟩ : Xl).enc) rfl) ?_)))
  have Bo := B2
  refine ZS s_37 rfl rfl rfl (Xl.one _) B2 rfl ?_; intro w5 E5 B2 hz5
  replace hX := hX.mine E5 hl2
  replace B3 := B3.ext E5 (fun h => by omega)
  replace hQ := hq _ _ (E5.mono fun i hi => by have h3 : i = b2 := hi; omega) hQ
  refine Zc (ZB ?_)
  exact ⟨_, ZD (Xn s_37 rfl B2 rfl), hX, ⟨rfl, hQ⟩⟩
section
section
variable {L : Lay} {G G' : Tg} {w w' : World} {s : St} {me : Nat}
theorem CoM.epT (hM : CoM L G w s) {now : Int} {pin : List Int} {lim : List (List Int)} (hS : ZV (fun x => x ≠ 1) G w G' w') (h : EpM L.ep L.pn now pin lim G' w') : CoM L G' w' { s with now := now, pin := pin, lim := lim } :=
 ⟨hM.frz.same hS (by decide), hM.lk.same hS (by decide), h, hM.pl.same hS (by decide) (by decide), hM.rt.same hS (by decide), hM.k0.same hS (by decide) (by decide), hM.k1.same hS (by decide) (by decide), hM.k2.same hS (by decide) (by decide), hM.k3.same hS (by decide) (by decide), hM.rg.same hS (by decide), hM.lg.same hS (by decide)⟩
theorem CoM.plT (hM : CoM L G w s) {pls : List PlD} {free : List Int} (hS : ZV (fun x => x ≠ 2) G w G' w') (h : PlM L.pl pls free G' w') : CoM L G' w' { s with pls := pls, free := free } :=
 ⟨hM.frz.same hS (by decide), hM.lk.same hS (by decide), hM.ep.same hS (by decide) (by decide), h, hM.rt.same hS (by decide), hM.k0.same hS (by decide) (by decide), hM.k1.same hS (by decide) (by decide), hM.k2.same hS (by decide) (by decide), hM.k3.same hS (by decide) (by decide), hM.rg.same hS (by decide), hM.lg.same hS (by decide)⟩
theorem CoM.rtT (hM : CoM L G w s) {r : Int × Int} (hS : ZV (fun x => x ≠ 4) G w G' w') (h : RtM L.rt r G' w') : CoM L G' w' { s with root := r } :=
 ⟨hM.frz.same hS (by decide), hM.lk.same hS (by decide), hM.ep.same hS (by decide) (by decide), hM.pl.same hS (by decide) (by decide), h, hM.k0.same hS (by decide) (by decide), hM.k1.same hS (by decide) (by decide), hM.k2.same hS (by decide) (by decide), hM.k3.same hS (by decide) (by decide), hM.rg.same hS (by decide), hM.lg.same hS (by decide)⟩
theorem CoM.rgT (hM : CoM L G w s) {rgs : List RgD} (hS : ZV (fun x => x ≠ 6) G w G' w') (h : RgsM L.rb L.rs rgs G' w') : CoM L G' w' { s with rgs := rgs } :=
 ⟨hM.frz.same hS (by decide), hM.lk.same hS (by decide), hM.ep.same hS (by decide) (by decide), hM.pl.same hS (by decide) (by decide), hM.rt.same hS (by decide), hM.k0.same hS (by decide) (by decide), hM.k1.same hS (by decide) (by decide), hM.k2.same hS (by decide) (by decide), hM.k3.same hS (by decide) (by decide), h, hM.lg.same hS (by decide)⟩
theorem CoM.lgT (hM : CoM L G w s) {log : List Z4} {lnow : Int} (hS : ZV (fun x => x ≠ 7) G w G' w') (h : LgM L.lg log lnow G' w') : CoM L G' w' { s with log := log, lnow := lnow } :=
 ⟨hM.frz.same hS (by decide), hM.lk.same hS (by decide), hM.ep.same hS (by decide) (by decide), hM.pl.same hS (by decide) (by decide), hM.rt.same hS (by decide), hM.k0.same hS (by decide) (by decide), hM.k1.same hS (by decide) (by decide), hM.k2.same hS (by decide) (by decide), hM.k3.same hS (by decide) (by decide), hM.rg.same hS (by decide), h⟩
theorem load_co : LoadM (coY L) me 129 (pt L.rt) (fun s : St => s.root) (fun v => .agg #[.int .i64 v.1, .int .i64 v.2]) G w := by
 refine ⟨rfl, rfl, fun G' w' s hS hM => ?_⟩
 have hM : CoM L G' w' s := hM
 obtain ⟨n, hB⟩ := hM.rt
 refine (lift (me := me) (t := 4) (u := 0) (R' := fun v G1 w1 => v = .agg #[.int .i64 s.root.1, .int .i64 s.root.2] ∧ CoM L G1 w1 s) (ldR_ok w' hB.1) (fun j hj => by rw [hj]; exact hB.2) (by decide) (by decide) ?_).mono ?_
 ·rintro v w1 hE ⟨rfl, hB'⟩ S1
  exact ⟨rfl, hM.rtT S1 ⟨_, hB', (Xf hB.lt).trans hB.2⟩⟩
 ·rintro v w1 hE ⟨G1, t1, t2, rfl, t3⟩
  exact ⟨rfl, G1, t1, t2, t3⟩
theorem cas_co {o q : Int × Int} : CasM (coY L) me (pt L.rt) o q (St.casB o) (St.cas o q) G w := by
 refine ⟨rfl, rfl, fun G' w' s hS hM => ?_⟩
 have hM : CoM L G' w' s := hM
 obtain ⟨n, hB⟩ := hM.rt
 refine (lift (me := me) (t := 4) (u := 0) (R' := fun v G1 w1 => v = .bool (St.casB o s) ∧ CoM L G1 w1 (St.cas o q s)) (casR_ok w' o.1 o.2 q.1 q.2 hB.1) (fun j hj => by rw [hj]; exact hB.2) (by decide) (by decide) ?_).mono ?_
 ·rintro v w1 hE ⟨rfl, hB'⟩ S1
  have e : (s.root = o) ↔ (s.root.1 = o.1 ∧ s.root.2 = o.2) := Prod.ext_iff
  refine ⟨congrArg Value.bool (decide_eq_decide.2 e.symm), ?_⟩
  unfold St.cas
  by_cases h : s.root = o
  ·rw [if_pos h]; rw [if_pos (e.1 h)] at hB'
   exact hM.rtT S1 ⟨_, hB', (Xf hB.lt).trans hB.2⟩
  ·rw [if_neg h]; rw [if_neg (fun h' => h (e.2 h'))] at hB'
   exact hM.rtT S1 ⟨_, hB', (Xf hB.lt).trans hB.2⟩
 ·rintro v w1 hE ⟨G1, t1, t2, rfl, t3⟩
  exact ⟨rfl, G1, t1, t2, t3⟩
theorem kc_ld {b sb : Nat} {G' : Tg} {w' : World} {X : Tg → World → Prop} (h : KcM b sb G' w') (hX : ∀ G1 w1, KcM b sb G1 w1 → (∀ i, i < w'.heap.size → i ≠ b → w1.heap[i]? = w'.heap[i]?) → Ext (fun i => i = b) w' w1 → (∀ i, i < w'.heap.size → G1 i = G' i) → X G1 w1) : FnM Tryz.prog (Wr me G') 237 #[pt b] w' fun u w1 => u = pt sb ∧ ∃ G1, Tgs me G' w' G1 w1 ∧ ZV (MyT me) G' w' G1 w1 ∧ X G1 w1 := by
 obtain ⟨n, hB, hs⟩ := h
 refine (lift (me := me) (t := 5) (u := 0) (R' := fun u G1 w1 => u = pt sb ∧ X G1 w1) (ldK_ok w' hB.1) (fun j hj => by rw [hj]; exact hB.2) (by decide) (by decide) ?_).mono ?_
 ·rintro v w1 hE ⟨rfl, hB'⟩ S1
  exact ⟨rfl, hX _ _ ⟨_, ⟨hB', (Xf hB.lt).trans hB.2⟩, hs.same S1 (by decide)⟩ (fun i hi hne => hE.block i hi hne) hE (fun i hi => Xf hi)⟩
 ·rintro v w1 hE ⟨G1, t1, t2, rfl, t3⟩
  exact ⟨rfl, G1, t1, t2, t3⟩
theorem KcM.ext1 {b b2 sb : Nat} {G G1 : Tg} {w w1 : World} (h : KcM b sb G w) (hE : Ext (fun i => i = b2) w w1) (hG : ∀ i, i < w.heap.size → G1 i = G i) (hb : b ≠ b2) (hs : sb ≠ b2) : KcM b sb G1 w1 := by
 obtain ⟨n, h1, h2⟩ := h
 exact ⟨n, ⟨h1.1.ext hE hb, (hG _ h1.lt).trans h1.2⟩, ⟨h2.1.ext hE hs, (hG _ h2.lt).trans h2.2⟩⟩
def Lay.kc (L : Lay) : Nat → Nat | 0 => L.k0 | 1 => L.k1 | 2 => L.k2 | _ => L.k3
def Lay.ks (L : Lay) : Nat → Nat | 0 => L.s0 | 1 => L.s1 | 2 => L.s2 | _ => L.s3
theorem kept_co {i : Nat} (hi : i < 4) (hnd : L.k0 ≠ L.k1 ∧ L.k0 ≠ L.k2 ∧ L.k0 ≠ L.k3 ∧ L.k1 ≠ L.k2 ∧ L.k1 ≠ L.k3 ∧ L.k2 ≠ L.k3) : LoadM (coY L) me 237 (pt (L.kc i)) (fun _ : St => some (⟨L.ks i, 0, none⟩ : Addr)) (fun v => .pointer v) G w := by
 refine ⟨rfl, rfl, fun G' w' s hS hM => ?_⟩
 have hM : CoM L G' w' s := hM
 have tg : ∀ {b sb}, KcM b sb G' w' → G' b = 5 ∧ G' sb = 0 := fun h => by obtain ⟨n, h1, h2⟩ := h; exact ⟨h1.2, h2.2⟩
 have t0 := tg hM.k0; have t1 := tg hM.k1; have t2 := tg hM.k2; have t3 := tg hM.k3
 have nz : ∀ {a b : Nat}, G' a = 0 → G' b = 5 → a ≠ b := fun h1 h2 e => by rw [e, h2] at h1; cases h1
 obtain ⟨n1, n2, n3, n4, n5, n6⟩ := hnd
 have rest : ∀ (b : Nat) G1 w1, G' b = 5 → Ext (fun i => i = b) w' w1 → (∀ i, i < w'.heap.size → G1 i = G' i) → (KcM L.k0 L.s0 G1 w1 ∧ KcM L.k1 L.s1 G1 w1 ∧ KcM L.k2 L.s2 G1 w1 ∧ KcM L.k3 L.s3 G1 w1) → CoM L G1 w1 s := fun b G1 w1 hb hE hG hk => by
  have S1 : ZV (fun x => x ≠ 5) G' w' G1 w1 := ⟨hE.mono fun i hi h => h (by rw [hi, hb]), hG⟩
  exact ⟨hM.frz.same S1 (by decide), hM.lk.same S1 (by decide), hM.ep.same S1 (by decide) (by decide), hM.pl.same S1 (by decide) (by decide), hM.rt.same S1 (by decide), hk.1, hk.2.1, hk.2.2.1, hk.2.2.2, hM.rg.same S1 (by decide), hM.lg.same S1 (by decide)⟩
 rcases i with _ | _ | _ | _ | i
 ·exact kc_ld (X := fun G1 w1 => CoM L G1 w1 s) hM.k0 fun G1 w1 h _ hE hG => rest _ G1 w1 t0.1 hE hG ⟨h, hM.k1.ext1 hE hG n1.symm (nz t1.2 t0.1), hM.k2.ext1 hE hG n2.symm (nz t2.2 t0.1), hM.k3.ext1 hE hG n3.symm (nz t3.2 t0.1)⟩
 ·exact kc_ld (X := fun G1 w1 => CoM L G1 w1 s) hM.k1 fun G1 w1 h _ hE hG => rest _ G1 w1 t1.1 hE hG ⟨hM.k0.ext1 hE hG n1 (nz t0.2 t1.1), h, hM.k2.ext1 hE hG n4.symm (nz t2.2 t1.1), hM.k3.ext1 hE hG n5.symm (nz t3.2 t1.1)⟩
 ·exact kc_ld (X := fun G1 w1 => CoM L G1 w1 s) hM.k2 fun G1 w1 h _ hE hG => rest _ G1 w1 t2.1 hE hG ⟨hM.k0.ext1 hE hG n2 (nz t0.2 t2.1), hM.k1.ext1 hE hG n4 (nz t1.2 t2.1), h, hM.k3.ext1 hE hG n6.symm (nz t3.2 t2.1)⟩
 ·exact kc_ld (X := fun G1 w1 => CoM L G1 w1 s) hM.k3 fun G1 w1 h _ hE hG => rest _ G1 w1 t3.1 hE hG ⟨hM.k0.ext1 hE hG n3 (nz t0.2 t3.1), hM.k1.ext1 hE hG n5 (nz t1.2 t3.1), hM.k2.ext1 hE hG n6 (nz t2.2 t3.1), h⟩
 ·omega
theorem pin_co (hM : CoM L G w s) {t : Nat} (ha : St.pinA t s = true) : FnM Tryz.prog (Wr me G) 71 #[pt L.ep, .int .i64 (t : Nat)] w fun _ w1 => ∃ G1, Tgs me G w G1 w1 ∧ ZV (MyT me) G w G1 w1 ∧ CoM L G1 w1 (St.pinT t s) := by
 obtain ⟨⟨c, spare, vs, h1, h2, h3, h4⟩, h5, h6, h7, h8⟩ := hM.ep
 have hp : s.pin[((t : Nat) : Int).toNat]? = some (-1) := by rw [Int.toNat_natCast]; exact of_decide_eq_true ha
 refine lift (me := me) (t := 1) (u := 0) (R' := fun u G1 w1 => CoM L G1 w1 (St.pinT t s)) (epin_ok w h1.1 h2 (by omega) hp (by omega)) (fun j hj => by rw [hj]; exact h5) (by decide) (by decide) ?_
 rintro v w1 hE ⟨rfl, spare', hO⟩ S1
 rw [Int.toNat_natCast] at hO
 refine hM.epT (now := s.now) (pin := s.pin.set t s.now) (lim := s.lim) S1 ⟨⟨c, spare', vs, ?_, by rw [List.length_set]; exact hO, h3, fun i l hl => ?_⟩, (Xf h2.box.lt).trans h5, h6, by rw [List.length_set]; exact h7, h8⟩
 ·rw [List.length_set]; exact ⟨h1.1.ext hE (fun e => h6 e), (Xf h1.lt).trans h1.2⟩
 ·obtain ⟨v, k1, k2, k3⟩ := h4 i l hl; exact ⟨v, k1, S1.sl0 (by decide) k2, k3⟩
theorem unpin_co (hM : CoM L G w s) {t : Nat} (ha : St.unpinA t s = true) : FnM Tryz.prog (Wr me G) 175 #[pt L.ep, .int .i64 (t : Nat)] w fun _ w1 => ∃ G1, Tgs me G w G1 w1 ∧ ZV (MyT me) G w G1 w1 ∧ CoM L G1 w1 (St.unpinT t s) := by
 obtain ⟨⟨c, spare, vs, h1, h2, h3, h4⟩, h5, h6, h7, h8⟩ := hM.ep
 obtain ⟨p, hp, hp0⟩ : ∃ p, s.pin[t]? = some p ∧ 0 ≤ p := by
  unfold St.unpinA at ha
  cases h : s.pin[t]? with
  | none => rw [h] at ha; cases ha
  | some p => rw [h] at ha; exact ⟨p, rfl, of_decide_eq_true ha⟩
 have hp : s.pin[((t : Nat) : Int).toNat]? = some p := by rw [Int.toNat_natCast]; exact hp
 refine lift (me := me) (t := 1) (u := 0) (R' := fun u G1 w1 => CoM L G1 w1 (St.unpinT t s)) (eunpin_ok w h1.1 h2 (by omega) hp hp0) (fun j hj => by rw [hj]; exact h5) (by decide) (by decide) ?_
 rintro v w1 hE ⟨rfl, spare', hO⟩ S1
 rw [Int.toNat_natCast] at hO
 refine hM.epT (now := s.now) (pin := s.pin.set t (-1)) (lim := s.lim) S1 ⟨⟨c, spare', vs, ?_, by rw [List.length_set]; exact hO, h3, fun i l hl => ?_⟩, (Xf h2.box.lt).trans h5, h6, by rw [List.length_set]; exact h7, h8⟩
 ·rw [List.length_set]; exact ⟨h1.1.ext hE (fun e => h6 e), (Xf h1.lt).trans h1.2⟩
 ·obtain ⟨v, k1, k2, k3⟩ := h4 i l hl; exact ⟨v, k1, S1.sl0 (by decide) k2, k3⟩
theorem nowA_spec (h : s.nowA = true) : 0 ≤ s.now ∧ s.now ≤ 1000000000 := by
 unfold St.nowA at h; rw [Bool.and_eq_true, decide_eq_true_eq, decide_eq_true_eq] at h; exact h
theorem part_eff2 {me t1 t2 : Nat} {G : Tg} {w w' : World} {M : Nat → Prop} (hE : Ext M w w') (hM : ∀ i, M i → G i = t1 ∨ G i = t2) (h1 : 1 ≤ t1 ∧ t1 ≤ 7) (h2 : 1 ≤ t2 ∧ t2 ≤ 7) (u : Nat) (hu : u ≤ 7) :
  Tgs me G w (gx G w.heap.size fun _ => u) w' ∧ Ext (Wr me G) w w' ∧ ZV (fun x => x ≠ t1 ∧ x ≠ t2) G w (gx G w.heap.size fun _ => u) w' ∧ ZV (MyT me) G w (gx G w.heap.size fun _ => u) w' := by
 have h3 : ZV (fun x => x ≠ t1 ∧ x ≠ t2) G w (gx G w.heap.size fun _ => u) w' := ⟨hE.mono fun i hi h => (hM i hi).elim h.1 h.2, fun i hi => Xf hi⟩
 refine ⟨Tgs.non fun _ _ _ => .inl hu, hE.mono fun i hi => .inl (by rcases hM i hi with h | h <;> (rw [h]; assumption)), h3, h3.mono fun x hx => ?_⟩
 rcases hx with h | h | h <;> (try simp only [kpT, wrT] at h) <;> omega
theorem lift2 {P : Program} {M : Nat → Prop} {R : Value → World → Prop} {R' : Value → Tg → World → Prop} {f : FuncId} {args : Array Value} {t1 t2 u : Nat} (h : FnM P M f args w R) (hM : ∀ i, M i → G i = t1 ∨ G i = t2) (h1 : 1 ≤ t1 ∧ t1 ≤ 7) (h2 : 1 ≤ t2 ∧ t2 ≤ 7) (hu : u ≤ 7)
  (k : ∀ v w', Ext M w w' → R v w' → ZV (fun x => x ≠ t1 ∧ x ≠ t2) G w (gx G w.heap.size fun _ => u) w' → R' v (gx G w.heap.size fun _ => u) w') : FnM P (Wr me G) f args w fun v w' => ∃ G', Tgs me G w G' w' ∧ ZV (MyT me) G w G' w' ∧ R' v G' w' :=
 Calls.mono h fun e w' hx => by
  obtain ⟨v, rfl, hE, hR⟩ := hx
  obtain ⟨q1, q2, q3, q4⟩ := part_eff2 (me := me) hE hM h1 h2 u hu
  exact ⟨v, rfl, q2, _, q1, q4, k v w' hE hR q3⟩
theorem small_nob : Jr .bare := ⟨0, 0, Tr.Ok.bare, by omega, fun p s h => absurd h (bare_at _ _)⟩
theorem adv_no (hM : CoM L G w s) (hn : 0 ≤ s.now ∧ s.now ≤ 1000000000) (hh : s.held = false) (hl0 : s.lim[(s.now + 1).toNat % 3]? = some []) : FnM Tryz.prog (Wr me G) 177 #[pt L.c] w fun _ w1 => ∃ G1, Tgs me G w G1 w1 ∧ ZV (MyT me) G w G1 w1 ∧ CoM L G1 w1 { s with now := s.now + 1, lim := s.lim.set ((s.now + 1).toNat % 3) [] } := by
 obtain ⟨⟨c, spare, vs, h1, h2, h3, h4⟩, h5, h6, h7, h8⟩ := hM.ep
 have hcore := hM.frz.core
 obtain ⟨v0, k1, k2, k3⟩ := h4 _ _ hl0
 rw [k3 rfl] at k1
 refine lift (me := me) (t := 1) (u := 0) (R' := fun u G1 w1 => CoM L G1 w1 { s with now := s.now + 1, lim := s.lim.set ((s.now + 1).toNat % 3) [] }) (ccollect_ok w hcore.1 h1.1 h2 (fun e => h6 e.symm) h3 hn hh k1) (fun j hj => by rw [hj]; exact h1.2) (by decide) (by decide) ?_
 intro v w1 hE hB S1
 refine hM.epT (pin := s.pin) S1 ⟨⟨c, spare, _, ⟨hB, (Xf h1.lt).trans h1.2⟩, h2.ext hE (fun e => h6 e.symm), by rw [List.length_set]; exact h3, fun i l hl => ?_⟩, (Xf h2.box.lt).trans h5, h6, h7, by rw [List.length_set]; exact h8⟩
 by_cases e : (s.now + 1).toNat % 3 = i
 ·subst e
  rw [List.getElem?_set_self (by omega)] at hl; cases hl
  exact ⟨_, List.getElem?_set_self (by omega), Sl.nil _ _ _, fun _ => rfl⟩
 ·rw [List.getElem?_set_ne e] at hl
  obtain ⟨v, q1, q2, q3⟩ := h4 i l hl
  exact ⟨v, by rw [List.getElem?_set_ne e]; exact q1, S1.sl0 (by decide) q2, q3⟩
theorem adv_give (hM : CoM L G w s) (hn : 0 ≤ s.now ∧ s.now ≤ 1000000000) (hh : s.held = false) {x : Int} (hl0 : s.lim[(s.now + 1).toNat % 3]? = some [x]) (ha : s.giveA x = true) : FnM Tryz.prog (Wr me G) 177 #[pt L.c] w fun _ w1 => ∃ G1, Tgs me G w G1 w1 ∧ ZV (MyT me) G w G1 w1 ∧ CoM L G1 w1 (St.give x { s with now := s.now + 1, lim := s.lim.set ((s.now + 1).toNat % 3) [] }) := by
 obtain ⟨⟨c, spare, vs, h1, h2, h3, h4⟩, h5, h6, h7, h8⟩ := hM.ep
 obtain ⟨⟨lv, fv, o, rows, p1, p2, p3, p4, p5, p6, p7⟩, p8, p9⟩ := hM.pl
 have hcore := hM.frz.core
 obtain ⟨v0, k1, k2, k3⟩ := h4 _ _ hl0
 unfold St.giveA at ha
 simp only [Bool.and_eq_true, decide_eq_true_eq] at ha
 obtain ⟨a1, a2, a3⟩ := ha
 cases hq : s.pls[(x - 1).toNat]? with
 | none => rw [hq] at a3; cases a3
 | some q =>
 rw [hq] at a3
 simp only [Bool.and_eq_true, decide_eq_true_eq] at a3
 obtain ⟨b1, b2, b3⟩ := a3
 obtain ⟨p, r1, r2⟩ := p5 _ _ hq
 have hfv := p7 a2
 subst hfv
 rw [b1] at r1
 have hlt := (List.getElem?_eq_some_iff.1 hq).1
 have hep : L.ep ≠ L.pl := fun e => by have := p1.2; rw [← e, h1.2] at this; cases this
 have hpn : L.pn ≠ L.pl := fun e => by have := p1.2; rw [← e, h5] at this; cases this
 have hoe : ∀ j, o = some j → j ≠ L.ep ∧ j ≠ L.pn ∧ j ≠ L.pl ∧ j ≠ L.c := fun j hj => by
  obtain ⟨t1, t2⟩ := p3 j hj
  refine ⟨fun e => ?_, fun e => ?_, t2, fun e => ?_⟩
  ·rw [e, h1.2] at t1; cases t1
  ·rw [e, h5] at t1; cases t1
  ·rw [e, hcore.2] at t1; cases t1
 have hce : L.c ≠ L.ep := fun e => by have := hcore.2; rw [e, h1.2] at this; cases this
 have hcl : L.c ≠ L.pl := fun e => by have := hcore.2; rw [e, p1.2] at this; cases this
 have e0 : St.give x { s with now := s.now + 1, lim := s.lim.set ((s.now + 1).toNat % 3) [] } = { s with now := s.now + 1, lim := s.lim.set ((s.now + 1).toNat % 3) [], pls := s.pls.set (x - 1).toNat ⟨.bare, 0, q.stamp + 1, false⟩, free := s.free ++ [x] } := by
  unfold St.give
  show (match s.pls[(x - 1).toNat]? with | some q => ({ s with now := s.now + 1, lim := s.lim.set ((s.now + 1).toNat % 3) [], pls := s.pls.set (x - 1).toNat ⟨.bare, 0, q.stamp + 1, false⟩, free := s.free ++ [x] } : St) | none => { s with now := s.now + 1, lim := s.lim.set ((s.now + 1).toNat % 3) [] }) = _
  rw [hq]
 rw [e0]
 refine lift2 (me := me) (t1 := 1) (t2 := 2) (u := 0) (R' := fun u G1 w1 => CoM L G1 w1 { s with now := s.now + 1, lim := s.lim.set ((s.now + 1).toNat % 3) [], pls := s.pls.set (x - 1).toNat ⟨.bare, 0, q.stamp + 1, false⟩, free := s.free ++ [x] })
  (ccollect_give w hcore.1 h1.1 h2 (fun e => h6 e.symm) h3 hn hh k1 k2 (fun j hj => by rcases hj with rfl | rfl | hj; rw [h1.2]; decide; rw [p1.2]; decide; rw [(p3 j hj).1]; decide) p2 (fun j hj => ⟨(hoe j hj).1, (hoe j hj).2.2.1, (hoe j hj).2.2.2⟩) hep hce hcl ⟨a1, by omega⟩ (by omega) r1 ⟨b2, b3⟩ p1.1) (fun j hj => by rcases hj with rfl | rfl | hj; exact .inl h1.2; exact .inr p1.2; exact .inr (p3 j hj).1) (by decide) (by decide) (by decide) ?_
 intro v w1 hE hR S1
 obtain ⟨hB, fv', o2, hP, hO, hF, ho2⟩ := hR
 have hlo : ∀ j, o = some j → j < w.heap.size := fun j hj => p2.lt hj
 refine ⟨hM.frz.same S1 (by decide), hM.lk.same S1 (by decide), ⟨⟨c, spare, _, ⟨hB, (Xf h1.lt).trans h1.2⟩, h2.ext hE (fun e => by rcases e with e | e | e; exact h6 e.symm; exact hpn e; exact (hoe _ e).2.1 rfl), by rw [List.length_set]; exact h3, fun i l hl => ?_⟩, (Xf h2.box.lt).trans h5, h6, h7, by rw [List.length_set]; exact h8⟩,
  ⟨⟨lv, fv', o, _, ⟨hP, (Xf p1.lt).trans p1.2⟩, hO, fun j hj => ⟨(Xf (hlo j hj)).trans (p3 j hj).1, (p3 j hj).2⟩, by simp [p4], fun i q' hq' => ?_, ?_, fun h => ?_⟩, by rw [List.length_set]; exact p8, fun i q' hq' => ?_⟩,
  hM.rt.same S1 (by decide), hM.k0.same S1 (by decide) (by decide), hM.k1.same S1 (by decide) (by decide), hM.k2.same S1 (by decide) (by decide), hM.k3.same S1 (by decide) (by decide), hM.rg.same S1 (by decide), hM.lg.same S1 (by decide)⟩
 ·by_cases e : (s.now + 1).toNat % 3 = i
  ·subst e
   rw [List.getElem?_set_self (by omega)] at hl; cases hl
   exact ⟨_, List.getElem?_set_self (by omega), Sl.nil _ _ _, fun _ => rfl⟩
  ·rw [List.getElem?_set_ne e] at hl
   obtain ⟨v, q1, q2, q3⟩ := h4 i l hl
   exact ⟨v, by rw [List.getElem?_set_ne e]; exact q1, S1.sl0 (by decide) q2, q3⟩
 ·by_cases e : (x - 1).toNat = i
  ·subst e
   rw [List.getElem?_set_self hlt] at hq'; cases hq'
   exact ⟨none, by rw [List.getElem?_set_self (by omega)]; rfl, .nil⟩
  ·rw [List.getElem?_set_ne e] at hq'
   obtain ⟨p', q1, q2⟩ := p5 i q' hq'
   exact ⟨p', by rw [List.getElem?_set_ne e]; exact q1, S1.tr0 (by decide) q2⟩
 ·rw [a2]
  exact hF.sl fun j hj hn => hn (Xd (ho2 j hj))
 ·rw [a2] at h; cases h
 ·by_cases e : (x - 1).toNat = i
  ·subst e
   rw [List.getElem?_set_self hlt] at hq'; cases hq'; exact small_nob
  ·rw [List.getElem?_set_ne e] at hq'; exact p9 i q' hq'
theorem adv_co (hM : CoM L G w s) (ha : s.advA = true) : FnM Tryz.prog (Wr me G) 177 #[pt L.c] w fun _ w1 => ∃ G1, Tgs me G w G1 w1 ∧ ZV (MyT me) G w G1 w1 ∧ CoM L G1 w1 s.adv := by
 obtain ⟨⟨c, spare, vs, h1, h2, h3, h4⟩, h5, h6, h7, h8⟩ := hM.ep
 unfold St.advA at ha
 rw [Bool.and_eq_true, Bool.or_eq_true] at ha
 have hn := nowA_spec ha.1
 have hcore := hM.frz.core
 by_cases hh : s.held = true
 ·refine lift (me := me) (t := 1) (u := 0) (R' := fun u G1 w1 => CoM L G1 w1 s.adv) (ccollect_no w hcore.1 h1.1 h2 (fun e => h6 e.symm) h3 hn hh) (fun j hj => by rw [hj]; exact h1.2) (by decide) (by decide) ?_
  intro v w1 hE hB S1
  unfold St.adv; rw [if_pos hh]
  have := hM.epT (now := s.now) (pin := s.pin) (lim := s.lim) S1 ⟨⟨c, spare, vs, ⟨hB, (Xf h1.lt).trans h1.2⟩, h2.ext hE (fun e => h6 e.symm), h3, fun i l hl => by obtain ⟨v, k1, k2, k3⟩ := h4 i l hl; exact ⟨v, k1, S1.sl0 (by decide) k2, k3⟩⟩, (Xf h2.box.lt).trans h5, h6, h7, h8⟩
  exact this
 ·have hh' : s.held = false := by simpa using hh
  have ha2 := ha.2.resolve_left hh
  unfold St.adv; rw [if_neg hh]
  cases hl : s.lim[(s.now + 1).toNat % 3]? with
  | none => rw [hl] at ha2; cases ha2
  | some l =>
   rw [hl] at ha2
   match l, ha2 with
   | [], _ => exact adv_no hM hn hh' hl
   | [x], ha2 => exact adv_give hM hn hh' hl ha2
   | _ :: _ :: _, ha2 => cases ha2
theorem ret_co (hM : CoM L G w s) {x : Int} (ha : s.retA = true) : FnM Tryz.prog (Wr me G) 222 #[pt L.ep, .int .i64 x] w fun _ w1 => ∃ G1, Tgs me G w G1 w1 ∧ ZV (MyT me) G w G1 w1 ∧ CoM L G1 w1 (s.ret x) := by
 obtain ⟨⟨c, spare, vs, h1, h2, h3, h4⟩, h5, h6, h7, h8⟩ := hM.ep
 unfold St.retA at ha
 rw [Bool.and_eq_true, decide_eq_true_eq] at ha
 have hn := nowA_spec ha.1
 obtain ⟨v0, k1, k2, k3⟩ := h4 _ _ ha.2
 rw [k3 rfl] at k1
 refine lift (me := me) (t := 1) (u := 0) (R' := fun u G1 w1 => CoM L G1 w1 (s.ret x)) (eretire_ok w (x := x) h1.1 h3 k1 hn) (fun j hj => by rw [hj]; exact h1.2) (by decide) (by decide) ?_
 rintro u w1 hE ⟨v, o, hB, hO, ho⟩ S1
 refine hM.epT (now := s.now) (pin := s.pin) S1 ⟨⟨c, spare, _, ⟨hB, (Xf h1.lt).trans h1.2⟩, h2.ext hE (fun e => h6 e.symm), by rw [List.length_set]; exact h3, fun i l hl => ?_⟩, (Xf h2.box.lt).trans h5, h6, h7, by rw [List.length_set]; exact h8⟩
 by_cases e : s.now.toNat % 3 = i
 ·subst e
  rw [List.getElem?_set_self (by omega)] at hl; cases hl
  exact ⟨v, List.getElem?_set_self (by omega), hO.sl fun j hj hn => hn (Xd (ho j hj)), fun h => by cases h⟩
 ·rw [List.getElem?_set_ne e] at hl
  obtain ⟨v, q1, q2, q3⟩ := h4 i l hl
  exact ⟨v, by rw [List.getElem?_set_ne e]; exact q1, S1.sl0 (by decide) q2, q3⟩
theorem read_co (hM : CoM L G w s) {w0 : World} (hE0 : Ext Non w w0) {r : Int × Int} (ha : St.readA r s = true) : Fn Tryz.prog 77 #[pt L.c, .agg #[.int .i64 r.1, .int .i64 r.2]] w0 fun u w1 => ∃ p, u = .agg #[.pointer p, .int .i64 (St.readN r s)] ∧ TrM (fun i => ¬ G i = 0) w (St.readT r s) (.pointer p) ∧ Jr (St.readT r s) := by
 obtain ⟨⟨lv, fv, o, rows, h1, h2, h3, h4, h5, h6, h7⟩, h8, h9⟩ := hM.pl
 unfold St.readA at ha
 rw [Bool.and_eq_true, decide_eq_true_eq] at ha
 cases hq : s.pls[(r.1 - 1).toNat]? with
 | none => rw [hq] at ha; cases ha.2
 | some q =>
  rw [hq] at ha
  have ha2 := ha.2
  simp only [Bool.and_eq_true, decide_eq_true_eq] at ha2
  obtain ⟨p, k1, k2⟩ := h5 _ _ hq
  have hlt := (List.getElem?_eq_some_iff.1 hq).1
  have hsl := h2.sl (M := Non) fun _ _ h => h
  obtain ⟨a, c, rfl⟩ := h2.len
  obtain ⟨b, oo, rfl⟩ := hsl.base (by intro e; rw [e] at k1; cases k1)
  have hN : St.readN r s = q.len := by unfold St.readN; rw [hq]
  have hT : St.readT r s = q.tree := by unfold St.readT; rw [hq]
  rw [hN, hT]
  refine (cread_ok w0 (pid := r.1) (st := r.2) (p := p) (len := q.len) (hM.frz.core.1.ext hE0 id) (by omega) (by omega) (h1.1.ext hE0 id) (hsl.ext hE0 (fun _ h => h)) ?_).mono fun u w1 _ h => ⟨p, h, k2, h9 _ _ hq⟩
  rw [k1, ha2.1, ha2.2]; rfl
theorem take_co (hM : CoM L G w s) {t : Tr} {p : Option Addr} {len : Int} (ha : s.takeA = true) (ht : TrM (fun i => ¬ G i = 0) w t (.pointer p)) (hsm : Jr t) (hcp : L.c ≠ L.pl) : FnM Tryz.prog (Wr me G) 217 #[pt L.c, .agg #[.pointer p, .int .i64 len]] w fun u w1 => u = .agg #[.int .i64 s.takeR.1, .int .i64 s.takeR.2] ∧ ∃ G1, Tgs me G w G1 w1 ∧ ZV (MyT me) G w G1 w1 ∧ CoM L G1 w1 (s.take t len) := by
 obtain ⟨⟨lv, fv, o, rows, h1, h2, h3, h4, h5, h6, h7⟩, h8, h9⟩ := hM.pl
 unfold St.takeA at ha
 rw [Bool.and_eq_true, decide_eq_true_eq, decide_eq_true_eq] at ha
 have hcore := hM.frz.core
 have hfv := h7 ha.1
 subst hfv
 refine (lift (me := me) (t := 2) (u := 2) (R' := fun u G1 w1 => u = .agg #[.int .i64 s.takeR.1, .int .i64 s.takeR.2] ∧ CoM L G1 w1 (s.take t len)) (ctake_ok w hcore.1 h2 (fun i hi => (h3 i hi).2) (fun i hi e => by have := (h3 i hi).1; rw [e, hcore.2] at this; cases this) hcp (by omega) p len h1.1) (fun j hj => by rcases hj with rfl | hj; exact h1.2; exact (h3 j hj).1) (by decide) (by decide) ?_).mono ?_
 ·rintro u w1 hE ⟨lv', o', hB, hO, ho, rfl⟩ S1
  have e1 : ((rows ++ [plC none 0 0 false]).length : Int) = ((s.pls.length + 1 : Nat) : Int) := by simp [h4]
  refine ⟨by rw [show s.takeR = (((s.pls.length + 1 : Nat) : Int), 0) from rfl, e1], ?_⟩
  have htag : ∀ j, o' = some j → (gx G w.heap.size fun _ => 2) j = 2 ∧ j ≠ L.pl := fun j hj => by
   by_cases hlt : j < w.heap.size
   ·rcases ho j hj with h | h
    ·exact ⟨(Xf hlt).trans (h3 j h).1, (h3 j h).2⟩
    ·omega
   ·exact ⟨Xd (by omega), fun e => by have := h1.lt; omega⟩
  refine hM.plT (pls := s.pls ++ [⟨t, len, 0, true⟩]) (free := s.free) S1 ⟨⟨lv', XV, o', _, ⟨hB, (Xf h1.lt).trans h1.2⟩, hO, htag, by simp [h4], fun i q hq => ?_, by rw [ha.1]; exact Sl.nil _ _ _, fun _ => rfl⟩, by simp; omega, fun i q hq => ?_⟩
  ·by_cases hi : i < s.pls.length
   ·rw [List.getElem?_append_left hi] at hq
    obtain ⟨p', k1, k2⟩ := h5 i q hq
    exact ⟨p', by rw [List.getElem?_append_left (by omega)]; exact k1, S1.tr0 (by decide) k2⟩
   have hlt := (List.getElem?_eq_some_iff.1 hq).1
   simp only [List.length_append, List.length_singleton] at hlt
   obtain rfl : i = s.pls.length := by omega
   rw [List.getElem?_append_right (Nat.le_refl _), Nat.sub_self] at hq; cases hq
   exact ⟨p, by rw [List.getElem?_append_right (by omega), h4, Nat.sub_self]; rfl, S1.tr0 (by decide) ht⟩
  ·by_cases hi : i < s.pls.length
   ·rw [List.getElem?_append_left hi] at hq; exact h9 i q hq
   ·have hlt := (List.getElem?_eq_some_iff.1 hq).1
    simp only [List.length_append, List.length_singleton] at hlt
    obtain rfl : i = s.pls.length := by omega
    rw [List.getElem?_append_right (Nat.le_refl _), Nat.sub_self] at hq; cases hq; exact hsm
 ·rintro u w1 hE ⟨G1, t1, t2, rfl, t3⟩
  exact ⟨rfl, G1, t1, t2, t3⟩
end
end
section
theorem cput_ok (w : World) {M : Nat → Prop} {R : Value → World → Prop} {cv : Value} {b : Nat} {sub : Int} (m : XI) (hR : ∀ w1, Ext Non w w1 → Fn Tryz.prog 152 #[cv, .int .i64 sub] w1 fun u _ => u = pt b) (hP : ∀ w1, Ext Non w w1 → FnM Tryz.prog M 266 #[pt b, .agg m.enc.toArray] w1 R) : FnM Tryz.prog M 207 #[cv, .int .i64 sub, .agg m.enc.toArray] w fun u w' => R u w' := by
 have hXn := Ext.refl Non w
 have hX := Ext.refl M w
 refine Zfm (args := [_, _, _]) Tryz.func207 rfl rfl ?_
 refine Zs (ZY rfl ?_); intro b5 w1 hb5 E1 B5
 have hq5 := Zq hX hb5
 replace hX := hX.tr E1
 replace hXn := hXn.tr E1
 refine Za ?_
 refine Zc (ZC (Z5 (fun j => j == 4 || j == 5) mixed ?_)); intro w2 E2
 replace hX := hX.tr E2
 replace B5 := Zx B5 E2
 replace hXn := hXn.tr E2
 have hS := Ext.refl Non w2
 refine Zt 0 [2, 4, 5] rfl hS Zy ?_
 refine Zt 1 [2, 4, 5] rfl hS Zy ?_
 refine Zt 3 [4, 5] rfl hS (ZG fun A hA => ZR s_35 rfl rfl (B5.ext hA id)) (Zo 2 rfl (ZK (Zw zE rfl (hR w2 (hXn.tr hS)) ?_))); intro v9 w3 E3 R3
 replace hS := hS.tr E3
 subst R3
 refine Zc ⟨fun _ => hS, ?_⟩
 replace hX := hX.tr hS
 replace B5 := Zx B5 hS
 replace hXn := hXn.tr hS
 refine Zo 4 rfl (ZK (ZI zE rfl (hP w3 hXn) ?_)); intro v11 w4 E4 hR11
 replace hX := hX.trans E4
 refine Zz ?_
 refine Zo 5 rfl (ZK (Za ?_))
 refine Zz ?_
 refine ZZ (by kernel_rfl) ?_ _
 refine ZB ?_
 exact ⟨_, ZD (Zh rfl), hX, hR11⟩
section
variable {L : Lay} {G : Tg} {w : World} {s : St} {me : Nat}
theorem Ya {α : Type} {x : α} : ∀ {l : List α} {i j : Nat}, l.Nodup → l[i]? = some x → l[j]? = some x → i = j
 | [], i, j, _, h, _ => by simp at h
 | y :: l, 0, 0, _, _, _ => rfl
 | y :: l, 0, j + 1, hn, h, k => by
  rw [List.nodup_cons] at hn
  simp only [List.getElem?_cons_zero, Option.some.injEq] at h; subst h
  exact absurd (List.mem_of_getElem? (by simpa using k)) hn.1
 | y :: l, i + 1, 0, hn, h, k => by
  rw [List.nodup_cons] at hn
  simp only [List.getElem?_cons_zero, Option.some.injEq] at k; subst k
  exact absurd (List.mem_of_getElem? (by simpa using h)) hn.1
 | y :: l, i + 1, j + 1, hn, h, k => by
  rw [List.nodup_cons] at hn
  exact congrArg (· + 1) (Ya (l := l) (i := i) (j := j) hn.2 (by simpa using h) (by simpa using k))
theorem ring_co (hM : CoM L G w s) {sub : Int} (h1 : 1 ≤ sub ∧ sub ≤ 8) {q : RgD} (hq : s.rgs[(sub - 1).toNat]? = some q) : ∃ b sb, L.rb[(sub - 1).toNat]? = some b ∧ L.rs[(sub - 1).toNat]? = some sb ∧ RgM b sb q G w ∧ ∀ w1, Ext Non w w1 → Fn Tryz.prog 152 #[pt L.c, .int .i64 sub] w1 fun u _ => u = pt b := by
 have hlt := (List.getElem?_eq_some_iff.1 hq).1
 have hb : L.rb[(sub - 1).toNat]? = some (L.rb[(sub - 1).toNat]'(by have := hM.rg.len1; omega)) := List.getElem?_eq_getElem _
 have hsb : L.rs[(sub - 1).toNat]? = some (L.rs[(sub - 1).toNat]'(by have := hM.rg.len2; omega)) := List.getElem?_eq_getElem _
 refine ⟨_, _, hb, hsb, hM.rg.ex _ _ _ _ hb hsb hq, fun w1 hE => ?_⟩
 have hL := hM.frz.rings.ext (M' := Non) hE (fun _ h => h.elim)
 have hC := hM.frz.core.1.ext hE id
 obtain ⟨a, c, e, _⟩ := hL.len
 obtain ⟨bb, oo, ha⟩ : ∃ bb oo, a = some ⟨bb, oo, none⟩ := by rw [e] at hL; exact hL.base (by intro e2; have := congrArg List.length e2; simp only [List.length_map, List.length_nil] at this; have := hM.rg.len1; omega)
 subst ha
 rw [List.length_map] at e
 have hC' : Zj w1 L.c [pt L.ep, pt L.pl, pt L.gp, pt L.rt, pt L.k0, pt L.k1, pt L.k2, pt L.k3, .slice (some ⟨bb, oo, none⟩) L.rb.length c, .int .i64 0] := by rw [← e]; exact hC
 rw [e] at hL
 exact cring_ok w1 hC' rfl hL h1 hb
theorem put_co (hM : CoM L G w s) {sub : Int} {m : XI} (ha : s.putA sub = true) : FnM Tryz.prog (Wr me G) 207 #[pt L.c, .int .i64 sub, .agg m.enc.toArray] w fun u w1 => u = .bool (s.putB sub) ∧ ∃ G1, Tgs me G w G1 w1 ∧ ZV (MyT me) G w G1 w1 ∧ CoM L G1 w1 (s.put sub m) := by
 unfold St.putA at ha
 rw [Bool.and_eq_true, Bool.and_eq_true, decide_eq_true_eq, decide_eq_true_eq] at ha
 obtain ⟨h1, ha⟩ := ha
 cases hq : s.rgs[(sub - 1).toNat]? with
 | none => rw [hq] at ha; cases ha
 | some q =>
  rw [hq] at ha
  simp only [RgD.putA, Bool.and_eq_true, decide_eq_true_eq] at ha
  obtain ⟨b, sb, hb, hsb, hR, hcall⟩ := ring_co hM h1 hq
  have hlt := (List.getElem?_eq_some_iff.1 hq).1
  have hmod : q.puts.toNat % q.slots.length < q.slots.length := Nat.mod_lt _ (by have := hR.pos; omega)
  obtain ⟨⟨x, k⟩, hk⟩ : ∃ y, q.slots[q.puts.toNat % q.slots.length]? = some y := ⟨_, List.getElem?_eq_getElem hmod⟩
  have hother : ∀ {G' : Tg} {w' : World} (q' : RgD), Ext (fun i => i = b ∨ i = sb) w w' → (∀ i, i < w.heap.size → G' i = G i) → RgM b sb q' G' w' → RgsM L.rb L.rs (s.rgs.set (sub - 1).toNat q') G' w' := by
   intro G' w' q' hE ht hR'
   refine ⟨by rw [List.length_set]; exact hM.rg.len1, by rw [List.length_set]; exact hM.rg.len2, hM.rg.nd, fun i b2 sb2 q2 g1 g2 g3 => ?_⟩
   by_cases e : (sub - 1).toNat = i
   ·subst e
    rw [List.getElem?_set_self hlt] at g3; cases g3
    rw [hb] at g1; cases g1; rw [hsb] at g2; cases g2
    exact hR'
   ·rw [List.getElem?_set_ne e] at g3
    have R2 := hM.rg.ex i b2 sb2 q2 g1 g2 g3
    have hnd := hM.rg.nd
    rw [List.nodup_append] at hnd
    obtain ⟨n1, n2, n3⟩ := hnd
    have i1 := (List.getElem?_eq_some_iff.1 hb); have i2 := (List.getElem?_eq_some_iff.1 g1); have i3 := (List.getElem?_eq_some_iff.1 hsb); have i4 := (List.getElem?_eq_some_iff.1 g2)
    have c1 : b2 ≠ b := fun h => e (Ya n1 hb (by rw [← h]; exact g1))
    have c2 : sb2 ≠ sb := fun h => e (Ya n2 hsb (by rw [← h]; exact g2))
    have c3 : b2 ≠ sb := n3 b2 (List.mem_of_getElem? g1) sb (List.mem_of_getElem? hsb)
    have c4 : b ≠ sb2 := n3 b (List.mem_of_getElem? hb) sb2 (List.mem_of_getElem? g2)
    exact ⟨⟨R2.box.1.ext hE (fun h => by rcases h with h | h; exact c1 h; exact c3 h), (ht _ R2.box.lt).trans R2.box.2⟩, R2.sl.ext hE (fun h => by rcases h with h | h; exact c4 h.symm; exact c2 h), (ht _ R2.sl.box.lt).trans R2.tag, R2.ne, R2.pos⟩
  have hput : s.put sub m = { s with rgs := s.rgs.set (sub - 1).toNat (q.put m) } := by unfold St.put; rw [hq]
  have hpB : s.putB sub = q.putB := by unfold St.putB; rw [hq]
  have hqB : q.putB = decide (k = 2 * q.puts) := by unfold RgD.putB RgD.slot; rw [hk]
  rw [hput, hpB]
  by_cases hk2 : k = 2 * q.puts
  ·have e1 : q.putB = true := by rw [hqB]; exact decide_eq_true hk2
   refine (lift (me := me) (t := 6) (u := 0) (R' := fun u G1 w1 => u = .bool q.putB ∧ CoM L G1 w1 { s with rgs := s.rgs.set (sub - 1).toNat (q.put m) }) (cput_ok w m hcall fun w1 hE => rput_ok w1 (hR.box.1.ext hE id) hR.pos m hR.ne rfl (hR.sl.ext hE id) ha.1.1 hk hk2) (fun j hj => by rcases hj with rfl | rfl; exact hR.box.2; exact hR.tag) (by decide) (by decide) ?_).mono ?_
   ·rintro u w1 hE ⟨rfl, hB, hO⟩ S1
    refine ⟨by rw [e1], hM.rgT S1 (hother _ hE (fun i hi => Xf hi) ?_)⟩
    unfold RgD.put; rw [if_pos e1]
    exact ⟨⟨by simp only [List.length_set]; exact hB, (Xf hR.box.lt).trans hR.box.2⟩, by simp only [List.length_set]; exact hO, (Xf hR.sl.box.lt).trans hR.tag, hR.ne, by simp only [List.length_set]; exact hR.pos⟩
   ·rintro u w1 hE ⟨G1, t1, t2, rfl, t3⟩; exact ⟨rfl, G1, t1, t2, t3⟩
  ·have e1 : q.putB = false := by rw [hqB]; exact decide_eq_false hk2
   refine (lift (me := me) (t := 6) (u := 0) (R' := fun u G1 w1 => u = .bool q.putB ∧ CoM L G1 w1 { s with rgs := s.rgs.set (sub - 1).toNat (q.put m) }) (cput_ok w m hcall fun w1 hE => rput_no w1 (hR.box.1.ext hE id) hR.pos m hR.ne rfl (hR.sl.ext hE id) ha.1.1 hk hk2 ⟨ha.1.2, ha.2⟩) (fun j hj => by rcases hj with rfl | rfl; exact hR.box.2; exact hR.tag) (by decide) (by decide) ?_).mono ?_
   ·rintro u w1 hE ⟨rfl, hB, hO⟩ S1
    refine ⟨by rw [e1], hM.rgT S1 (hother _ hE (fun i hi => Xf hi) ?_)⟩
    unfold RgD.put; rw [if_neg (by rw [e1]; simp)]
    exact ⟨⟨hB, (Xf hR.box.lt).trans hR.box.2⟩, hO, (Xf hR.sl.box.lt).trans hR.tag, hR.ne, hR.pos⟩
   ·rintro u w1 hE ⟨G1, t1, t2, rfl, t3⟩; exact ⟨rfl, G1, t1, t2, t3⟩
theorem begin_co (hM : CoM L G w s) {t : Int} {x : OpD} (ha : s.beginA = true) : FnM Tryz.prog (Wr me G) 102 #[pt L.lg, .int .i64 t, .agg x.enc.toArray] w fun u w1 => u = .int .i64 ((s.log.length + 1 : Nat) : Int) ∧ ∃ G1, Tgs me G w G1 w1 ∧ ZV (MyT me) G w G1 w1 ∧ CoM L G1 w1 (s.begin t x) := by
 obtain ⟨⟨lv, o, rows, mv, h1, h2, h3, h4, h5, h6, h7⟩, h8⟩ := hM.lg
 simp only [St.beginA, Bool.and_eq_true, decide_eq_true_eq] at ha
 have key : ∀ (M : Nat → Prop) (hMt : ∀ i, M i → G i = 7) (hraw : FnM Tryz.prog M 102 #[pt L.lg, .int .i64 t, .agg x.enc.toArray] w fun u w' => ∃ lv' o' mb' kvs' p, u = .int .i64 ((rows.length + 1 : Nat) : Int) ∧ Zj w' L.lg [lv', .int .i64 (s.lnow + 1), .map (some mb')] ∧ OwO w' lv' o' 15 (rows ++ [callC ⟨t, 0, x, ⟨0, 0, 0, ⟨[], [], false⟩⟩, s.lnow + 1, 0⟩ p]) ∧ (∀ i, o' = some i → o = some i ∨ w.heap.size ≤ i) ∧ Yj w' mb' kvs' ∧ Ints kvs' ∧ o' ≠ some mb' ∧ mb' ≠ L.lg ∧ (mv = .map (some mb') ∨ w.heap.size ≤ mb')),
   FnM Tryz.prog (Wr me G) 102 #[pt L.lg, .int .i64 t, .agg x.enc.toArray] w fun u w1 => u = .int .i64 ((s.log.length + 1 : Nat) : Int) ∧ ∃ G1, Tgs me G w G1 w1 ∧ ZV (MyT me) G w G1 w1 ∧ CoM L G1 w1 (s.begin t x) := by
  intro M hMt hraw
  refine (lift (me := me) (t := 7) (u := 7) (R' := fun u G1 w1 => u = .int .i64 ((s.log.length + 1 : Nat) : Int) ∧ CoM L G1 w1 (s.begin t x)) hraw hMt (by decide) (by decide) ?_).mono ?_
  ·rintro u w1 hE ⟨lv', o', mb', kvs', p, rfl, hB, hO, ho, hm, hI, hom, hml, hmo⟩ S1
   refine ⟨by rw [h4], hM.lgT S1 ⟨⟨lv', o', _, .map (some mb'), ⟨hB, (Xf h1.lt).trans h1.2⟩, hO, fun j hj => ?_, by simp [h4], fun i q hq => ?_, fun r hr u hu => ?_, .inr ⟨mb', kvs', rfl, ?_, hml, hom, hm, hI⟩⟩, by simp; omega⟩⟩
   ·by_cases hlt : j < w.heap.size
    ·rcases ho j hj with h | h
     ·exact ⟨(Xf hlt).trans (h3 j h).1, (h3 j h).2⟩
     ·omega
    ·exact ⟨Xd (by omega), fun e => by have := h1.lt; omega⟩
   ·by_cases hi : i < s.log.length
    ·rw [List.getElem?_append_left hi] at hq
     obtain ⟨p', k1⟩ := h5 i q hq
     exact ⟨p', by rw [List.getElem?_append_left (by omega)]; exact k1⟩
    ·have hlt := (List.getElem?_eq_some_iff.1 hq).1
     simp only [List.length_append, List.length_singleton] at hlt
     obtain rfl : i = s.log.length := by omega
     rw [List.getElem?_append_right (Nat.le_refl _), Nat.sub_self] at hq; cases hq
     exact ⟨p, by rw [List.getElem?_append_right (by omega), h4, Nat.sub_self]; rfl⟩
   ·rcases List.mem_append.1 hr with hr | hr
    ·exact h6 r hr u hu
    ·simp only [List.mem_singleton] at hr; subst hr; exact Z4.one _ u hu
   ·rcases hmo with h | h
    ·rcases h7 with h7 | ⟨mb, kvs, k1, k2, k3, k4, k5, k6⟩
     ·rw [h7] at h; cases h
     ·rw [k1] at h; cases h; exact (Xf k5.lt).trans k2
    ·exact Xd h
  ·rintro u w1 hE ⟨G1, t1, t2, rfl, t3⟩; exact ⟨rfl, G1, t1, t2, t3⟩
 rcases h7 with rfl | ⟨mb, kvs, rfl, k2, k3, k4, k5, k6⟩
 ·refine key _ (fun i hi => ?_) ((begin_new w h2 (fun i hi => (h3 i hi).2) h6 t x ⟨ha.1.1, ha.1.2⟩ (by omega) h1.1).mono fun u w' hE h => ?_)
  ·rcases hi with rfl | hi
   ·exact h1.2
   ·exact (h3 i hi).1
  ·obtain ⟨lv', o', mb', kvs', p, e1, e2, e3, e4, e5, e6, e7, e8, e9⟩ := h
   exact ⟨lv', o', mb', kvs', p, e1, e2, e3, e4, e5, e6, e7, e8, e9⟩
 ·refine key _ (fun i hi => ?_) ((begin_old w h2 (fun i hi => (h3 i hi).2) h6 k5 k6 k3 k4 t x ⟨ha.1.1, ha.1.2⟩ (by omega) h1.1).mono fun u w' hE h => ?_)
  ·rcases hi with rfl | hi | rfl
   ·exact h1.2
   ·exact (h3 i hi).1
   ·exact k2
  ·obtain ⟨lv', o', mb', kvs', p, e1, e2, e3, e4, e5, e6, e7, e8, e9⟩ := h
   exact ⟨lv', o', mb', kvs', p, e1, e2, e3, e4, e5, e6, e7, e8, e9⟩
theorem end_co (hM : CoM L G w s) {cid : Nat} {x : Xl} (ha : s.endA cid = true) : FnM Tryz.prog (Wr me G) 105 #[pt L.lg,   .int .i64 (cid : Nat), .agg x.enc.toArray] w fun _ w1 => ∃ G1, Tgs me G w G1 w1 ∧ ZV (MyT me) G w G1 w1 ∧ CoM L G1 w1 (s.end_ cid x) := by
 obtain ⟨⟨lv, o, rows, mv, h1, h2, h3, h4, h5, h6, h7⟩, h8⟩ := hM.lg
 simp only [St.endA, Bool.and_eq_true, decide_eq_true_eq] at ha
 cases hq : s.log[cid - 1]? with
 | none => rw [hq] at ha; cases ha.2
 | some q =>
  rw [hq] at ha
  have hq0 : q.to_ = 0 := of_decide_eq_true ha.2
  obtain ⟨p, k1⟩ := h5 _ _ hq
  have hlt := (List.getElem?_eq_some_iff.1 hq).1
  rcases h2 with ⟨rfl, rfl, rfl⟩ | ⟨eb, spare, rfl, hO⟩
  ·cases k1
  ·obtain ⟨c, rfl, _⟩ := hO.val
   have htag := h3 eb rfl
   refine lift (me := me) (t := 7) (u := 0) (R' := fun u G1 w1 => CoM L G1 w1 (s.end_ cid x)) (end_ok w (fun e => htag.2 e.symm) hO rfl h1.1 ⟨ha.1.1.1, ha.1.1.2⟩ (by omega) x (by omega) k1 hq0) (fun j hj => by rcases hj with rfl | rfl; exact h1.2; exact htag.1) (by decide) (by decide) ?_
   rintro u w1 hE ⟨hB, hO'⟩ S1
   have he : s.end_ cid x = { s with log := s.log.set (cid - 1) { q with ans := x, to_ := s.lnow + 1 }, lnow := s.lnow + 1 } := by unfold St.end_; rw [hq]
   rw [he]
   refine hM.lgT S1 ⟨⟨_, some eb, _, mv, ⟨hB, (Xf h1.lt).trans h1.2⟩, .inr ⟨eb, spare, rfl, hO'⟩, fun j hj => by cases hj; exact ⟨(Xf hO.box.lt).trans htag.1, htag.2⟩, by simp only [List.length_set]; exact h4, fun i q2 hq2 => ?_, fun r hr u hu => ?_, ?_⟩, by simp only [List.length_set]; exact h8⟩
   ·by_cases e : cid - 1 = i
    ·subst e
     rw [List.getElem?_set_self hlt] at hq2; cases hq2
     exact ⟨p, by rw [List.getElem?_set_self (by omega)]⟩
    ·rw [List.getElem?_set_ne e] at hq2
     obtain ⟨p', g⟩ := h5 i q2 hq2
     exact ⟨p', by rw [List.getElem?_set_ne e]; exact g⟩
   ·rcases List.mem_or_eq_of_mem_set hr with hr | rfl
    ·exact h6 r hr u hu
    ·exact Z4.one _ u hu
   ·rcases h7 with h7 | ⟨mb, kvs, g1, g2, g3, g4, g5, g6⟩
    ·exact .inl h7
    ·exact .inr ⟨mb, kvs, g1, (Xf g5.lt).trans g2, g3, g4, g5.ext hE (fun e => by rcases e with e | e; exact g3 e; exact g4 (by rw [e])), g6⟩
end
end
theorem ibs_name : (Tryz.f297.name == "runtime.NumGoroutine") = false := by kernel_rfl
theorem ibs_body : Tryz.f297.body.isNone = true := by kernel_rfl
theorem ibs_next : Extern.findNext Tryz.f297 = none := by kernel_rfl
theorem ibs_find : Extern.find Tryz.f297 = some Extern.BytealgIndexByte.indexByte := by kernel_rfl
theorem ibs : IB Tryz.prog 297 := ⟨_, Tryz.func297, ibs_name, ibs_body, ibs_next, ibs_find⟩
theorem fi_self (c : UInt8) : fi [c] c = 0 := by simp [fi, Xk]
theorem fi_ge (s : Str) (c : UInt8) : 0 ≤ fi s c ↔ c ∈ s := by
 unfold fi; split
 ·rename_i h; exact ⟨fun _ => h, fun _ => by omega⟩
 ·rename_i h; exact ⟨fun h' => absurd h' (by decide), fun h' => absurd h' h⟩
theorem fi_in {s : Str} {c : UInt8} (h : c ∈ s) : fi s c = ((Xk c s).length : Nat) := by unfold fi; rw [if_pos h]
def post1 (c : UInt8) (s : Str) : Str := s.drop ((Xk c s).length + 1)
set_option maxHeartbeats 1600000 in
theorem indexByte_ok (w : World) (s : Str) (c : UInt8) : Fn Tryz.prog 248 #[Sv s, .int .u8 c.toNat] w fun u w' => u = .int .i64 (fi s c) := by
 have hX := Ext.refl Non w
 refine Zfw (args := [_, _]) Tryz.func248 rfl rfl ?_
 refine Zs (Za ?_)
 refine Zc (Zs (Zm (Zm ?_)))
 refine Zb (P := Tryz.prog) (op := .call ⟨.value (.func 297), #[.tmp 5, .tmp 6], #[9, 5]⟩) (rn_indexByte ibs rfl rfl) ?_
 refine Za ?_
 refine Zc (ZB ?_)
 exact ⟨_, ZD (Zh rfl), hX, rfl⟩
set_option maxHeartbeats 800000 in
theorem index_ok (w : World) (s : Str) (c : UInt8) : Fn Tryz.prog 257 #[Sv s, Sv [c]] w fun u w' => u = .int .i64 (fi s c) := by
 have hX := Ext.refl Non w
 refine Zfw (args := [_, _]) Tryz.func257 rfl rfl ?_
 refine Zs (Za ?_)
 refine Zc (Zs (Zm ?_))
 refine Zb (Qe Qj rfl) (Za ?_)
 refine Zc (ZC (ZO (Zs (Zm ?_))))
 refine Zb (Xc rfl rfl) (Zm ?_)
 refine Z3 (d := 19) rfl (fun hg19 => ?_) (fun hg19 => ?_)
 ·exact absurd (of_decide_eq_true hg19) (by simp)
 ·refine Zu rfl (Zcb hg19) (Zm ?_)
  refine Zu rfl (Zcb hg19) (Zm ?_)
  refine Zu rfl (Zcb hg19) (Zb (Jv rfl rfl) (Zb (ZQ (Zcb hg19) (by conv => lhs; whnf)) ?_))
  refine Za ?_
  refine Zc ?_
  refine ZE rfl (fun hc0 => ?_) (fun hc0 => ?_)
  ·refine Zs (Za ?_)
   refine Zc (ZB ?_)
   exact ⟨_, ZD (Zh rfl), hX, by have e := of_decide_eq_true hc0; rw [← e, fi_self]; rfl⟩
  ·refine Zs (Zm ?_)
   refine Zb (Xc rfl rfl) (Za ?_)
   refine Zc ?_
   refine ZE rfl (fun hc1 => ?_) (fun hc1 => ?_)
   ·refine Zs (Zm (Zm ?_))
    refine Zb (Qh Qj rfl rfl (by omega) rfl) (Zw zE rfl (indexByte_ok w s c) ?_); intro v30 w1 E1 R1
    replace hX := hX.tr E1
    subst R1
    refine Za ?_
    refine Zc (ZB ?_)
    exact ⟨_, ZD (Zh rfl), hX, rfl⟩
   ·exact absurd (of_decide_eq_false hc1) (by simp)
set_option maxHeartbeats 800000 in
theorem scut_ok (w : World) (s : Str) (c : UInt8) (hn : s.length ≤ 1000000) : Fn Tryz.prog 194 #[Sv s, Sv [c]] w fun u w' => u = .tuple #[Sv (Xk c s), Sv (post1 c s), .bool (decide (c ∈ s))] := by
 have hpl := pre1_le c s
 have hX := Ext.refl Non w
 refine Zfw (args := [_, _]) Tryz.func194 rfl rfl ?_
 refine Zs (Za (Za (Za ?_)))
 refine Zc (ZC (Zs (Zm (Zm ?_))))
 refine Zw zE rfl (index_ok w s c) ?_; intro v10 w1 E1 R1
 replace hX := hX.tr E1
 subst R1
 refine Za ?_
 refine Zc (Zs (Zm ?_))
 refine Zb (X8 rfl rfl) (Zc ?_)
 refine ZE rfl (fun hc0 => ?_) (fun hc0 => ?_)
 ·have hcm : c ∈ s := (fi_ge s c).1 (of_decide_eq_true hc0)
  have hfi := fi_in hcm
  have hlt : (Xk c s).length < s.length := (List.getElem?_eq_some_iff.1 (pre1_mem hcm)).1
  refine ZC (Qq mixed ?_); intro w2 E2
  replace hX := hX.tr E2
  have hS := Ext.refl Non w2
  refine Zd 0 rfl hS Zy ?_
  refine Zd 1 rfl hS (ZG fun A hA => Rn.cast (XO rfl) (v' := .int .i64 ((Xk c s).length : Nat)) (congrArg (Value.int .i64) hfi)) ?_
  refine Zd 2 rfl hS (ZG fun A hA => JC Qj (l := 0) (h := (Xk c s).length) rfl rfl ⟨_, rfl⟩ (by omega) (by first | omega | (simp only [List.length_cons, List.length_nil, List.length_append]; omega))) ?_
  refine Zd 3 rfl hS Zy ?_
  refine Zd 4 rfl hS (ZG fun A hA => Rn.cast (XO rfl) (v' := .int .i64 ((Xk c s).length : Nat)) (congrArg (Value.int .i64) hfi)) ?_
  refine Zd 5 rfl hS Zy ?_
  refine Zd 6 rfl hS (Zr (Qe Qj rfl)) (Zd 7 rfl hS (ZG fun A hA => ZX rfl rfl (by simp only [List.length_singleton]; omega)) (Zd 8 rfl hS (ZG fun A hA => JC Qj (l := ((Xk c s).length + 1)) (h := s.length) rfl ⟨_, rfl⟩ rfl (by omega) (by first | omega | (simp only [List.length_cons, List.length_nil, List.length_append]; omega))) ?_))
  refine Zd 9 rfl hS (ZG fun A hA => Xm (by conv => lhs; whnf)) ?_
  refine Zd 10 rfl hS (ZG fun A hA => Xm (by conv => lhs; whnf)) ?_
  refine Zd 11 rfl hS (ZG fun A hA => Xm (by conv => lhs; whnf)) ?_
  refine Xw (by kernel_rfl) ?_ _
  replace hX := hX.tr hS
  refine ZB ?_
  exact ⟨_, resR3 (Zh rfl) (Zh rfl) (Zh rfl), hX, by rw [decide_eq_true hcm]; show Value.tuple #[Sv ((s.drop 0).take ((Xk c s).length - 0)), Sv ((s.drop ((Xk c s).length + 1)).take (s.length - ((Xk c s).length + 1))), .bool true] = _; rw [List.drop_zero, Nat.sub_zero, J9, List.take_of_length_le (by rw [List.length_drop]; exact Nat.le_refl _)]; rfl⟩
 ·have hcm : ¬ c ∈ s := fun h => of_decide_eq_false hc0 ((fi_ge s c).2 h)
  refine ZF (Zs (Zm (Za (Za (Za ?_)))))
  refine Zc (ZB ?_)
  exact ⟨_, resR3 (Zh rfl) (Zh rfl) (Zh rfl), hX, by rw [decide_eq_false hcm, pre1_not hcm]; unfold post1; rw [pre1_not hcm, List.drop_of_length_le (by omega)]; rfl⟩
theorem cut_ok (w : World) (s : Str) (c : UInt8) (hn : s.length ≤ 1000000) : Fn Tryz.prog 123 #[Sv s, Sv [c]] w fun u w' => u = .tuple #[Sv (Xk c s), Sv (post1 c s), .bool (decide (c ∈ s))] := by
 have hX := Ext.refl Non w
 refine Zfw (args := [_, _]) Tryz.func123 rfl rfl ?_
 refine Zs (Za (Za (Za ?_)))
 refine Zc (Zs (Zm (Zm ?_)))
 refine Zw zE rfl (scut_ok w s c hn) ?_; intro v9 w1 E1 R1
 replace hX := hX.tr E1
 subst R1
 refine Zb (ZM rfl rfl) (Zb (ZM rfl rfl) (Zb (ZM rfl rfl) (Za (Za (Za ?_)))))
 refine Zc (ZB ?_)
 exact ⟨_, resR3 (Zh rfl) (Zh rfl) (Zh rfl), hX, rfl⟩
theorem twild_ok (w : World) (s : Str) (hn : s.length ≤ 1000000) : Fn Tryz.prog 154 #[Sv s] w fun u w' => u = .bool (decide (Xk 47 s = [43]) || decide (Xk 47 s = [35])) := by
 have hX := Ext.refl Non w
 refine Zfw (args := [_]) Tryz.func154 rfl rfl ?_
 refine Zs (Za ?_)
 refine Zc (Zs (Zm ?_))
 refine Zw zE rfl (cut_ok w s 47 hn) ?_; intro v8 w1 E1 R1
 replace hX := hX.tr E1
 subst R1
 refine Zm ?_
 refine Zb (ZM rfl rfl) (Zb (ZM rfl rfl) (Zb (ZM rfl rfl) (Za (Za (Za ?_)))))
 refine Zc (Zs (Zm ?_))
 refine Zb (Jv rfl rfl) (Zm ?_)
 refine Z3 (d := 14) rfl (fun hg14 => ?_) (fun hg14 => ?_)
 ·refine ZU rfl (Zcb hg14) (ZU rfl (Zcb hg14) (Zb (Z8 (Zcb hg14) (by conv => lhs; whnf)) ?_))
  refine Za ?_
  refine Zc (ZB ?_)
  exact ⟨_, ZD (Zh rfl), hX, by rw [hg14]; rfl⟩
 ·refine Zu rfl (Zcb hg14) (Zm ?_)
  refine Zu rfl (Zcb hg14) (Zb (Jv rfl rfl) (Zb (ZQ (Zcb hg14) (by conv => lhs; whnf)) ?_))
  refine Za ?_
  refine Zc (ZB ?_)
  exact ⟨_, ZD (Zh rfl), hX, by rw [hg14]; rfl⟩
theorem sindex_ok (w : World) (s : Str) (c : UInt8) : Fn Tryz.prog 270 #[Sv s, Sv [c]] w fun u w' => u = .int .i64 (fi s c) := by
 have hX := Ext.refl Non w
 refine Zfw (args := [_, _]) Tryz.func270 rfl rfl ?_
 refine Zs (Za ?_)
 refine Zc (Zs (Zm (Zm ?_)))
 refine Zw zE rfl (index_ok w s c) ?_; intro v7 w1 E1 R1
 replace hX := hX.tr E1
 subst R1
 refine Za ?_
 refine Zc (ZB ?_)
 exact ⟨_, ZD (Zh rfl), hX, rfl⟩
theorem JZ (w : World) (s : Str) (c : UInt8) : Fn Tryz.prog 188 #[Sv s, .int .u8 c.toNat] w fun u w' => u = .int .i64 (fi s c) := by
 have hX := Ext.refl Non w
 refine Zfw (args := [_, _]) Tryz.func188 rfl rfl ?_
 refine Zs (Za ?_)
 refine Zc (Zs (Zm (Zm ?_)))
 refine Zw zE rfl (indexByte_ok w s c) ?_; intro v7 w1 E1 R1
 replace hX := hX.tr E1
 subst R1
 refine Za ?_
 refine Zc (ZB ?_)
 exact ⟨_, ZD (Zh rfl), hX, rfl⟩
theorem scontains_ok (w : World) (s : Str) (c : UInt8) : Fn Tryz.prog 213 #[Sv s, Sv [c]] w fun u w' => u = .bool (decide (c ∈ s)) := by
 have hX := Ext.refl Non w
 refine Zfw (args := [_, _]) Tryz.func213 rfl rfl ?_
 refine Zs (Za ?_)
 refine Zc (Zs (Zm (Zm ?_)))
 refine Zw zE rfl (sindex_ok w s c) ?_; intro v7 w1 E1 R1
 replace hX := hX.tr E1
 subst R1
 refine Zb (X8 rfl rfl) (Za ?_)
 refine Zc (ZB ?_)
 exact ⟨_, ZD (Zh rfl), hX, by rw [show decide (c ∈ s) = decide (fi s c ≥ 0) from decide_eq_decide.2 (fi_ge s c).symm]; rfl⟩
def Qa (M : Nat → Prop) (w : World) (v : Value) (ks : List Int) : Prop := ∃ v1 v2 vs, v = .agg #[v1, v2] ∧ Qs M w eI1 0 v1 v2 ks vs
theorem Qa.ext {M M' : Nat → Prop} {w w' : World} {v : Value} {ks : List Int} (h : Qa M w v ks) (hE : Ext M' w w') (hm : ∀ i, M' i → M i) : Qa M w' v ks := by
 obtain ⟨v1, v2, vs, e, h⟩ := h; exact ⟨v1, v2, vs, e, h.ext hE hm⟩
theorem Qa.sub {M M' : Nat → Prop} {w : World} {v : Value} {ks : List Int} (h : Qa M w v ks) (hm : ∀ i, M' i → i < w.heap.size → M i) : Qa M' w v ks := by
 obtain ⟨v1, v2, vs, e, h⟩ := h; exact ⟨v1, v2, vs, e, h.sub hm⟩
theorem unit_one {M : Nat → Prop} {w : World} {v : Value} {vs : List (List Value)} (h : Sl M w v 0 vs) : ∀ r ∈ vs, ∀ u ∈ r, u.oneCell' = true := fun r hr u hu => by
 have := List.length_eq_zero_iff.1 (h.each r hr); subst this; cases hu
def ofL (l : List Int) : List Int := l.foldl (XS ltI) []
theorem ofL_snoc (l : List Int) (x : Int) : ofL (l ++ [x]) = XS ltI (ofL l) x := by simp [ofL]
theorem Jy (l : List Int) : ∀ s, Xi ltI s → Xi ltI (l.foldl (XS ltI) s) := by
 induction l with
 | nil => intro s h; exact h
 | cons x l ih => intro s h; exact ih _ (JS lo_int h x)
theorem foldK_len (l : List Int) : ∀ s : List Int, (l.foldl (XS ltI) s).length ≤ s.length + l.length := by
 induction l with
 | nil => intro s; simp
 | cons x l ih => intro s; have := ih (XS ltI s x); have := putK_len (lt := ltI) s x; simp only [List.foldl_cons, List.length_cons]; omega
theorem foldK_mem (l : List Int) : ∀ s, Xi ltI s → ∀ y, y ∈ l.foldl (XS ltI) s ↔ y ∈ s ∨ y ∈ l := by
 induction l with
 | nil => intro s h y; simp
 | cons x l ih =>
  intro s h y
  rw [List.foldl_cons, ih _ (JS lo_int h x), putK_mem lo_int h]
  simp only [List.mem_cons]
  constructor
  ·rintro ((h | h) | h); exact .inr (.inl h); exact .inl h; exact .inr (.inr h)
  ·rintro (h | h | h); exact .inl (.inr h); exact .inl (.inl h); exact .inr h
theorem JI : Xi ltI [] := List.Pairwise.nil
theorem Q0 (l : List Int) : Xi ltI (ofL l) := Jy l [] JI
theorem ofL_len (l : List Int) : (ofL l).length ≤ l.length := by have := foldK_len l []; unfold ofL; simpa using this
theorem fold_take {l : List Int} {s : List Int} {i : Nat} {x : Int} (h : l[i]? = some x) : (l.take (i + 1)).foldl (XS ltI) s = XS ltI ((l.take i).foldl (XS ltI) s) x := by
 rw [List.take_add_one, h]; simp
theorem with_ok (w : World) (ks : List Int) {v : Value} (hs : Qa Non w v ks) (x : Int) (hord : Xi ltI ks) (hn : ks.length ≤ 1000000) : Fn Tryz.prog 137 #[v, .int .i64 x] w fun u w' => Qa (Old w) w' u (XS ltI ks x) := by
 obtain ⟨v1, v2, vs, rfl, hm⟩ := hs
 obtain ⟨q1, n1, c1, rfl⟩ := hm.keys.shape; obtain ⟨q2, n2, c2, rfl⟩ := hm.vals.shape
 have hX := Ext.refl Non w
 refine Zfw (args := [_, _]) Tryz.func137 rfl rfl ?_
 refine Zs (ZY rfl ?_); intro b2 w1 hb2 E1 B2
 have hq2 := Zq hX hb2
 replace hX := hX.tr E1
 refine ZT z_152 ?_; intro b4 w2 hb4 E2 B4
 have hn2_4 := Zn B2 hb4
 have hq4 := Zq hX hb4
 have hl4 := Zl hX hb4
 replace hX := hX.tr E2
 replace B2 := Zx B2 E2
 refine Zc (Zs (Zb (Zf f_152_0 rfl) (Zb (XC s_150 (vs := [.slice q1 n1 c1, .slice q2 n2 c2]) rfl rfl (B2.part rfl Zbl)) (Zm ?_))))
 refine Zb (Z2 b_270 rfl rfl (cs := _) rfl) ?_
 have hz4 := B4.lt
 have hXc := hX
 refine Zw zE rfl (mput_iu w2 ks vs x (hm.ext hX (fun _ h => h)) hord hn (unit_one hm.vals)) ?_; intro v9 w3 E3 R3
 replace hX := hX.tr E3
 replace B2 := Zx B2 E3; replace B4 := Zx B4 E3
 obtain ⟨u1, u2, rfl, hM9⟩ := R3
 obtain ⟨a1, l1, c1, rfl⟩ := id hM9.keys.shape; obtain ⟨a2, l2, c2, rfl⟩ := id hM9.vals.shape
 refine Zb (Z2 b_152 rfl rfl (cs := [.slice a1 l1 c1, .slice a2 l2 c2]) rfl) ?_
 have Bo := B4
 refine ZS XE rfl rfl rfl (Qc rfl rfl) B4 rfl ?_; intro w4 E4 B4 hz4
 replace hX := hX.mine E4 hl4
 replace B2 := B2.ext E4 (fun h => by omega)
 replace hM9 := hM9.ext E4 (fun i e => by unfold Old; omega)
 refine Zc (ZB ?_)
 exact ⟨_, ZD (Xn XE rfl B4 rfl), hX, ⟨_, _, _, rfl, hM9.sub (fun i h _ => Zlt h hXc.size)⟩⟩
theorem has_ok (w : World) (ks : List Int) {v : Value} (hs : Qa Non w v ks) (x : Int) (hord : Xi ltI ks) (hn : ks.length ≤ 1000000) : Fn Tryz.prog 229 #[v, .int .i64 x] w fun u w' => u = .bool (XP ltI ks x) := by
 obtain ⟨v1, v2, vs, rfl, hm⟩ := hs
 obtain ⟨q1, n1, c1, rfl⟩ := hm.keys.shape; obtain ⟨q2, n2, c2, rfl⟩ := hm.vals.shape
 have hX := Ext.refl Non w
 refine Zfw (args := [_, _]) Tryz.func229 rfl rfl ?_
 refine Zs (ZY rfl ?_); intro b2 w1 hb2 E1 B2
 have hq2 := Zq hX hb2
 replace hX := hX.tr E1
 refine Za ?_
 refine Zc (Zs (Zb (Zf f_152_0 rfl) (Zb (XC s_150 (vs := [.slice q1 n1 c1, .slice q2 n2 c2]) rfl rfl (B2.part rfl Zbl)) (Zm ?_))))
 refine Zw zE rfl (mget_iu w1 ks vs x (hm.ext hX (fun _ h => h)) hord hn) ?_; intro v11 w2 E2 R2
 replace hX := hX.tr E2
 replace B2 := Zx B2 E2
 subst R2
 refine Zm ?_
 refine Zb (ZM rfl rfl) (Zb (ZM rfl rfl) (ZT z_270 ?_)); intro b5 w3 hb5 E3 B5
 have hn2_5 := Zn B2 hb5
 have hq5 := Zq hX hb5
 have hl5 := Zl hX hb5
 replace hX := hX.tr E3
 replace B2 := Zx B2 E3
 refine ZS s_270 rfl rfl rfl (by simp) B5 rfl ?_; intro w4 E4 B5 hz4
 replace hX := hX.mine E4 hl5
 replace B2 := B2.ext E4 (fun h => by omega)
 refine Za ?_
 refine Zc (Zs (Zm (Za ?_)))
 refine Zc (ZB ?_)
 exact ⟨_, ZD (Zh rfl), hX, rfl⟩
theorem len_ok (w : World) (ks : List Int) {v : Value} (hs : Qa Non w v ks) (hn : ks.length ≤ 1000000) : Fn Tryz.prog 312 #[v] w fun u w' => u = .int .i64 (ks.length : Nat) := by
 obtain ⟨v1, v2, vs, rfl, hm⟩ := hs
 obtain ⟨q1, n1, c1, rfl⟩ := hm.keys.shape; obtain ⟨q2, n2, c2, rfl⟩ := hm.vals.shape
 have hX := Ext.refl Non w
 refine Zfw (args := [_]) Tryz.func312 rfl rfl ?_
 refine Zs (ZY rfl ?_); intro b1 w1 hb1 E1 B1
 have hq1 := Zq hX hb1
 replace hX := hX.tr E1
 refine Za ?_
 refine Zc (Zs (Zb (Zf f_152_0 rfl) (Zb (XC s_150 (vs := [.slice q1 n1 c1, .slice q2 n2 c2]) rfl rfl (B1.part rfl Zbl)) (Zw zE rfl (mlen_iu w1 ks vs (hm.ext hX (fun _ h => h)) hn) ?_)))); intro v5 w2 E2 R2
 replace hX := hX.tr E2
 replace B1 := Zx B1 E2
 subst R2
 refine Za ?_
 refine Zc (ZB ?_)
 exact ⟨_, ZD (Zh rfl), hX, rfl⟩
theorem of_ok (w : World) (l : List Int) {v : Value} (hs : Sl Non w v 1 (l.map eI1)) (hn : l.length ≤ 100000) : Fn Tryz.prog 85 #[v] w fun u w' => Qa (Old w) w' u (ofL l) := by
 obtain ⟨a, c, rfl, _⟩ := hs.len
 simp only [List.length_map] at hs ⊢
 have hzz : Qs (fun i => w.heap.size ≤ i → False) w eI1 0 (.slice none 0 0) (.slice none 0 0) [] [] := ⟨Sl.nil _ _ _, Sl.nil _ _ _, rfl⟩
 have hX := Ext.refl Non w
 refine Zfw (args := [_]) Tryz.func85 rfl rfl ?_
 refine Zs (ZT z_152 ?_); intro b2 w1 hb2 E1 B2
 have hq2 := Zq hX hb2
 have hl2 := Zl hX hb2
 replace hX := hX.tr E1
 refine Zc (Zs (ZT z_152 ?_)); intro b3 w2 hb3 E2 B3
 have hn2_3 := Zn B2 hb3
 have hq3 := Zq hX hb3
 have hl3 := Zl hX hb3
 replace hX := hX.tr E2
 replace B2 := Zx B2 E2
 refine Zc (ZC (Zs (Zm ?_)))
 refine Zb (Z1 Xe rfl) (Zm ?_)
 refine Zc (ZO (Xt (S := Nat × Value × Value) [2, 3, 6, 7, 8] (fun ⟨i, u1, u2⟩ => [(Zpt b2), (Zpt b3), .slice a l.length c, .int .i64 (l.length : Nat), .int .i64 (i : Nat)]) (fun ⟨i, u1, u2⟩ A => (Ext Non w A) ∧ (Zj A b2 [.slice none 0 0, .slice none 0 0]) ∧ (Zj A b3 [u1, u2]) ∧ (Xo Non w b2) ∧ (Xo Non w b3) ∧ (b2 < b3) ∧ (i ≤ l.length ∧ (∃ vs, Qs (fun j => j < w.heap.size ∨ j = b2 ∨ j = b3) A eI1 0 u1 u2 (ofL (l.take i)) vs) ∧ (∃ q n c, u1 = .slice q n c) ∧ (∃ q n c, u2 = .slice q n c))) (fun ⟨i, u1, u2⟩ => l.length - i) (0, .slice none 0 0, .slice none 0 0) ⟨rfl, rfl, rfl, rfl, rfl, trivial⟩ ⟨hX, B2, B3, hl2, hl3, hn2_3, ⟨Nat.zero_le _, ⟨[], Sl.nil _ _ _, Sl.nil _ _ _, rfl⟩, ⟨_, _, _, rfl⟩, ⟨_, _, _, rfl⟩⟩⟩ ?_))
 rintro τ0 ⟨i, u1, u2⟩ A0 ⟨hX, B2, B3, hl2, hl3, hn2_3, I0⟩
 obtain ⟨hil, ⟨vs, hm⟩, ⟨q1, n1, c1, hu1⟩, ⟨q2, n2, c2, hu2⟩⟩ := I0
 refine Zs (Zb (Xj rfl rfl) (Zc (ZC ?_)))
 refine ZE rfl (fun hc0 => ?_) (fun hc0 => ?_)
 ·have hlt := of_decide_eq_true hc0; simp only [Int.ofNat_lt] at hlt
  obtain ⟨x, hi⟩ : ∃ x, l[i]? = some x := ⟨_, List.getElem?_eq_getElem hlt⟩
  obtain ⟨b, o, ea⟩ := hs.base (by intro e; simp at e; subst e; simp at hlt); subst ea
  have htk : ofL (l.take (i + 1)) = XS ltI (ofL (l.take i)) x := by unfold ofL; exact fold_take hi
  have hol := ofL_len (l.take i)
  have hzl : (l.take i).length ≤ l.length := by rw [List.length_take]; omega
  have hz2 := B2.lt; have hz3 := B3.lt; have hXc := hX
  refine ZF (ZC (ZO (Zs (Zb (ZH Xe rfl rfl (by omega)) (Zb (Xb p_3 rfl ((hs.ext hX (fun _ h => h)).at0 (eI_at hi) rfl)) (Za ?_))))))
  refine Zc (ZJ (Zb (ZR XE rfl rfl B3) (Zm ?_)))
  refine Zw zE rfl (with_ok A0 (ofL (l.take i)) ⟨_, _, _, rfl, (hm.sub (M' := Non) (fun _ h _ => h.elim)).ext (Ext.refl _ _) (fun _ h => h)⟩ x (Q0 _) (by omega)) ?_; intro v14 w3 E3 R3
  replace hX := hX.tr E3
  replace B2 := Zx B2 E3; replace B3 := Zx B3 E3
  replace hm := hm.ext E3 (fun _ h => h.elim)
  obtain ⟨u1n, u2n, vsn, rfl, hM14⟩ := R3
  obtain ⟨a1, l1, c1, rfl⟩ := id hM14.keys.shape; obtain ⟨a2, l2, c2, rfl⟩ := id hM14.vals.shape
  replace hM14 := hM14.sub (M' := fun j => j < w.heap.size ∨ j = b2 ∨ j = b3) (fun j h _ => by unfold Old; have := hXc.size; rcases h with h | h | h <;> omega)
  have Bo := B3
  refine ZS XE rfl rfl rfl (Qc rfl rfl) B3 rfl ?_; intro w4 E4 B3 hz4
  replace hX := hX.mine E4 hl3
  replace B2 := B2.ext E4 (fun h => by omega)
  replace hm := hm.ext E4 (fun j e => by omega)
  replace hM14 := hM14.ext E4 (fun j e => by omega)
  refine Zc (ZJ (Zb (ZX rfl rfl (by omega)) (Zm ?_)))
  refine Zc ?_
  exact ⟨rfl, (i + 1, .slice a1 l1 c1, .slice a2 l2 c2), ⟨rfl, rfl, rfl, rfl, rfl, trivial⟩, ⟨hX, B2, B3, hl2, hl3, hn2_3, ⟨hlt, ⟨_, by rw [htk]; exact hM14⟩, ⟨_, _, _, rfl⟩, ⟨_, _, _, rfl⟩⟩⟩, by show l.length - (i + 1) < l.length - i; omega⟩
 ·have hge := of_decide_eq_false hc0; simp only [Int.ofNat_lt, Nat.not_lt] at hge
  have hie : i = l.length := by omega
  subst hie
  rw [List.take_length] at hm
  refine XL ?_
  refine Zs (Zb (ZR XE rfl rfl B3) ?_)
  have Bo := B2
  refine ZS XE rfl rfl rfl (Qc (by rw [hu1]; rfl) (by rw [hu2]; rfl)) B2 rfl ?_; intro w5 E5 B2 hz5
  replace hX := hX.mine E5 hl2
  replace B3 := B3.ext E5 (fun h => by omega)
  replace hm := hm.ext E5 (fun j e => by omega)
  refine Zc (ZB ?_)
  exact ⟨_, ZD (Xn XE rfl B2 rfl), hX, ⟨_, _, vs, rfl, hm.sub (fun j h _ => .inl h)⟩⟩
theorem values_iter (ks : List Int) {v : Value} (M : Nat → Prop) (w0 : World) (b1 : Nat) (hs : Sl M w0 v 1 (ks.map eI1)) (hC1 : Zj w0 b1 [v]) (h1 : ¬ M b1) :
  J2 Tryz.prog M w0 (.func (.func 265) #[] #[(Zpt b1)]) (fun x : Int => #[.int .i64 x]) ks := by
 refine iter_of zE fun l W J Jx hW hX hY => ?_
 obtain ⟨a, c, rfl, _⟩ := hs.len
 simp only [List.length_map] at hs hC1 ⊢
 have hbig : ks.length ≤ big := by obtain ⟨⟨a1, c1, e1, e2, e3, _⟩, _⟩ := hs; simp at e2; omega
 have hbig2 : big = 9223372036854775807 := rfl
 have ea : (#[Value.func (.yield l) #[] #[]] ++ #[(Zpt b1)] : Array Value) = [Value.func (.yield l) #[] #[], (Zpt b1)].toArray := by simp
 rw [ea]
 refine Q2 (R := fun v W' => Tl M w0 W (J ks) [] W' ∨ Tl M w0 W Jx [] W') Tryz.func265 rfl (by kernel_rfl) rfl ?_
 refine Zs (Zb (Zi XT rfl (hC1.ext hX.w0 h1) rfl) (Zb (Z1 Xe rfl) (Zm ?_)))
 refine Zc (ZO (Xt (S := Nat) [0, 5, 6, 7] (fun i => [.func (.yield l) #[] #[], .slice a ks.length c, .int .i64 (ks.length : Nat), .int .i64 (i : Nat)]) (fun i A => (Tl M w0 W (J (ks.take i)) [] A) ∧ (i ≤ ks.length)) (fun i => ks.length - i) 0 ⟨rfl, rfl, rfl, rfl, trivial⟩ ⟨(hX.less (by simp)), Nat.zero_le _⟩ ?_))
 rintro τ0 i A0 ⟨hX, I0⟩
 refine Zs (Zb (Xj rfl rfl) (Zc (ZC ?_)))
 refine ZE rfl (fun hc0 => ?_) (fun hc0 => ?_)
 ·have hlt := of_decide_eq_true hc0; simp only [Int.ofNat_lt] at hlt
  obtain ⟨x, hi⟩ : ∃ x, ks[i]? = some x := ⟨_, List.getElem?_eq_getElem hlt⟩
  obtain ⟨b, o, ea⟩ := hs.base (by intro e; simp at e; subst e; simp at hlt); subst ea
  have htk : ks.take (i + 1) = ks.take i ++ [x] := by rw [List.take_add_one, hi]; rfl
  have hsp : ks = ks.take i ++ x :: ks.drop (i + 1) := by obtain ⟨h1, h2⟩ := List.getElem?_eq_some_iff.1 hi; rw [← h2, List.getElem_cons_drop, List.take_append_drop]
  refine ZF (ZC (ZO (Zs (Zb (ZH Xe rfl rfl (by omega)) (Zb (Xb p_3 rfl ((hs.ext hX.w0 (fun _ h => h)).at0 (eI_at hi) rfl)) (Za ?_))))))
  refine Zc (Zs (Zm (Zm ?_)))
  refine J3 rfl rfl (hY _ _ _ _ _ hsp hX) ?_; rintro b13 w1 ⟨E1, hyT, hyF⟩
  refine Zb (Xy rfl) (Zc ?_)
  refine ZE rfl (fun hc1 => ?_) (fun hc1 => ?_)
  ·refine ZB ?_
   first | exact ⟨_, rfl, .inr ((hyF (by simpa using hc1)).less (by simp))⟩ | exact ⟨_, rfl, .inl (by have hge := of_decide_eq_false hc0; simp only [Int.ofNat_lt, Nat.not_lt] at hge; have hie : i = ks.length := (by omega); subst hie; rw [List.take_length] at hX; exact hX.less (by simp))⟩
  ·refine ZF (ZJ (Zb (ZX rfl rfl (by omega)) (Zm ?_)))
   refine Zc ?_
   replace hX := hyT (by simpa using hc1)
   rw [← htk] at hX
   exact ⟨rfl, i + 1, ⟨rfl, rfl, rfl, rfl, trivial⟩, ⟨(hX.less (by simp)), hlt⟩, by omega⟩
 ·refine XL ?_
  first | exact ⟨_, rfl, .inr ((hyF (by simpa using hc1)).less (by simp))⟩ | exact ⟨_, rfl, .inl (by have hge := of_decide_eq_false hc0; simp only [Int.ofNat_lt, Nat.not_lt] at hge; have hie : i = ks.length := (by omega); subst hie; rw [List.take_length] at hX; exact hX.less (by simp))⟩
theorem values_ok (w : World) (ks : List Int) {v : Value} (M : Nat → Prop) (hM : ∀ i, M i → i < w.heap.size) (hs : Sl M w v 1 (ks.map eI1)) : Fn Tryz.prog 202 #[v] w fun u w' => J2 Tryz.prog M w' u (fun x : Int => #[.int .i64 x]) ks := by
 obtain ⟨a, c, rfl, _⟩ := hs.len
 have hX := Ext.refl Non w
 refine Zfw (args := [_]) Tryz.func202 rfl rfl ?_
 refine Zs (ZP (by conv => lhs; whnf) rfl ?_); intro b1 w1 hb1 E1 B1
 have hq1 := Zq hX hb1
 replace hX := hX.tr E1
 refine Za ?_
 refine Zc (Zs (Zb (ZL rfl) (Za ?_)))
 refine Zc (ZB ?_)
 exact ⟨_, ZD (Zh rfl), hX, values_iter ks M _ b1 (hs.ext hX.of_non (fun _ h => h)) B1 (fun h => by have := hM _ h; omega)⟩
theorem all_ok (w : World) (ks : List Int) {v : Value} (M : Nat → Prop) (hM : ∀ i, M i → i < w.heap.size) (hs : Qa M w v ks) : Fn Tryz.prog 138 #[v] w fun u w' => J2 Tryz.prog M w' u (fun x : Int => #[.int .i64 x]) ks := by
 obtain ⟨v1, v2, vs, rfl, hm⟩ := hs
 obtain ⟨q1, n1, c1, rfl⟩ := hm.keys.shape; obtain ⟨q2, n2, c2, rfl⟩ := hm.vals.shape
 have hX := Ext.refl Non w
 refine Zfw (args := [_]) Tryz.func138 rfl rfl ?_
 refine Zs (ZY rfl ?_); intro b1 w1 hb1 E1 B1
 have hq1 := Zq hX hb1
 replace hX := hX.tr E1
 refine Za ?_
 refine Zc (Zs (Zb (Zf f_152_0 rfl) (Zb (Zf f_150_0 rfl) (Zb (Zi XT rfl B1 rfl) (Zw zE rfl (values_ok w1 ks M (fun i h => Zlt (hM i h) hX.size) (hm.keys.ext hX.of_non (fun _ h => h))) ?_))))); intro v6 w2 E2 R2
 replace hX := hX.tr E2
 replace B1 := Zx B1 E2
 have It := R2
 refine Za ?_
 refine Zc (ZB ?_)
 exact ⟨_, ZD (Zh rfl), hX, It⟩
end Go.Proofs.YtjklgohpminefaaGreatDoorC
