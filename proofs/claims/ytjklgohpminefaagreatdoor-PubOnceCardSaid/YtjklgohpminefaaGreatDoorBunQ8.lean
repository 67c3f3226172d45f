/- The pool of tries; the core's parts. -/
import Derived.Test.YtjklgohpminefaaGreatDoorBunQ7
import Derived.Test.YtjklgohpminefaaGreatDoorBunQ3

set_option linter.unusedVariables false
set_option linter.unusedSimpArgs false
set_option maxRecDepth 1000000
namespace Go.Proofs.YtjklgohpminefaaGreatDoorC
open Go.RowKit
theorem set_last {α : Type} (l : List α) (x y : α) : (l ++ [x]).set l.length y = l ++ [y] := by simp
def plC (p : Option Addr) (len st : Int) (tk : Bool) : List Value := [.pointer p, .int .i64 len, .int .i64 st, .bool tk]
theorem four1' {a b c d : Value} (h1 : a.oneCell' = true) (h2 : b.oneCell' = true) (h3 : c.oneCell' = true) (h4 : d.oneCell' = true) : ∀ r ∈ [[a, b, c, d]], ∀ x ∈ r, x.oneCell' = true := by intro r hr x hx; simp only [List.mem_cons, List.not_mem_nil, or_false] at hr; subst hr; simp only [List.mem_cons, List.not_mem_nil, or_false] at hx; rcases hx with rfl | rfl | rfl | rfl <;> assumption
theorem pat_ok (w : World) {b77 n c : Nat} {a : Addr} {fv : Value} {pid : Int} (hid : 1 ≤ pid ∧ pid ≤ n) (hnn : n ≤ 60000) (B77 : Zj w b77 [.slice (some a) n c, fv, .int .i64 65536])  : Fn Tryz.prog 100 #[(Zpt b77), .int .i64 pid] w fun u w' => u = .pointer (some (a.add ((pid - 1).toNat * 4))) := by
 have hX := Ext.refl Non w
 refine Zfw (args := [_, _]) Tryz.func100 rfl rfl ?_
 refine Zs (Za ?_)
 refine Zc (ZC (Zs (Zm ?_)))
 refine Zb (Z9 (by kernel_rfl) rfl rfl) (Zm ?_)
 refine Zu rfl rfl (Zm ?_)
 refine Zu rfl rfl (Zb (Xj rfl rfl) (Zb (ZQ rfl (by conv => lhs; whnf)) ?_))
 refine Zm ?_
 refine Z3 (d := 11) rfl (fun hg11 => ?_) (fun hg11 => ?_)
 ·exact absurd (of_decide_eq_true hg11) (by omega)
 ·refine Zu rfl (Zcb hg11) (Zm ?_)
  refine Zu rfl (Zcb hg11) (Zm ?_)
  refine Zu rfl (Zcb hg11) (Zb (Zg rfl) (Zu rfl (Zcb hg11) (Zb (Zf f_178_0 rfl) (Zu rfl (Zcb hg11) (Zb (Zi p_176 rfl B77 rfl) (Zu rfl (Zcb hg11) (Zb (Z1 sl_176 rfl) (Zu rfl (Zcb hg11) ?_))))))))
  refine Zb (Ja rfl rfl) (Zb (ZQ (Zcb hg11) (by conv => lhs; whnf)) ?_)
  refine Zc ?_
  refine ZE rfl (fun hc0 => ?_) (fun hc0 => ?_)
  ·exact absurd (of_decide_eq_true hc0) (by omega)
  ·refine ZF (Zs (Zm ?_))
   refine Zb (Zg rfl) (Zb (Zf f_178_0 rfl) (Zb (Zi p_176 rfl B77 rfl) (Zm ?_)))
   refine Zb (QS rfl rfl (by omega)) (Zb (ZH sl_176 rfl rfl (by omega)) (Za ?_))
   refine Zc (ZB ?_)
   exact ⟨_, ZD (Zh rfl), hX, rfl⟩
theorem pget_ok (w : World) {b77 n c : Nat} {a : Addr} {fv : Value} {pid : Int} (hid : 1 ≤ pid ∧ pid ≤ n) (hnn : n ≤ 60000) (B77 : Zj w b77 [.slice (some a) n c, fv, .int .i64 65536]) {rows : List (List Value)} {p : Option Addr} {len st : Int} {M : Nat → Prop} (hL : Sl M w (.slice (some a) n c) 4 rows) (hr : rows[(pid - 1).toNat]? = some (plC p len st true))  : Fn Tryz.prog 131 #[(Zpt b77), .int .i64 pid, .int .i64 st] w fun u w' => u = .tuple #[.agg #[.pointer p, .int .i64 len], .int .i64 0] := by
 have hXn := Ext.refl Non w
 have hX := Ext.refl Non w
 refine Zfw (args := [_, _, _]) Tryz.func131 rfl rfl ?_
 refine Zs (ZT z_103 ?_); intro b6 w1 hb6 E1 B6
 have hn77_6 := Zn B77 hb6
 have hq6 := Zq hX hb6
 have hl6 := Zl hX hb6
 replace hX := hX.tr E1
 replace B77 := Zx B77 E1
 replace hXn := hXn.tr E1
 refine Za ?_
 refine Zc (Zs (Zm (Zm ?_)))
 refine Zw zE rfl (pat_ok w1 hid hnn B77) ?_; intro v12 w2 E2 R2
 replace hX := hX.tr E2
 replace B77 := Zx B77 E2; replace B6 := Zx B6 E2
 replace hXn := hXn.tr E2
 subst R2
 refine Za ?_
 refine Zc (Zs (ZT z_103 ?_)); intro b9 w3 hb9 E3 B9
 have hn77_9 := Zn B77 hb9
 have hn6_9 := Zn B6 hb9
 have hq9 := Zq hX hb9
 replace hX := hX.tr E3
 replace B77 := Zx B77 E3; replace B6 := Zx B6 E3
 replace hXn := hXn.tr E3
 refine Zc (ZC (ZO (Zs (Zm ?_))))
 refine Zb (Z9 (by kernel_rfl) rfl rfl) (Za ?_)
 refine Zc (Xu rfl (Zs (Zm ?_)))
 refine Zb (Zg rfl) (Zb (Zf f_183_2 rfl) (Zb (Xb p_4 rfl ((hL.ext hXn (fun _ h => h.elim)).at1 hr rfl)) (Zb (Xy rfl) (Zm ?_))))
 refine Zu rfl rfl (Zm ?_)
 refine Zu rfl rfl (Zb (Zg rfl) (Zu rfl rfl (Zb (Zf f_183_1 rfl) (Zu rfl rfl (Zb (Xb p_3 rfl ((hL.ext hXn (fun _ h => h.elim)).at1 hr rfl)) (Zu rfl rfl (Zm ?_)))))))
 refine Zu rfl rfl (Zb (X2 rfl rfl) (Zb (ZQ rfl (by conv => lhs; whnf)) ?_))
 refine Za ?_
 refine Zc ?_
 refine ZE rfl (fun hc1 => ?_) (fun hc1 => ?_)
 ·exact absurd (of_decide_eq_true hc1) (by simp)
 ·refine ZF (Zs (Zm ?_))
  refine Zb (Zg rfl) (Zb (Zf f_183_0 rfl) (Zb (XC QF (vs := [_, _]) rfl rfl ((hL.ext hXn (fun _ h => h.elim)).part1 hr rfl Zbl)) ?_))
  have Bo := B6
  refine ZS QF rfl rfl rfl (Qc rfl rfl) B6 rfl ?_; intro w4 E4 B6 hz4
  replace hX := hX.mine E4 hl6
  replace B77 := B77.ext E4 (fun h => by omega); replace B9 := B9.ext E4 (fun h => by omega)
  replace hXn := hXn.own E4 hq6
  refine Za ?_
  refine Zc (ZB ?_)
  exact ⟨_, Qd (Xn QF rfl B6 rfl) (Zh rfl), hX, rfl⟩
set_option maxHeartbeats 800000 in
theorem ptake_ok (w : World) {b77 : Nat} {lv : Value} {o : Option Nat} {rows : List (List Value)} (hO : OwO w lv o 4 rows) (hob : ∀ i, o = some i → i ≠ b77) (hn : rows.length < 60000) (p : Option Addr) (len : Int) (B77 : Zj w b77 [lv, .slice none 0 0, .int .i64 65536]) : FnM Tryz.prog (fun i => i = b77 ∨ o = some i) 42 #[(Zpt b77), .agg #[.pointer p, .int .i64 len]] w fun u w' => ∃ lv' o', Zj w' b77 [lv', .slice none 0 0, .int .i64 65536] ∧ OwO w' lv' o' 4 (rows ++ [plC p len 0 true]) ∧ (∀ i, o' = some i → o = some i ∨ w.heap.size ≤ i) ∧ u = .tuple #[.int .i64 ((rows ++ [plC none 0 0 false]).length : Nat), .int .i64 0, .int .i64 0] := by
 obtain ⟨a, c, rfl⟩ := id hO.len
 have hl77 : Xo (fun i => i = b77 ∨ o = some i) w b77 := .inl (.inl rfl)
 have hlb0 := B77.lt
 have hol := fun i (hi : o = some i) => hO.lt hi
 have hX := Ext.refl (fun i => i = b77 ∨ o = some i) w
 refine Zfm (args := [_, _]) Tryz.func42 rfl rfl ?_
 refine Zs (ZY rfl ?_); intro b3 w1 hb3 E1 B3
 have hn77_3 := Zn B77 hb3
 have hq3 := Zq hX hb3
 replace hX := hX.tr E1
 replace B77 := Zx B77 E1
 replace hO := hO.ext E1 (fun _ _ h => h)
 refine Za (Za (Za ?_))
 refine Zc (ZC (ZO (Zs (Zm ?_))))
 refine Zb (Z9 (by kernel_rfl) rfl rfl) (Za ?_)
 refine Zc ?_
 refine ZE rfl (fun hc0 => ?_) (fun hc0 => ?_)
 ·cases hc0
 ·refine Zs (Zm ?_)
  refine Zb (Zg rfl) (Zb (Zf f_178_1 rfl) (Zb (Zi XT rfl B77 rfl) (Zb (Z1 Xe rfl) (Zb (Ja rfl rfl) (Za ?_)))))
  refine Zc ?_
  refine ZE rfl (fun hc1 => ?_) (fun hc1 => ?_)
  ·exact absurd (of_decide_eq_true hc1) (by decide)
  ·refine ZC (Qq mixed ?_); intro w2 E2
   replace hX := hX.tr E2
   replace B77 := Zx B77 E2; replace B3 := Zx B3 E2
   replace hO := hO.ext E2 (fun _ _ h => h)
   have hS := Ext.refl Non w2
   refine Zd 0 rfl hS Zy ?_
   refine Zd 1 rfl hS (Zr (Zg rfl)) (Zd 2 rfl hS (Zr (Zf f_178_0 rfl)) (Zd 3 rfl hS (Zv p_176 rfl B77 rfl) (Zd 4 rfl hS (Zr (Z1 sl_176 rfl)) (Zd 5 rfl hS Zy ?_))))
   refine Zd 6 rfl hS (Zr (Zg rfl)) (Zd 7 rfl hS (Zr (Zf f_178_2 rfl)) (Zd 8 rfl hS (Zv p_3 rfl B77 rfl) (Zd 9 rfl hS (Zr (Xj rfl rfl)) (Zd 10 rfl hS (ZG fun A hA => Xm (by conv => lhs; whnf)) ?_))))
   refine Xw (by kernel_rfl) ?_ _
   replace hX := hX.tr hS
   replace B77 := Zx B77 hS; replace B3 := Zx B3 hS
   replace hO := hO.ext hS (fun _ _ h => h)
   refine ZE rfl (fun hc2 => ?_) (fun hc2 => ?_)
   ·refine Zs (Zm (Zm ?_))
    refine Zb (Zg rfl) (Zb (Zf f_178_0 rfl) (Zb (Zi p_176 rfl B77 rfl) (Zb (Z2 b_183 rfl rfl (cs := _) rfl) (Xz (r := plC none 0 0 false) sl_176 rfl rfl rfl rfl (by decide) ?_)))); intro v61 w3 b61 hb61 E3 hO61
    have hq61 := Zq hX hb61
    replace hX := hX.tr E3
    replace B77 := Zx B77 E3; replace B3 := Zx B3 E3
    replace hO := hO.ext E3 (fun _ _ h => h)
    have hXo := hX
    have hb3l := B3.lt
    refine Qm sl_176 rfl rfl rfl hO (hO61.sl (M := Non) id) (four1' rfl rfl rfl rfl) (by simp only [List.length_cons, List.length_nil]; omega) (by simp only [List.length_cons, List.length_nil, big]; omega) ?_; intro v62 w4 o62 E4 hO62 hf62
    replace hX := hX.own2 E4 (fun i hi => .inl (.inr hi))
    replace B77 := B77.ext E4 (fun h => hob _ h rfl)
    replace B3 := B3.ext E4 (fun h => by have := hol _ h; omega)
    have ho62 : ∀ i, o62 = some i → o = some i ∨ w.heap.size ≤ i := fun i hi => (hf62 i hi).imp id (Zle hXo.size)
    have hne62 : ∀ i, o62 = some i → i ≠ b77 := fun i hi => by rcases ho62 i hi with h | h; exact hob i h; omega
    have hne63 : ∀ i, o62 = some i → i ≠ b3 := fun i hi e => by rcases hf62 i hi with h | h; have := hol _ h; omega; omega
    obtain ⟨bo, spare, rfl, hOw⟩ : ∃ b sp, o62 = some b ∧ Ow w4 _ b 4 (rows ++ [plC none 0 0 false]) sp := by rcases hO62 with ⟨_, h, _⟩ | ⟨b, sp, h, hh⟩; simp at h; exact ⟨b, sp, h, hh⟩
    obtain ⟨c62, rfl, _⟩ := id hOw.val
    have hr0 : (rows ++ [plC none 0 0 false])[rows.length]? = some (plC none 0 0 false) := by simp
    have hne := hne62 bo rfl
    have hneb3 := hne63 bo rfl
    refine Zb (Zg rfl) (Zb (Zf f_178_0 rfl) ?_)
    have Bo := B77
    refine ZN (b := b77) p_176 rfl (by conv => lhs; whnf) rfl rfl B77 Zbl ?_; intro w5 E5 B77 hz5
    replace hX := hX.mine E5 hl77
    replace B3 := B3.ext E5 (fun h => by omega)
    replace hOw := hOw.ext E5 (fun e => hne e)
    refine Zc (ZJ (Zm ?_))
    refine Zb (Zg rfl) (Zb (Zf f_178_0 rfl) (Zb (Zi p_176 rfl B77 rfl) (Zb (Z1 sl_176 rfl) (Za ?_))))
    refine Zc (Zs (Zm (Zm ?_)))
    refine Zw zE rfl (pat_ok w5 (pid := (((rows ++ [plC none 0 0 false]).length : Nat) : Int)) (by simp only [List.length_append, List.length_cons, List.length_nil]; omega) (by simp only [List.length_append, List.length_cons, List.length_nil]; omega) B77) ?_; intro v72 w6 E6 R6
    replace hX := hX.tr E6
    replace B77 := Zx B77 E6; replace B3 := Zx B3 E6
    replace hOw := hOw.ext E6 (fun h => h)
    subst R6
    have hid : ((((rows ++ [plC none 0 0 false]).length : Nat) : Int) - 1).toNat = rows.length := by simp only [List.length_append, List.length_cons, List.length_nil]; omega
    refine Za ?_
    refine Zc (Zs (Zm (Zm ?_)))
    refine Zb (ZR QF rfl rfl B3) (Zb (Zg rfl) (Zb (Zf f_183_0 rfl) (X6 (u := .agg #[.pointer p, .int .i64 len]) (d := 0) (i := rows.length) QF.2 rfl (by simp only [hid, XF, Nat.zero_add]) rfl (Qc rfl rfl) hOw hr0 Zbl ?_))); intro w7 E7 hz7 hOw
    replace hX := hX.own2 E7 (fun i hi => by rcases ho62 i (by rw [hi]) with h | h; exact .inl (.inr h); exact .inr h)
    replace B77 := B77.ext E7 (fun h => hne h.symm); replace B3 := B3.ext E7 (fun h => hneb3 h.symm)
    refine Zb (Zg rfl) (Zb (Zf f_183_2 rfl) ?_)
    refine X6 (u := .bool true) (d := 3) (i := rows.length) (r := [.pointer p, .int .i64 len, .int .i64 0, .bool false]) p_4.2 rfl (by simp only [hid, XF, Nat.zero_add]) rfl (J1 rfl) hOw (by rw [List.getElem?_set_self (by simp)]; rfl) Zbl ?_; intro w8 E8 hz8 hOw
    replace hX := hX.own2 E8 (fun i hi => by rcases ho62 i (by rw [hi]) with h | h; exact .inl (.inr h); exact .inr h)
    replace B77 := B77.ext E8 (fun h => hne h.symm); replace B3 := B3.ext E8 (fun h => hneb3 h.symm)
    rw [set_last, set_last] at hOw
    replace hOw : Ow w8 _ bo 4 (rows ++ [plC p len 0 true]) spare := hOw
    have hr2 : (rows ++ [plC p len 0 true])[((((rows ++ [plC none 0 0 false]).length : Nat) : Int) - 1).toNat]? = some (plC p len 0 true) := by rw [hid]; simp
    refine Zc (ZC (Qq mixed ?_)); intro w9 E9
    replace hX := hX.tr E9
    replace B77 := Zx B77 E9; replace B3 := Zx B3 E9
    replace hOw := hOw.ext E9 (fun h => h)
    have hS := Ext.refl Non w9
    refine Zd 0 rfl hS Zy ?_
    refine Zd 1 rfl hS Zy ?_
    refine Zd 2 rfl hS (Zr (Zg rfl)) (Zd 3 rfl hS (Zr (Zf f_183_1 rfl)) (Zd 4 rfl hS (ZG fun A hA => Xb p_3 rfl (((hOw.sl (M := Non) id).ext hA (fun _ h => h.elim)).at1 hr2 rfl)) ?_))
    refine Zd 5 rfl hS (ZG fun A hA => Xm (by conv => lhs; whnf)) ?_
    refine Zd 6 rfl hS (ZG fun A hA => Xm (by conv => lhs; whnf)) ?_
    refine Zd 7 rfl hS (ZG fun A hA => Xm (by conv => lhs; whnf)) ?_
    refine Xw (by kernel_rfl) ?_ _
    replace hX := hX.tr hS
    replace B77 := Zx B77 hS; replace B3 := Zx B3 hS
    replace hOw := hOw.ext hS (fun h => h)
    refine ZB ?_
    exact ⟨_, resR3 (Zh rfl) (Zh rfl) (Zh rfl), hX, ⟨_, some bo, B77, .inr ⟨bo, spare, rfl, hOw⟩, ho62, rfl⟩⟩
   ·exact absurd (of_decide_eq_false hc2) (by omega)
theorem gat_ok (w : World) {b77 lk : Nat} (B77 : Zj w b77 [.slice (some ⟨lk, 0, none⟩) 12 12]) {i : Int} (hi : 0 ≤ i ∧ i < 12) : Fn Tryz.prog 68 #[(Zpt b77), .int .i64 i] w fun u w' => u = .pointer (some ((⟨lk, 0, none⟩ : Addr).add (i.toNat * 3))) := by
 have hX := Ext.refl Non w
 refine Zfw (args := [_, _]) Tryz.func68 rfl rfl ?_
 refine Zs (Za ?_)
 refine Zc (ZC (Zs (Zm ?_)))
 refine Zb (Z9 (by kernel_rfl) rfl rfl) (Zm ?_)
 refine Zu rfl rfl (Zm ?_)
 refine Zu rfl rfl (Zb (Xj rfl rfl) (Zb (ZQ rfl (by conv => lhs; whnf)) ?_))
 refine Zm ?_
 refine Z3 (d := 11) rfl (fun hg11 => ?_) (fun hg11 => ?_)
 ·exact absurd (of_decide_eq_true hg11) (by omega)
 ·refine Zu rfl (Zcb hg11) (Zm ?_)
  refine Zu rfl (Zcb hg11) (Zm ?_)
  refine Zu rfl (Zcb hg11) (Zb (Zg rfl) (Zu rfl (Zcb hg11) (Zb (Zf f_181_0 rfl) (Zu rfl (Zcb hg11) (Zb (Zi p_179 rfl B77 rfl) (Zu rfl (Zcb hg11) (Zb (Z1 sl_179 rfl) (Zu rfl (Zcb hg11) ?_))))))))
  refine Zb (X8 rfl rfl) (Zb (ZQ (Zcb hg11) (by conv => lhs; whnf)) ?_)
  refine Zc ?_
  refine ZE rfl (fun hc0 => ?_) (fun hc0 => ?_)
  ·exact absurd (of_decide_eq_true hc0) (by omega)
  ·refine ZF (Zs (Zm ?_))
   refine Zb (Zg rfl) (Zb (Zf f_181_0 rfl) (Zb (Zi p_179 rfl B77 rfl) (Zm ?_)))
   refine Zb (ZH sl_179 rfl rfl (⟨hi.1, by omega⟩)) (Za ?_)
   refine Zc (ZB ?_)
   exact ⟨_, ZD (Zh rfl), hX, rfl⟩
theorem Yh (w : World) {b77 : Nat} {pe pp pg pr q0 q1 q2 q3 : Option Addr} {rv : Value} (B77 : Zj w b77 [.pointer pe, .pointer pp, .pointer pg, .pointer pr, .pointer q0, .pointer q1, .pointer q2, .pointer q3, rv, .int .i64 0])  : Fn Tryz.prog 33 #[(Zpt b77)] w fun u w' => u = .pointer pg := by
 have hX := Ext.refl Non w
 refine Zfw (args := [_]) Tryz.func33 rfl rfl ?_
 refine Zs (Za ?_)
 refine Zc (Zs (Zm ?_))
 refine Zb (Zg rfl) (Zb (Zf Qp rfl) (Zb (Zf f_106_2 rfl) (Zb (Zi p_92 rfl B77 rfl) (Za ?_))))
 refine Zc (ZB ?_)
 exact ⟨_, ZD (Zh rfl), hX, rfl⟩
theorem croot_ok (w : World) {b77 : Nat} {pe pp pg pr q0 q1 q2 q3 : Option Addr} {rv : Value} (B77 : Zj w b77 [.pointer pe, .pointer pp, .pointer pg, .pointer pr, .pointer q0, .pointer q1, .pointer q2, .pointer q3, rv, .int .i64 0])  : Fn Tryz.prog 74 #[(Zpt b77)] w fun u w' => u = .pointer pr := by
 have hX := Ext.refl Non w
 refine Zfw (args := [_]) Tryz.func74 rfl rfl ?_
 refine Zs (Za ?_)
 refine Zc (Zs (Zm ?_))
 refine Zb (Zg rfl) (Zb (Zf f_112_1 rfl) (Zb (Zi p_107 rfl B77 rfl) (Za ?_)))
 refine Zc (ZB ?_)
 exact ⟨_, ZD (Zh rfl), hX, rfl⟩
theorem ua_kept : Tryz.prog.underlying 109 = some (.array 4 108) := by kernel_rfl
theorem ui_kept : (Tryz.prog.info? 108).map (·.size) = some 1 := by kernel_rfl
theorem ckept_ok (w : World) {b77 : Nat} {pe pp pg pr q0 q1 q2 q3 : Option Addr} {rv : Value} (B77 : Zj w b77 [.pointer pe, .pointer pp, .pointer pg, .pointer pr, .pointer q0, .pointer q1, .pointer q2, .pointer q3, rv, .int .i64 0]) (i : Nat) {q : Option Addr} (hi : i < 4) (hq : ([.pointer q0, .pointer q1, .pointer q2, .pointer q3] : List Value)[i]? = some (.pointer q)) : Fn Tryz.prog 168 #[(Zpt b77), .int .i64 (i : Nat)] w fun u w' => u = .pointer q := by
 have hX := Ext.refl Non w
 refine Zfw (args := [_, _]) Tryz.func168 rfl rfl ?_
 refine Zs (Za ?_)
 refine Zc (Zs (Zm (Zm ?_)))
 refine Zb (Zg rfl) (Zb (Zf f_112_2 rfl) (Zb (rn_indexArr ua_kept ui_kept rfl rfl (by omega)) (Zb (Zi (b := b77) (i := i + 4) p_108 (by show Value.pointer (some _) = _; simp only [XF, Int.toNat_natCast, Nat.zero_add, Nat.mul_one, Nat.add_comm]) B77 (by rw [← hq]; rcases i with _ | _ | _ | _ | i <;> first | rfl | omega)) ?_)))
 refine Za ?_
 refine Zc (ZB ?_)
 exact ⟨_, ZD (Zh rfl), hX, rfl⟩
theorem cring_ok (w : World) {b77 : Nat} {pe pp pg pr q0 q1 q2 q3 : Option Addr} {a : Addr} {n c : Nat} (B77 : Zj w b77 [.pointer pe, .pointer pp, .pointer pg, .pointer pr, .pointer q0, .pointer q1, .pointer q2, .pointer q3, .slice (some a) n c, .int .i64 0]) {rb : List Nat} (hn : n = rb.length) {M : Nat → Prop} (hL : Sl M w (.slice (some a) n c) 1 (rb.map fun b => [pt b])) {sub : Int} {b : Nat} (hs : 1 ≤ sub ∧ sub ≤ 8) (hb : rb[(sub - 1).toNat]? = some b) : Fn Tryz.prog 152 #[(Zpt b77), .int .i64 sub] w fun u w' => u = pt b := by
 have hlt := (List.getElem?_eq_some_iff.1 hb).1
 have hX := Ext.refl Non w
 refine Zfw (args := [_, _]) Tryz.func152 rfl rfl ?_
 refine Zs (Za ?_)
 refine Zc (ZC (Zs (Zm ?_)))
 refine Zb (Z9 (by kernel_rfl) rfl rfl) (Zm ?_)
 refine Zu rfl rfl (Zm ?_)
 refine Zu rfl rfl (Zb (Xj rfl rfl) (Zb (ZQ rfl (by conv => lhs; whnf)) ?_))
 refine Zm ?_
 refine Z3 (d := 11) rfl (fun hg11 => ?_) (fun hg11 => ?_)
 ·exact absurd (of_decide_eq_true hg11) (by omega)
 ·refine Zu rfl (Zcb hg11) (Zm ?_)
  refine Zu rfl (Zcb hg11) (Zm ?_)
  refine Zu rfl (Zcb hg11) (Zb (Zg rfl) (Zu rfl (Zcb hg11) (Zb (Zf f_112_3 rfl) (Zu rfl (Zcb hg11) (Zb (Zi p_110 rfl B77 rfl) (Zu rfl (Zcb hg11) (Zb (Z1 sl_110 rfl) (Zu rfl (Zcb hg11) ?_))))))))
  refine Zb (Ja rfl rfl) (Zb (ZQ (Zcb hg11) (by conv => lhs; whnf)) ?_)
  refine Zc ?_
  refine ZE rfl (fun hc0 => ?_) (fun hc0 => ?_)
  ·exact absurd (of_decide_eq_true hc0) (by omega)
  ·refine ZF (Zs (Zm ?_))
   refine Zb (Zg rfl) (Zb (Zf f_112_3 rfl) (Zb (Zi p_110 rfl B77 rfl) (Zm ?_)))
   refine Zb (QS rfl rfl (by omega)) (Zb (ZH sl_110 rfl rfl (by omega)) ?_)
   refine Zb (Xb p_120 rfl ((hL.ext hX (fun _ h => h.elim)).at0 (by rw [List.getElem?_map, hb]; rfl) rfl)) ?_
   refine Za ?_
   refine Zc (ZB ?_)
   exact ⟨_, ZD (Zh rfl), hX, rfl⟩
theorem rat_ok (w : World) {b77 sb n : Nat} {puts gets drops : Int} (B77 : Zj w b77 [.slice (some ⟨sb, 0, none⟩) n n, .int .i64 puts, .int .i64 gets, .int .i64 drops]) (hn : 1 ≤ n ∧ n ≤ 16) (t : Int) (ht : 0 ≤ t) : Fn Tryz.prog 185 #[(Zpt b77), .int .i64 t] w fun u w' => u = .pointer (some ⟨sb, t.toNat % n * 4, none⟩) := by
 have hmm : 0 ≤ t.tmod n ∧ t.tmod n < n ∧ (t.tmod n).toNat = t.toNat % n := by rw [Int.tmod_eq_emod_of_nonneg ht]; have h1 := Int.emod_nonneg t (b := (n : Int)) (by omega); have h2 := Int.emod_lt_of_pos t (b := (n : Int)) (by omega); refine ⟨h1, h2, ?_⟩; obtain ⟨m, rfl⟩ := Int.eq_ofNat_of_zero_le ht; rw [← Int.natCast_emod, Int.toNat_natCast, Int.toNat_natCast]
 have hX := Ext.refl Non w
 refine Zfw (args := [_, _]) Tryz.func185 rfl rfl ?_
 refine Zs (Za ?_)
 refine Zc (ZC (Zs (Zm ?_)))
 refine Zb (Z9 (by kernel_rfl) rfl rfl) (Zm ?_)
 refine Zu rfl rfl (Zm ?_)
 refine Zu rfl rfl (Zb (Zg rfl) (Zu rfl rfl (Zb (Zf f_192_0 rfl) (Zu rfl rfl (Zb (Zi p_190 rfl B77 rfl) (Zu rfl rfl (Zb (Z1 sl_190 rfl) (Zu rfl rfl ?_))))))))
 refine Zb (Xc rfl rfl) (Zb (ZQ rfl (by conv => lhs; whnf)) ?_)
 refine Zc ?_
 refine ZE rfl (fun hc0 => ?_) (fun hc0 => ?_)
 ·exact absurd (of_decide_eq_true hc0) (by omega)
 ·refine ZF (ZC (Qq mixed ?_)); intro w1 E1
  replace hX := hX.tr E1
  replace B77 := Zx B77 E1
  have hS := Ext.refl Non w1
  refine Zd 0 rfl hS Zy ?_
  refine Zd 1 rfl hS (Zr (Zg rfl)) (Zd 2 rfl hS (Zr (Zf f_192_0 rfl)) (Zd 3 rfl hS (Zv p_190 rfl B77 rfl) (Zd 4 rfl hS Zy ?_)))
  refine Zd 5 rfl hS Zy ?_
  refine Zd 6 rfl hS (Zr (Zg rfl)) (Zd 7 rfl hS (Zr (Zf f_192_0 rfl)) (Zd 8 rfl hS (Zv p_190 rfl B77 rfl) (Zd 9 rfl hS (Zr (Z1 sl_190 rfl)) (Zd 10 rfl hS (ZG fun A hA => rn_tmod rfl rfl (by omega)) (Zd 11 rfl hS (ZG fun A hA => ZH sl_190 rfl rfl (⟨hmm.1, hmm.2.1⟩)) (Zd 12 rfl hS (ZG fun A hA => Xm (by conv => lhs; whnf)) ?_))))))
  refine Xw (by kernel_rfl) ?_ _
  replace hX := hX.tr hS
  replace B77 := Zx B77 hS
  refine ZB ?_
  exact ⟨_, ZD (Zh rfl), hX, by show Value.pointer (some _) = _; rw [hmm.2.2, XF, Nat.zero_add]⟩
theorem hO_at {rows : List (List Value)} {sp r : List Value} {k i d : Nat} {v : Value} (hr : rows[i]? = some r) (hk : ∀ r ∈ rows, r.length = k) (hd : d < k) (hv : r[d]? = some v) : (rows.flatten ++ sp)[i * k + d]? = some v := by
 have hlt := (List.getElem?_eq_some_iff.1 hr).1
 have h1 := flat_at hk i d hlt hd
 have h2 : rows.flatten[i * k + d]? = some v := by rw [h1, (List.getElem?_eq_some_iff.1 hr).2]; exact hv
 rw [List.getElem?_append_left (List.getElem?_eq_some_iff.1 h2).1]; exact h2
theorem slots4 (slots : List (XI × Int)) : ∀ r ∈ slots.map Qk, r.length = 4 := by intro r hr; obtain ⟨x, _, rfl⟩ := List.mem_map.1 hr; rfl
theorem rput_no (w : World) {b77 sb n : Nat} {puts gets drops : Int} (B77 : Zj w b77 [.slice (some ⟨sb, 0, none⟩) n n, .int .i64 puts, .int .i64 gets, .int .i64 drops]) (hn : 1 ≤ n ∧ n ≤ 16) {slots : List (XI × Int)} {x : XI} {k : Int} (m : XI) (hne : b77 ≠ sb) (hsl : slots.length = n) (hO : Ow w (.slice (some ⟨sb, 0, none⟩) n n) sb 4 (slots.map Qk) []) (hp : 0 ≤ puts ∧ puts ≤ 1000000000) (hk : slots[puts.toNat % n]? = some (x, k)) (hk2 : k ≠ 2 * puts) (hd : 0 ≤ drops ∧ drops ≤ 1000000000) : FnM Tryz.prog (fun i => i = b77 ∨ i = sb) 266 #[(Zpt b77), .agg m.enc.toArray] w fun u w' => u = .bool false ∧ Zj w' b77 [.slice (some ⟨sb, 0, none⟩) n n, .int .i64 puts, .int .i64 gets, .int .i64 (drops + 1)] ∧ Ow w' (.slice (some ⟨sb, 0, none⟩) n n) sb 4 (slots.map Qk) [] := by
 have hl77 : Xo (fun i => i = b77 ∨ i = sb) w b77 := .inl (.inl rfl)
 have hks : (slots.map Qk)[puts.toNat % n]? = some (Qk (x, k)) := by rw [List.getElem?_map, hk]; rfl
 have hsb := hO.box.lt
 have hX := Ext.refl (fun i => i = b77 ∨ i = sb) w
 refine Zfm (args := [_, _]) Tryz.func266 rfl rfl ?_
 refine Zs (ZY rfl ?_); intro b3 w1 hb3 E1 B3
 have hn77_3 := Zn B77 hb3
 have hq3 := Zq hX hb3
 replace hX := hX.tr E1
 replace B77 := Zx B77 E1
 replace hO := hO.ext E1 (fun h => h)
 refine Za ?_
 refine Zc (ZC (Zs (Zm ?_)))
 refine Zb (Z9 (by kernel_rfl) rfl rfl) (Zc (Xu rfl (ZF (Zs (Zm (Zm ?_))))))
 refine Zb (Zg rfl) (Zb (Zf f_192_1 rfl) (Zb (Zi p_3 rfl B77 rfl) (Zw zE rfl (rat_ok w1 B77 hn puts hp.1) ?_))); intro v13 w2 E2 R2
 replace hX := hX.tr E2
 replace B77 := Zx B77 E2; replace B3 := Zx B3 E2
 replace hO := hO.ext E2 (fun h => h)
 subst R2
 refine Za ?_
 refine Zc (ZC (ZC (Qq mixed ?_))); intro w3 E3
 replace hX := hX.tr E3
 replace B77 := Zx B77 E3; replace B3 := Zx B3 E3
 replace hO := hO.ext E3 (fun h => h)
 have hS := Ext.refl Non w3
 refine Zd 0 rfl hS Zy ?_
 refine Zd 1 rfl hS (ZG fun A hA => Z9 (by kernel_rfl) rfl rfl) (Zd 2 rfl hS Zy ?_)
 refine Zd 3 rfl hS (Z7 rfl rfl fun A hA => XO (by conv => lhs; whnf)) ?_
 refine Zd 4 rfl hS (Z7 rfl rfl fun A hA => Zg rfl) (Zd 5 rfl hS (Z7 rfl rfl fun A hA => Zf f_194_1 rfl) (Zd 6 rfl hS (Z7 rfl rfl fun A hA => Zi p_3 rfl (hO.box.ext hA id) (hO_at hks (slots4 slots) (d := 3) (by decide) rfl)) ?_))
 refine Zd 7 rfl hS (Z7 rfl rfl fun A hA => XO (by conv => lhs; whnf)) ?_
 refine Zd 8 rfl hS (Z7 rfl rfl fun A hA => Zg rfl) (Zd 9 rfl hS (Z7 rfl rfl fun A hA => Zf f_192_1 rfl) (Zd 10 rfl hS (Z7 rfl rfl fun A hA => Zi p_3 rfl (B77.ext hA id) rfl) (Zd 11 rfl hS (Z7 rfl rfl fun A hA => rn_mul rfl rfl (by omega)) (Zd 12 rfl hS (Z7 rfl rfl fun A hA => X2 rfl rfl) (Zd 13 rfl hS (ZG fun A hA => ZQ rfl (by conv => lhs; whnf)) ?_)))))
 refine Xw (by kernel_rfl) ?_ _
 replace hX := hX.tr hS
 replace B77 := Zx B77 hS; replace B3 := Zx B3 hS
 replace hO := hO.ext hS (fun h => h)
 refine ZE rfl (fun hc1 => ?_) (fun hc1 => ?_)
 ·refine Zs (Zm ?_)
  refine Zb (Zg rfl) (Zb (Zf f_192_3 rfl) (Zb (Zi p_3 rfl B77 rfl) (Zb (ZX rfl rfl (by omega)) (Zb (Zg rfl) (Zb (Zf f_192_3 rfl) ?_)))))
  have Bo := B77
  refine ZN (b := b77) p_3 rfl (by conv => lhs; whnf) rfl rfl B77 Zbl ?_; intro w4 E4 B77 hz4
  replace hX := hX.mine E4 hl77
  replace B3 := B3.ext E4 (fun h => by omega)
  replace hO := hO.ext E4 (fun e => hne e.symm)
  refine Zc (Zs (Za ?_))
  refine Zc (ZB ?_)
  exact ⟨_, ZD (Zh rfl), hX, ⟨rfl, B77, hO⟩⟩
 ·exact absurd (of_decide_eq_false hc1) (by simpa using hk2)
theorem rput_ok (w : World) {b77 sb n : Nat} {puts gets drops : Int} (B77 : Zj w b77 [.slice (some ⟨sb, 0, none⟩) n n, .int .i64 puts, .int .i64 gets, .int .i64 drops]) (hn : 1 ≤ n ∧ n ≤ 16) {slots : List (XI × Int)} {x : XI} {k : Int} (m : XI) (hne : b77 ≠ sb) (hsl : slots.length = n) (hO : Ow w (.slice (some ⟨sb, 0, none⟩) n n) sb 4 (slots.map Qk) []) (hp : 0 ≤ puts ∧ puts ≤ 1000000000) (hk : slots[puts.toNat % n]? = some (x, k)) (hk2 : k = 2 * puts) : FnM Tryz.prog (fun i => i = b77 ∨ i = sb) 266 #[(Zpt b77), .agg m.enc.toArray] w fun u w' => u = .bool true ∧ Zj w' b77 [.slice (some ⟨sb, 0, none⟩) n n, .int .i64 (puts + 1), .int .i64 gets, .int .i64 drops] ∧ Ow w' (.slice (some ⟨sb, 0, none⟩) n n) sb 4 ((slots.set (puts.toNat % n) (m, 2 * puts + 1)).map Qk) [] := by
 have hl77 : Xo (fun i => i = b77 ∨ i = sb) w b77 := .inl (.inl rfl)
 have hks : (slots.map Qk)[puts.toNat % n]? = some (Qk (x, k)) := by rw [List.getElem?_map, hk]; rfl
 have hsb := hO.box.lt
 have hX := Ext.refl (fun i => i = b77 ∨ i = sb) w
 refine Zfm (args := [_, _]) Tryz.func266 rfl rfl ?_
 refine Zs (ZY rfl ?_); intro b3 w1 hb3 E1 B3
 have hn77_3 := Zn B77 hb3
 have hq3 := Zq hX hb3
 replace hX := hX.tr E1
 replace B77 := Zx B77 E1
 replace hO := hO.ext E1 (fun h => h)
 refine Za ?_
 refine Zc (ZC (Zs (Zm ?_)))
 refine Zb (Z9 (by kernel_rfl) rfl rfl) (Zc (Xu rfl (ZF (Zs (Zm (Zm ?_))))))
 refine Zb (Zg rfl) (Zb (Zf f_192_1 rfl) (Zb (Zi p_3 rfl B77 rfl) (Zw zE rfl (rat_ok w1 B77 hn puts hp.1) ?_))); intro v13 w2 E2 R2
 replace hX := hX.tr E2
 replace B77 := Zx B77 E2; replace B3 := Zx B3 E2
 replace hO := hO.ext E2 (fun h => h)
 subst R2
 refine Za ?_
 refine Zc (ZC (ZC (Qq mixed ?_))); intro w3 E3
 replace hX := hX.tr E3
 replace B77 := Zx B77 E3; replace B3 := Zx B3 E3
 replace hO := hO.ext E3 (fun h => h)
 have hS := Ext.refl Non w3
 refine Zd 0 rfl hS Zy ?_
 refine Zd 1 rfl hS (ZG fun A hA => Z9 (by kernel_rfl) rfl rfl) (Zd 2 rfl hS Zy ?_)
 refine Zd 3 rfl hS (Z7 rfl rfl fun A hA => XO (by conv => lhs; whnf)) ?_
 refine Zd 4 rfl hS (Z7 rfl rfl fun A hA => Zg rfl) (Zd 5 rfl hS (Z7 rfl rfl fun A hA => Zf f_194_1 rfl) (Zd 6 rfl hS (Z7 rfl rfl fun A hA => Zi p_3 rfl (hO.box.ext hA id) (hO_at hks (slots4 slots) (d := 3) (by decide) rfl)) ?_))
 refine Zd 7 rfl hS (Z7 rfl rfl fun A hA => XO (by conv => lhs; whnf)) ?_
 refine Zd 8 rfl hS (Z7 rfl rfl fun A hA => Zg rfl) (Zd 9 rfl hS (Z7 rfl rfl fun A hA => Zf f_192_1 rfl) (Zd 10 rfl hS (Z7 rfl rfl fun A hA => Zi p_3 rfl (B77.ext hA id) rfl) (Zd 11 rfl hS (Z7 rfl rfl fun A hA => rn_mul rfl rfl (by omega)) (Zd 12 rfl hS (Z7 rfl rfl fun A hA => X2 rfl rfl) (Zd 13 rfl hS (ZG fun A hA => ZQ rfl (by conv => lhs; whnf)) ?_)))))
 refine Xw (by kernel_rfl) ?_ _
 replace hX := hX.tr hS
 replace B77 := Zx B77 hS; replace B3 := Zx B3 hS
 replace hO := hO.ext hS (fun h => h)
 refine ZE rfl (fun hc1 => ?_) (fun hc1 => ?_)
 ·exact absurd hk2 (by simpa using of_decide_eq_true hc1)
 ·refine ZF (ZC (QQ (fun i => i = sb) mixed ?_)); intro w4 E4
  replace hX := hX.tr E4
  replace B77 := Zx B77 E4; replace B3 := Zx B3 E4
  replace hO := hO.ext E4 (fun h => h)
  have hS := Ext.refl (fun i => i = sb) w4
  refine Zd 0 rfl hS Zy ?_
  refine Zd 1 rfl hS Zy ?_
  refine Zd 2 rfl hS (ZG fun A hA => ZR s_35 rfl rfl (B3.ext hA (fun e => by omega))) (Zd 3 rfl hS Zy ?_)
  refine Zd 4 rfl hS (Zr (Zg rfl)) (Zd 5 rfl hS (Zr (Zf f_192_1 rfl)) (Zd 6 rfl hS (ZG fun A hA => Zi p_3 rfl (B77.ext hA (fun e => by omega)) rfl) (Zd 7 rfl hS (ZG fun A hA => rn_mul rfl rfl (by omega)) (Zd 8 rfl hS (Zr (ZX rfl rfl (by omega))) (Zd 9 rfl hS (Zr (Zg rfl)) (Zd 10 rfl hS (Zr (Zf f_194_0 rfl)) (Zp 11 rfl (ZK ?_))))))))
  refine X6 (u := .agg m.enc.toArray) (d := 0) (i := puts.toNat % n) (r := Qk (x, k)) s_35.2 rfl (by simp only [XF, Nat.zero_add, Nat.add_zero]) rfl (XI.one m) hO (hks) Zbl ?_; intro w5 E5 hz5 hO
  replace hS := hS.trans E5
  refine Zc ⟨hS, ?_⟩
  refine Zd 12 rfl hS (Zr (Zg rfl)) (Zd 13 rfl hS (Zr (Zf f_194_1 rfl)) (Zp 14 rfl (ZK ?_)))
  refine X6 (u := .int .i64 (2 * puts + 1)) (d := 3) (i := puts.toNat % n) (r := [Sv m.topic, Sv m.payload, .bool m.kept, .int .i64 k]) p_3.2 rfl (by simp only [XF, Nat.zero_add, Nat.add_zero]) rfl (J1 rfl) hO (by rw [List.getElem?_set_self (by rw [List.length_map]; exact (List.getElem?_eq_some_iff.1 hk).1)]; rfl) Zbl ?_; intro w6 E6 hz6 hO
  replace hS := hS.trans E6
  rw [List.set_set] at hO
  replace hO : Ow w6 (.slice (some ⟨sb, 0, none⟩) n n) sb 4 ((slots.set (puts.toNat % n) (m, 2 * puts + 1)).map Qk) [] := by rw [List.map_set]; exact hO
  refine Zc ⟨hS, ?_⟩
  refine Xw (by kernel_rfl) ?_ _
  replace hX := hX.own2 hS (fun i hi => .inl (.inr hi))
  replace B77 := B77.ext hS (fun h => hne h)
  refine Zs (Zm ?_)
  refine Zb (Zg rfl) (Zb (Zf f_192_1 rfl) (Zb (Zi p_3 rfl B77 rfl) (Zb (ZX rfl rfl (by omega)) (Zb (Zg rfl) (Zb (Zf f_192_1 rfl) ?_)))))
  have Bo := B77
  refine ZN (b := b77) p_3 rfl (by conv => lhs; whnf) rfl rfl B77 Zbl ?_; intro w7 E7 B77 hz7
  replace hX := hX.mine E7 hl77
  replace hO := hO.ext E7 (fun e => hne e.symm)
  refine Zc (Zs (Za ?_))
  refine Zc (ZB ?_)
  exact ⟨_, ZD (Zh rfl), hX, ⟨rfl, B77, hO⟩⟩
theorem cread_ok (w : World) {b77 pl : Nat} {pe pg pr q0 q1 q2 q3 : Option Addr} {rv : Value} (B77 : Zj w b77 [.pointer pe, .pointer (some ⟨pl, 0, none⟩), .pointer pg, .pointer pr, .pointer q0, .pointer q1, .pointer q2, .pointer q3, rv, .int .i64 0]) {n c : Nat} {a : Addr} {fv : Value} {pid st : Int} (hid : 1 ≤ pid ∧ pid ≤ n) (hnn : n ≤ 60000) (hPl : Zj w pl [.slice (some a) n c, fv, .int .i64 65536]) {rows : List (List Value)} {p : Option Addr} {len : Int} {M : Nat → Prop} (hL : Sl M w (.slice (some a) n c) 4 rows) (hr : rows[(pid - 1).toNat]? = some (plC p len st true))  : Fn Tryz.prog 77 #[(Zpt b77), .agg #[.int .i64 pid, .int .i64 st]] w fun u w' => u = .agg #[.pointer p, .int .i64 len] := by
 have hPl0 := hPl.lt
 have hXn := Ext.refl Non w
 have hX := Ext.refl Non w
 refine Zfw (args := [_, _]) Tryz.func77 rfl rfl ?_
 refine Zs (ZY rfl ?_); intro b3 w1 hb3 E1 B3
 have hn77_3 := Zn B77 hb3
 have hq3 := Zq hX hb3
 replace hX := hX.tr E1
 replace B77 := Zx B77 E1
 replace hPl := hPl.ext E1 id
 replace hL := hL.ext E1 (fun _ h => h.elim)
 refine ZT z_103 ?_; intro b4 w2 hb4 E2 B4
 have hn77_4 := Zn B77 hb4
 have hn3_4 := Zn B3 hb4
 have hq4 := Zq hX hb4
 have hl4 := Zl hX hb4
 replace hX := hX.tr E2
 replace B77 := Zx B77 E2; replace B3 := Zx B3 E2
 replace hPl := hPl.ext E2 id
 replace hL := hL.ext E2 (fun _ h => h.elim)
 refine Zc (ZC (Z5 (fun j => false) mixed ?_)); intro w3 E3
 replace hX := hX.tr E3
 replace B77 := Zx B77 E3; replace B3 := Zx B3 E3; replace B4 := Zx B4 E3
 replace hPl := hPl.ext E3 id
 replace hL := hL.ext E3 (fun _ h => h.elim)
 have hS := Ext.refl Non w3
 refine Zt 0 [1, 2, 3, 4, 9, 10, 11, 12, 14, 15] rfl hS Zy ?_
 refine Zt 1 [2, 3, 4, 9, 10, 11, 12, 14, 15] rfl hS (Zr (Zg rfl)) (Zt 2 [3, 4, 9, 10, 11, 12, 14, 15] rfl hS (Zr (Zf Qp rfl)) (Zt 3 [4, 9, 10, 11, 12, 14, 15] rfl hS (Zr (Zf f_106_1 rfl)) (Zt 4 [9, 10, 11, 12, 14, 15] rfl hS (Zv p_99 rfl B77 rfl) (Zt 5 [6, 9, 10, 11, 12, 14, 15] rfl hS (Zr (Zf f_117_0 rfl)) (Zt 6 [9, 10, 11, 12, 14, 15] rfl hS (Zv p_3 rfl B3 rfl) (Zt 7 [8, 9, 10, 11, 12, 14, 15] rfl hS (Zr (Zf f_117_1 rfl)) (Zt 8 [9, 10, 11, 12, 14, 15] rfl hS (Zv p_3 rfl B3 rfl) ?_)))))))
 refine wx_two 9 13 _ _ rfl rfl (by kernel_rfl) ?_ ?_
 ·refine ZK (Zw zE rfl (pget_ok w3 hid hnn (hPl.ext hS id) (hL.ext hS (fun _ h => h.elim)) hr) ?_); intro v17 w4 E4 R4
  replace hS := hS.tr E4
  subst R4
  refine Zc ⟨fun _ => hS, ?_⟩
  refine Zt 10 [11, 12, 14, 15] rfl hS Zy ?_
  refine Zt 11 [14, 15] rfl hS (Zr (ZM rfl rfl)) (Zt 12 [15] rfl hS (Zr (ZM rfl rfl)) (Zo 13 rfl (ZK (ZT z_103 ?_)))); intro b5 w5 hb5 E5 B5
  have hn77_5 : b77 < b5 := Zlt (Zlt B77.lt hS.size) hb5
  have hn3_5 : b3 < b5 := Zlt (Zlt B3.lt hS.size) hb5
  have hn4_5 : b4 < b5 := Zlt (Zlt B4.lt hS.size) hb5
  have hq5 : w.heap.size ≤ b5 := Zle (hX.tr hS).size hb5
  have hl5 : Xo Non w b5 := .inr hq5
  have hm5 : w3.heap.size ≤ b5 := Zle hS.size hb5
  replace hS := hS.tr E5
  refine Zc ⟨fun _ => hS, ?_⟩
  refine Zo 14 rfl (ZK (ZS QF rfl rfl rfl (Qc rfl rfl) B5 rfl ?_)); intro w6 E6 B5 hz6
  replace hS := hS.mine E6 (.inr (by omega))
  refine Zc ⟨fun _ => hS, ?_⟩
  refine Zt 15 [] rfl hS (ZG fun A hA => Xm (by conv => lhs; whnf)) ?_
  refine ZZ (by kernel_rfl) ?_ _
  replace hX := hX.tr hS
  replace B77 := Zx B77 hS; replace B3 := Zx B3 hS; replace B4 := Zx B4 hS
  replace hPl := hPl.ext hS id
  replace hL := hL.ext hS (fun _ h => h.elim)
  refine ZC (Zs (Zm ?_))
  refine Zb (X2 rfl rfl) (Zc (Xu rfl (ZF (Zs (Zb (ZR QF rfl rfl B5) ?_)))))
  have Bo := B4
  refine ZS QF rfl rfl rfl (Qc rfl rfl) B4 rfl ?_; intro w7 E7 B4 hz7
  replace hX := hX.mine E7 hl4
  replace B77 := B77.ext E7 (fun h => by omega); replace B3 := B3.ext E7 (fun h => by omega); replace B5 := B5.ext E7 (fun h => by omega)
  replace hPl := hPl.ext E7 (fun e => by have := hPl0; have h3 : pl = b4 := e; omega)
  replace hL := hL
  refine Zc (ZB ?_)
  exact ⟨_, ZD (Xn QF rfl B4 rfl), hX, rfl⟩
 ·refine ZK (ZT z_103 ?_); intro b5 w8 hb5 E8 B5
  have hn77_5 : b77 < b5 := Zlt (Zlt B77.lt hS.size) hb5
  have hn3_5 : b3 < b5 := Zlt (Zlt B3.lt hS.size) hb5
  have hn4_5 : b4 < b5 := Zlt (Zlt B4.lt hS.size) hb5
  have hq5 : w.heap.size ≤ b5 := Zle (hX.tr hS).size hb5
  have hm5 : w3.heap.size ≤ b5 := Zle hS.size hb5
  replace hS := hS.tr E8
  refine Zc ⟨fun _ => hS, ?_⟩
  refine Zo 9 rfl (ZK (Zw zE rfl (pget_ok w8 hid hnn (hPl.ext hS id) (hL.ext hS (fun _ h => h.elim)) hr) ?_)); intro v17 w9 E9 hR9
  replace B5 := Zx B5 E9
  replace hS := hS.tr E9
  subst hR9
  refine Zc ⟨fun _ => hS, ?_⟩
  refine Zt 10 [11, 12, 14, 15] rfl hS Zy ?_
  refine Zt 11 [14, 15] rfl hS (Zr (ZM rfl rfl)) (Zt 12 [15] rfl hS (Zr (ZM rfl rfl)) (Zo 14 rfl (ZK (ZS QF rfl rfl rfl (Qc rfl rfl) B5 rfl ?_)))); intro w10 E10 B5 hz10
  replace hS := hS.mine E10 (.inr (by omega))
  refine Zc ⟨fun _ => hS, ?_⟩
  refine Zt 15 [] rfl hS (ZG fun A hA => Xm (by conv => lhs; whnf)) ?_
  refine ZZ (by kernel_rfl) ?_ _
  replace hX := hX.tr hS
  replace B77 := Zx B77 hS; replace B3 := Zx B3 hS; replace B4 := Zx B4 hS
  replace hPl := hPl.ext hS id
  replace hL := hL.ext hS (fun _ h => h.elim)
  refine ZC (Zs (Zm ?_))
  refine Zb (X2 rfl rfl) (Zc (Xu rfl (ZF (Zs (Zb (ZR QF rfl rfl B5) ?_)))))
  have Bo := B4
  refine ZS QF rfl rfl rfl (Qc rfl rfl) B4 rfl ?_; intro w11 E11 B4 hz11
  replace hX := hX.mine E11 hl4
  replace B77 := B77.ext E11 (fun h => by omega); replace B3 := B3.ext E11 (fun h => by omega); replace B5 := B5.ext E11 (fun h => by omega)
  replace hPl := hPl.ext E11 (fun e => by have := hPl0; have h3 : pl = b4 := e; omega)
  replace hL := hL
  refine Zc (ZB ?_)
  exact ⟨_, ZD (Xn QF rfl B4 rfl), hX, rfl⟩
theorem ctake_ok (w : World) {b77 pl : Nat} {pe pg pr q0 q1 q2 q3 : Option Addr} {rv : Value} (B77 : Zj w b77 [.pointer pe, .pointer (some ⟨pl, 0, none⟩), .pointer pg, .pointer pr, .pointer q0, .pointer q1, .pointer q2, .pointer q3, rv, .int .i64 0]) {lv : Value} {o : Option Nat} {rows : List (List Value)} (hO : OwO w lv o 4 rows) (hob : ∀ i, o = some i → i ≠ pl) (hoc : ∀ i, o = some i → i ≠ b77) (hcp : b77 ≠ pl) (hn : rows.length < 60000) (p : Option Addr) (len : Int) (hPl : Zj w pl [lv, .slice none 0 0, .int .i64 65536])  : FnM Tryz.prog (fun i => i = pl ∨ o = some i) 217 #[(Zpt b77), .agg #[.pointer p, .int .i64 len]] w fun u w' => ∃ lv' o', Zj w' pl [lv', .slice none 0 0, .int .i64 65536] ∧ OwO w' lv' o' 4 (rows ++ [plC p len 0 true]) ∧ (∀ i, o' = some i → o = some i ∨ w.heap.size ≤ i) ∧ u = .agg #[.int .i64 ((rows ++ [plC none 0 0 false]).length : Nat), .int .i64 0] := by
 have hPl0 := hPl.lt
 have hol := fun i (hi : o = some i) => hO.lt hi
 have hX := Ext.refl (fun i => i = pl ∨ o = some i) w
 refine Zfm (args := [_, _]) Tryz.func217 rfl rfl ?_
 refine Zs (ZY rfl ?_); intro b3 w1 hb3 E1 B3
 have hn77_3 := Zn B77 hb3
 have hq3 := Zq hX hb3
 replace hX := hX.tr E1
 replace B77 := Zx B77 E1
 replace hPl := hPl.ext E1 id
 replace hO := hO.ext E1 (fun _ _ h => h)
 refine ZT z_117 ?_; intro b4 w2 hb4 E2 B4
 have hn77_4 := Zn B77 hb4
 have hn3_4 := Zn B3 hb4
 have hq4 := Zq hX hb4
 have hl4 := Zl hX hb4
 replace hX := hX.tr E2
 replace B77 := Zx B77 E2; replace B3 := Zx B3 E2
 replace hPl := hPl.ext E2 id
 replace hO := hO.ext E2 (fun _ _ h => h)
 refine Zc (ZC (Z5 (fun j => j == 6 || j == 7 || j == 8 || j == 9 || j == 10 || j == 11 || j == 12 || j == 13) mixed ?_)); intro w3 E3
 replace hX := hX.tr E3
 replace B77 := Zx B77 E3; replace B3 := Zx B3 E3; replace B4 := Zx B4 E3
 replace hPl := hPl.ext E3 id
 replace hO := hO.ext E3 (fun _ _ h => h)
 have hS := Ext.refl Non w3
 refine Zt 0 [1, 2, 3, 4, 6, 7, 8, 9, 10, 11, 12, 13] rfl hS Zy ?_
 refine Zt 1 [2, 3, 4, 6, 7, 8, 9, 10, 11, 12, 13] rfl hS (Zr (Zg rfl)) (Zt 2 [3, 4, 6, 7, 8, 9, 10, 11, 12, 13] rfl hS (Zr (Zf Qp rfl)) (Zt 3 [4, 6, 7, 8, 9, 10, 11, 12, 13] rfl hS (Zr (Zf f_106_1 rfl)) (Zt 4 [6, 7, 8, 9, 10, 11, 12, 13] rfl hS (Zv p_99 rfl B77 rfl) (Zt 5 [6, 7, 8, 9, 10, 11, 12, 13] rfl hS (ZG fun A hA => ZR QF rfl rfl (B3.ext hA id)) ?_))))
 replace hX := hX.tr hS
 replace B77 := Zx B77 hS; replace B3 := Zx B3 hS; replace B4 := Zx B4 hS
 replace hPl := hPl.ext hS id
 replace hO := hO.ext hS (fun _ _ h => h)
 refine Zo 6 rfl (ZK ?_)
 have hXz := hX.size; have hb4l := B4.lt
 refine ZI zE rfl (ptake_ok w3 hO hob hn p len hPl) ?_; intro v15 w4 E4 hR
 obtain ⟨lv', o', hPl, hO, ho', rfl⟩ := hR
 replace hX := hX.own2 E4 (fun i hi => .inl hi)
 replace B77 := B77.ext E4 (fun h => by rcases h with h | h; exact hcp h; exact hoc _ h rfl)
 replace B4 := B4.ext E4 (fun h => by rcases h with h | h; omega; have := hol _ h; omega)
 have ho2 : ∀ i, o' = some i → o = some i ∨ w.heap.size ≤ i := fun i hi => (ho' i hi).imp id (Zle hXz)
 have hb4o : ∀ i, o' = some i → i ≠ b4 := fun i hi e => by rcases ho' i hi with h | h; have := hol i h; omega; omega
 refine Zz ?_
 refine XK 7 _ _ rfl rfl (by kernel_rfl) (ZG fun A _ => XO (by conv => lhs; whnf)) ?_
 refine XK 8 _ _ rfl rfl (by kernel_rfl) (ZG fun A _ => ZM rfl rfl) ?_
 refine XK 9 _ _ rfl rfl (by kernel_rfl) (ZG fun A _ => ZM rfl rfl) ?_
 refine XK 10 _ _ rfl rfl (by kernel_rfl) (ZG fun A _ => ZM rfl rfl) ?_
 refine XK 11 _ _ rfl rfl (by kernel_rfl) (ZG fun A _ => Xm (by conv => lhs; whnf)) ?_
 refine XK 12 _ _ rfl rfl (by kernel_rfl) (ZG fun A _ => Xm (by conv => lhs; whnf)) ?_
 refine XK 13 _ _ rfl rfl (by kernel_rfl) (ZG fun A _ => Xm (by conv => lhs; whnf)) ?_
 refine ZZ (by kernel_rfl) ?_ _
 refine ZC (Zs (Zm ?_))
 refine Zb (X2 rfl rfl) (Zc (Xu rfl (ZF (Zs (Zm (Zm ?_))))))
 refine Zb (Z2 b_117 rfl rfl (cs := [_, _]) rfl) ?_
 have hO0 := hO
 refine ZS Qv rfl rfl rfl (Qc rfl rfl) B4 rfl ?_; intro w5 E5 B4 hz5
 replace hX := hX.mine E5 hl4
 replace hPl := hPl.ext E5 (fun h => by have h3 : pl = b4 := h; omega); replace hO := hO.ext E5 (fun i hi e => by have h3 : i = b4 := e; rcases ho2 i hi with h | h; have := hol i h; omega; have := hb4o i hi; omega)
 refine Zc (ZB ?_)
 exact ⟨_, ZD (Xn Qv rfl B4 rfl), hX, ⟨_, _, hPl, hO, ho2, rfl⟩⟩
theorem ccollect_no (w : World) {b77 ep pn cc : Nat} {pp pg pr q0 q1 q2 q3 : Option Addr} {rv : Value} (B77 : Zj w b77 [.pointer (some ⟨ep, 0, none⟩), .pointer pp, .pointer pg, .pointer pr, .pointer q0, .pointer q1, .pointer q2, .pointer q3, rv, .int .i64 0]) {now : Int} {pin : List Int} {vs : List Value} {spare : List Value} (Ep : Zj w ep (.int .i64 now :: .slice (some ⟨pn, 0, none⟩) pin.length cc :: vs)) (hO : Ow w (.slice (some ⟨pn, 0, none⟩) pin.length cc) pn 1 (pin.map eI) spare) (hne : pn ≠ ep) (hvl : vs.length = 3) (hn : 0 ≤ now ∧ now ≤ 1000000000) (ha : (pin.any fun p => decide (0 ≤ p ∧ p ≠ now)) = true) : FnM Tryz.prog (fun i => i = ep) 177 #[(Zpt b77)] w fun u w' => Zj w' ep (.int .i64 now :: .slice (some ⟨pn, 0, none⟩) pin.length cc :: vs) := by
 have hX := Ext.refl (fun i => i = ep) w
 refine Zfm (args := [_]) Tryz.func177 rfl rfl ?_
 refine Zs (Zm ?_)
 refine Zb (Zg rfl) (Zb (Zf Qp rfl) (Zb (Zf JV rfl) (Zb (Zi p_97 rfl B77 rfl) (ZI zE rfl (eadv_no w Ep hO hne hvl hn ha) ?_)))); intro v12 w1 E1 hR
 obtain ⟨rfl, Ep⟩ := hR
 replace hX := hX.trans E1
 refine Zm ?_
 refine Zb (ZM rfl rfl) (Zb (ZM rfl rfl) (Za (Za ?_)))
 refine Zc (Zs (Zm ?_))
 refine Zb (Z1 Xe rfl) (Zm ?_)
 refine Zc (ZO (Xt (S := Unit) [0, 15, 16, 17] (fun _ => [(Zpt b77), .slice none 0 0, .int .i64 ((0 : Nat) : Int), .int .i64 0]) (fun _ A => (Ext (fun i => i = ep) w A) ∧ (Zj A ep (.int .i64 now :: .slice (some ⟨pn, 0, none⟩) pin.length cc :: vs))) (fun _ => 0) () ⟨rfl, rfl, rfl, rfl, trivial⟩ ⟨hX, Ep⟩ ?_))
 rintro τ0 _ A0 ⟨hX, I0⟩
 have Ep := I0
 refine Zs (Zb (Xj rfl rfl) (Zc (ZC ?_)))
 refine ZE rfl (fun hc0 => ?_) (fun hc0 => ?_)
 ·exact absurd (of_decide_eq_true hc0) (by decide)
 ·refine XL ?_
  exact ⟨_, rfl, hX, Ep⟩
theorem ccollect_ok (w : World) {b77 ep pn cc : Nat} {pp pg pr q0 q1 q2 q3 : Option Addr} {rv : Value} (B77 : Zj w b77 [.pointer (some ⟨ep, 0, none⟩), .pointer pp, .pointer pg, .pointer pr, .pointer q0, .pointer q1, .pointer q2, .pointer q3, rv, .int .i64 0]) {now : Int} {pin : List Int} {vs : List Value} {spare : List Value} (Ep : Zj w ep (.int .i64 now :: .slice (some ⟨pn, 0, none⟩) pin.length cc :: vs)) (hO : Ow w (.slice (some ⟨pn, 0, none⟩) pin.length cc) pn 1 (pin.map eI) spare) (hne : pn ≠ ep) (hvl : vs.length = 3) (hn : 0 ≤ now ∧ now ≤ 1000000000) (ha : (pin.any fun p => decide (0 ≤ p ∧ p ≠ now)) = false) (hv : vs[(now + 1).toNat % 3]? = some (.slice none 0 0)) : FnM Tryz.prog (fun i => i = ep) 177 #[(Zpt b77)] w fun u w' => Zj w' ep (.int .i64 (now + 1) :: .slice (some ⟨pn, 0, none⟩) pin.length cc :: vs.set ((now + 1).toNat % 3) (.slice none 0 0)) := by
 have hX := Ext.refl (fun i => i = ep) w
 refine Zfm (args := [_]) Tryz.func177 rfl rfl ?_
 refine Zs (Zm ?_)
 refine Zb (Zg rfl) (Zb (Zf Qp rfl) (Zb (Zf JV rfl) (Zb (Zi p_97 rfl B77 rfl) (ZI zE rfl (eadv_ok w Ep hO hne hvl hn ha hv rfl) ?_)))); intro v12 w1 E1 hR
 obtain ⟨rfl, Ep⟩ := hR
 replace hX := hX.trans E1
 refine Zm ?_
 refine Zb (ZM rfl rfl) (Zb (ZM rfl rfl) (Za (Za ?_)))
 refine Zc (Zs (Zm ?_))
 refine Zb (Z1 Xe rfl) (Zm ?_)
 refine Zc (ZO (Xt (S := Unit) [0, 15, 16, 17] (fun _ => [(Zpt b77), .slice none 0 0, .int .i64 ((0 : Nat) : Int), .int .i64 0]) (fun _ A => (Ext (fun i => i = ep) w A) ∧ (Zj A ep (.int .i64 (now + 1) :: .slice (some ⟨pn, 0, none⟩) pin.length cc :: vs.set ((now + 1).toNat % 3) (.slice none 0 0)))) (fun _ => 0) () ⟨rfl, rfl, rfl, rfl, trivial⟩ ⟨hX, Ep⟩ ?_))
 rintro τ0 _ A0 ⟨hX, I0⟩
 have Ep := I0
 refine Zs (Zb (Xj rfl rfl) (Zc (ZC ?_)))
 refine ZE rfl (fun hc0 => ?_) (fun hc0 => ?_)
 ·exact absurd (of_decide_eq_true hc0) (by decide)
 ·refine XL ?_
  exact ⟨_, rfl, hX, Ep⟩
section
variable {ro : Option Nat} {P : Program} {n : Nat} {Q : QH} {σ : Env} {D : List Deferred} {w : World}
def V (P : Program) (n : Nat) (c : Code) (Q : QH) (σ : Env) (D : List Deferred) (w : World) : Prop :=
 ∀ a, Sim n a σ → a.defers = D → c.wpIn (fz none) 0 P (fun e a' w' => ∃ σ', Sim n a' σ' ∧ Q e σ' a'.defers w') a w
theorem Jk {c : Code} (hk : okc n c = true) (h : W none P n c Q σ D w) : V P n c Q σ D w := h hk
theorem Je {x y : Code} (h : V P n x (Then (V P n y Q) Q) σ D w) : V P n (.seq x y) Q σ D w := by
 intro a hs hd
 refine wpIn_seq (wpIn_mono (h a hs hd) fun e a' w' ⟨σ', h1, h2⟩ => ?_)
 cases e with
 | normal => exact h2 a' h1 rfl
 | _ => exact ⟨σ', h1, h2⟩
theorem V_skip (h : Q .normal σ D w) : V P n .skip Q σ D w := fun a hs hd => wpIn_skip ⟨σ, hs, hd ▸ h⟩
theorem V_ret (h : Q .ret σ D w) : V P n .ret Q σ D w := fun a hs hd => wpIn_ret ⟨σ, hs, hd ▸ h⟩
theorem V_cond {c : Operand} {x y : Code} {t : Bool} (hc : ev σ c = .bool t) (ht : t = true → V P n x Q σ D w) (hf : t = false → V P n y Q σ D w) : V P n (.cond c x y) Q σ D w := by
 intro a hs hd
 exact wpIn_cond_split (t := t) (by rw [hs.eval]; exact hc) (fun e => ht e a hs hd) (fun e => hf e a hs hd)
theorem V_defer {id d : Nat} {f : FuncId} {cap : List Operand} {vs : List Value} {t1 t2 : TypeId} {p1 p2 : String} {a1 a2 : Array Edge} (hd : d < n) (hv : cap.map (ev σ) = vs)
  (h : Q .normal (upd σ d (.func (.func f) #[] vs.toArray)) ({ target := .fn (.func f) vs.toArray, args := #[] } :: D) w) :
  V P n (.region id #[⟨some d, .makeFunc (.func f) #[] cap.toArray, t1, p1, a1, none⟩, ⟨none, .defer ⟨.value (.tmp d), #[], #[]⟩, t2, p2, a2, none⟩] false) Q σ D w := by
 intro a hs hdf
 have hs1 : Sim n (a.put (some d) (.func (.func f) #[] vs.toArray)) (put σ (some d) (.func (.func f) #[] vs.toArray)) := hs.put _ _ (fun d' e => by cases e; exact hd)
 refine wpIn_mono (wpIn_region_lit (l := [⟨some d, .makeFunc (.func f) #[] cap.toArray, t1, p1, a1, none⟩, ⟨none, .defer ⟨.value (.tmp d), #[], #[]⟩, t2, p2, a2, none⟩]) (Q := fun e a' w' => e = .normal ∧ ∃ σ', Sim n a' σ' ∧ a'.defers = { target := .fn (.func f) vs.toArray, args := #[] } :: D ∧ σ' = upd σ d (.func (.func f) #[] vs.toArray) ∧ w' = w) ?_) ?_
 ·unfold wpListIn
  have hw : ∀ (o : Oper) tm, o.guard = none → Region.wanted o tm = true := fun o tm h => by simp [Region.wanted, h]
  rw [if_pos (hw _ _ rfl)]
  refine ⟨fun g _ => fz_fn none g, ?_⟩
  have e1 : ((⟨some d, .makeFunc (.func f) #[] cap.toArray, t1, p1, a1, none⟩ : Oper).semAt (fz none).round a.eval).run P w = .ok (.value (.func (.func f) #[] vs.toArray)) w := by
   rw [hs.eval]; exact ZL (dst := some d) (ty := t1) (pos := p1) (af := a1) (g := none) hv
  rw [e1]
  show wpListIn _ _ _ _ _ _ _ _
  unfold wpListIn
  rw [if_pos (hw _ _ rfl)]
  refine ⟨fun g _ => fz_fn none g, ?_⟩
  have e2 : ((⟨none, .defer ⟨.value (.tmp d), #[], #[]⟩, t2, p2, a2, none⟩ : Oper).semAt (fz none).round (a.put (some d) (.func (.func f) #[] vs.toArray)).eval).run P w = .ok (.defer { target := .fn (.func f) vs.toArray, args := #[] }) w := by
   rw [hs1.eval, fz_round, Oper.semAt_none]
   simp [execOp, resolve, ev, put, upd_eq, Deferred.ofValue]
  rw [e2]
  show wpListIn _ _ _ _ _ _ _ _
  unfold wpListIn
  exact ⟨rfl, _, ⟨hs1.size, hs1.agree⟩, by show _ :: _ = _; rw [← hdf]; rfl, rfl, rfl⟩
 ·rintro e a' w' ⟨rfl, σ', k1, k2, rfl, rfl⟩
  exact ⟨_, k1, by rw [k2]; exact h⟩
def DCall (P : Program) (f : FuncId) (args : Array Value) (w : World) (R : World → Prop) : Prop :=
 CallsDIn Fence.wide 0 P f args .returning w fun e u' w' => u' = .returning ∧ ∃ v, e = .returned v ∧ R w'
theorem dcall_of_W {f : FuncId} {fn : Func} {c : Code} {args : List Value} {R : World → Prop} (hf : P.funcs[f]? = some fn) (hb : fn.body = some c) (hk : okc fn.ntmps c = true) (hl' : Nat.ble args.length fn.ntmps = true) (hr : fn.results.toList = [])
  (h : W none P fn.ntmps c (fun e σ D w => (e = .normal ∨ e = .ret) ∧ D = [] ∧ R w) (env0 args) [] w) : DCall P f args.toArray w R := by
 have hl : args.length ≤ fn.ntmps := Nat.le_of_ble_eq_true hl'
 refine (callsDIn_of_wp (F := Fence.wide) (R := fun e w' => ∃ v, e = .returned v ∧ R w') hf hb trivial ?_ rfl).mono fun e u' w' h => ⟨h.1, h.2⟩
 have := h hk _ (sim0 (n := fn.ntmps) args hl) rfl
 simp only [List.size_toArray] at *
 refine wpIn_mono this ?_
 rintro e a' w' ⟨σ', hs, hq, hD, hR⟩
 have hres : (results fn a'.tmps).run P w' = .ok (.tuple #[]) w' := run_results (σ := σ') hs (by rw [hr]; rfl)
 rcases hq with rfl | rfl
 ·exact ⟨hD, _, hres, _, rfl, hR⟩
 ·exact ⟨hD, _, hres, _, rfl, hR⟩
def RetV (P : Program) (t : Nat) (R : Value → World → Prop) : QH
 | .normal, σ, D, w | .ret, σ, D, w => ∃ f cap, D = [{ target := .fn (.func f) cap, args := #[] }] ∧ Xa P f = true ∧ DCall P f cap w fun w' => R (σ t) w'
 | _, _, _, _ => False
theorem calls_of_V {f : FuncId} {fn : Func} {c : Code} {args : List Value} {t : Nat} {R : Value → World → Prop} (hf : P.funcs[f]? = some fn) (hb : fn.body = some c) (hl' : Nat.ble args.length fn.ntmps = true) (hr : fn.results.toList = [.tmp t])
  (h : V P fn.ntmps c (RetV P t R) (env0 args) [] w) : Calls P f args.toArray w fun e w' => ∃ v, e = .returned v ∧ R v w' := by
 have hl : args.length ≤ fn.ntmps := Nat.le_of_ble_eq_true hl'
 have key : CallsIn Fence.wide 0 P f args.toArray w (fun e w' => ∃ v, e = .returned v ∧ R v w') := by
  refine callsIn_of_wp_marks hf hb trivial ?_ rfl
  have := h _ (sim0 (n := fn.ntmps) args hl) rfl
  simp only [List.size_toArray] at *
  refine wpIn_mono this ?_
  rintro e a' w' ⟨σ', hs, hq⟩
  have hend : ∀ D, (∃ f cap, D = [({ target := .fn (.func f) cap, args := #[] } : Deferred)] ∧ Xa P f = true ∧ DCall P f cap w' fun w' => R (σ' t) w') → LeavesInM Fence.wide 0 P fn a'.tmps (fun e w' => ∃ v, e = .returned v ∧ R v w') D .returning w' := by
   rintro D ⟨f, cap, rfl, he, hd⟩
   refine ⟨by simp,   .inr ⟨(fun hx => by cases hx), .func f, cap, f, cap, rfl, ?_, fun g _ => trivial, ?_⟩⟩
   ·simp [invoke, QY he]
   ·refine CallsDIn.mono hd ?_
    rintro e u' w2 ⟨rfl, v, rfl, hR⟩
    exact ⟨σ' t, run_results hs (by rw [hr]; rfl), _, rfl, hR⟩
  cases e with
  | normal => exact hend _ hq
  | ret => exact hend _ hq
  | _ => exact hq.elim
 exact callsIn_wide.1 key
end
theorem DCall.mono {P : Program} {f : FuncId} {args : Array Value} {w : World} {R R' : World → Prop} (h : DCall P f args w R) (hr : ∀ w', R w' → R' w') : DCall P f args w R' := CallsDIn.mono h fun e u w' ⟨a, v, b, c⟩ => ⟨a, v, b, hr _ c⟩
theorem rn_lookG {P : Program} {σ : Env} {w : World} {dst : Option Nat} {ty : TypeId} {pos : String} {af : Array Edge} {g : Option (Nat × Bool)} {t key elem : TypeId} {z v : Value} {x y : Operand} {b : Nat} {kvs : List (Int × Value)} {k : Int} (hT : MapI P t key elem z) (hx : ev σ x = .map (some b)) (hy : ev σ y = .int .i64 k) (hb : Yj w b kvs) (hv : (iget k kvs).getD z = v) :
  Rn P σ w ⟨dst, .lookup t x y false, ty, pos, af, g⟩ v := by subst hv; exact rn_lookupI1 hT hx hy hb rfl
def Ints (kvs : List (Int × Value)) : Prop := ∀ p ∈ kvs, ∃ n, p.2 = .int .i64 n
theorem ints_get {k : Int} : ∀ {kvs : List (Int × Value)}, Ints kvs → ∃ n, (iget k kvs).getD (.int .i64 0) = .int .i64 n
 | [], _ => ⟨0, rfl⟩
 | p :: l, h => by
  unfold iget; split
  ·exact h p (by simp)
  ·exact ints_get fun q hq => h q (by simp [hq])
theorem ints_put {k n : Int} : ∀ {kvs : List (Int × Value)}, Ints kvs → Ints (iput k (.int .i64 n) kvs)
 | [], _ => fun p hp => by simp only [iput, List.mem_singleton] at hp; subst hp; exact ⟨_, rfl⟩
 | q :: l, h => by
  unfold iput; split
  ·intro p hp; rcases List.mem_cons.1 hp with rfl | hp
   ·exact ⟨_, rfl⟩
   ·exact h p (by simp [hp])
  ·intro p hp; rcases List.mem_cons.1 hp with rfl | hp
   ·exact h p (by simp)
   ·exact ints_put (fun x hx => h x (by simp [hx])) p hp
theorem mi_places : MapI Tryz.prog 195 3 3 (.int .i64 0) := ⟨by kernel_rfl, by kernel_rfl, by kernel_rfl⟩
theorem begin1_ok (w : World) {b0 b1 b77 mb : Nat} {t lnow : Int} {lv : Value} {kvs : List (Int × Value)} (hne : b77 ≠ mb) (hI : Ints kvs) (hlv : lv.oneCell' = true) (hB0 : Zj w b0 [(Zpt b77)]) (B1 : Zj w b1 [.int .i64 t]) (B77 : Zj w b77 [lv, .int .i64 lnow, .map (some mb)]) (hM : Yj w mb kvs) : DCall Tryz.prog 186 #[(Zpt b0), (Zpt b1)] w fun w' => Ext (fun i => i = mb) w w' ∧ ∃ kvs', Yj w' mb kvs' ∧ Ints kvs' := by
 have hX := Ext.refl (fun i => i = mb) w
 obtain ⟨gn, hgn⟩ := ints_get (k := t) hI
 refine dcall_of_W (args := [_, _]) Tryz.func186 rfl (by kernel_rfl) rfl rfl ?_
 refine Z5 (fun j => j == 7) mixed ?_; intro w1 E1
 replace hX := hX.tr E1
 replace hB0 := Zx hB0 E1; replace B1 := Zx B1 E1; replace B77 := Zx B77 E1
 replace hM := hM.ext E1 id
 have hS := Ext.refl Non w1
 refine Zt 0 [1, 2, 3, 5, 6, 7] rfl hS (Zv QV rfl hB0 rfl) (Zt 1 [2, 3, 5, 6, 7] rfl hS (Zr (Zg rfl)) (Zt 2 [3, 5, 6, 7] rfl hS (Zr (Zf f_197_2 rfl)) (Zt 3 [5, 6, 7] rfl hS (Zv p_195 rfl B77 rfl) (Zt 4 [5, 6, 7] rfl hS (Zv p_3 rfl B1 rfl) (Zo 5 rfl (ZK (Zb (rn_lookG mi_places rfl rfl (hM.ext hS id) hgn) ?_)))))))
 refine Zc ⟨fun _ => hS, ?_⟩
 refine Zt 6 [7] rfl hS (ZG fun A hA => rn_addw rfl rfl) ?_
 replace hX := hX.tr hS
 replace hB0 := Zx hB0 hS; replace B1 := Zx B1 hS; replace B77 := Zx B77 hS
 replace hM := hM.ext hS id
 refine Zo 7 rfl (ZK (wl_mapUpdateI mi_places rfl rfl rfl hM ?_)); intro w2 E2 hM hz2
 replace hX := hX.mine E2 (.inl rfl)
 replace B77 := B77.ext E2 (fun e => hne e)
 refine Zz ?_
 refine ZZ (by kernel_rfl) ?_ _
 exact ⟨.inl rfl, rfl, hX, _, hM, ints_put hI⟩
set_option maxHeartbeats 1600000 in
theorem begin_old (w : World) {b77 : Nat} {lnow : Int} {lv : Value} {o : Option Nat} {rows : List (List Value)} (hO : OwO w lv o 15 rows) (hob : ∀ i, o = some i → i ≠ b77) (h15 : ∀ r ∈ rows, ∀ u ∈ r, u.oneCell' = true) {mb : Nat} {kvs : List (Int × Value)} (hM : Yj w mb kvs) (hI : Ints kvs) (hmb : mb ≠ b77) (hmo : o ≠ some mb) (t : Int) (x : OpD) (hn : 0 ≤ lnow ∧ lnow ≤ 1000000000) (hr : rows.length ≤ 60000) (B77 : Zj w b77 [lv, .int .i64 lnow, .map (some mb)]) : FnM Tryz.prog (fun i => i = b77 ∨ o = some i ∨ i = mb) 102 #[(Zpt b77), .int .i64 t, .agg x.enc.toArray] w fun u w' => ∃ lv' o' mb' kvs' p, u = .int .i64 ((rows.length + 1 : Nat) : Int) ∧ Zj w' b77 [lv', .int .i64 (lnow + 1), .map (some mb')] ∧ OwO w' lv' o' 15 (rows ++ [callC ⟨t, 0, x, ⟨0, 0, 0, ⟨[], [], false⟩⟩, lnow + 1, 0⟩ p]) ∧ (∀ i, o' = some i → o = some i ∨ w.heap.size ≤ i) ∧ Yj w' mb' kvs' ∧ Ints kvs' ∧ o' ≠ some mb' ∧ mb' ≠ b77 ∧ ((.map (some mb) : Value) = .map (some mb') ∨ w.heap.size ≤ mb') := by
 obtain ⟨a0, c0, rfl⟩ := id hO.len
 have hl77 : Xo (fun i => i = b77 ∨ o = some i ∨ i = mb) w b77 := .inl (.inl rfl)
 have hlb0 := B77.lt
 have hol := fun i (hi : o = some i) => hO.lt hi
 have hX := Ext.refl (fun i => i = b77 ∨ o = some i ∨ i = mb) w
 refine calls_of_V (args := [_, _, _]) Tryz.func102 rfl rfl rfl ?_
 refine Je ?_
 refine Jk (by kernel_rfl) (ZJ ?_)
 refine ZP (by conv => lhs; whnf) rfl ?_; intro b3 w1 hb3 E1 B3
 have hn77_3 := Zn B77 hb3
 have hq3 := Zq hX hb3
 replace hX := hX.tr E1
 replace B77 := Zx B77 E1
 replace hO := hO.ext E1 (fun _ _ h => h)
 replace hM := hM.ext E1 id
 refine ZP (by conv => lhs; whnf) rfl ?_; intro b4 w2 hb4 E2 B4
 have hn77_4 := Zn B77 hb4
 have hn3_4 := Zn B3 hb4
 have hq4 := Zq hX hb4
 replace hX := hX.tr E2
 replace B77 := Zx B77 E2; replace B3 := Zx B3 E2
 replace hO := hO.ext E2 (fun _ _ h => h)
 replace hM := hM.ext E2 id
 refine ZY rfl ?_; intro b5 w3 hb5 E3 B5
 have hn77_5 := Zn B77 hb5
 have hn3_5 := Zn B3 hb5
 have hn4_5 := Zn B4 hb5
 have hq5 := Zq hX hb5
 replace hX := hX.tr E3
 replace B77 := Zx B77 E3; replace B3 := Zx B3 E3; replace B4 := Zx B4 E3
 replace hO := hO.ext E3 (fun _ _ h => h)
 replace hM := hM.ext E3 id
 refine Za ?_
 refine Zc (Je (Je ?_))
 refine Jk (by kernel_rfl) (ZJ ?_)
 refine Zb (Zi QV rfl B3 rfl) (Zb (Z9 (by kernel_rfl) rfl rfl) (Zc ?_))
 refine V_cond rfl (fun hc0 => ?_) (fun hc0 => ?_)
 ·cases hc0
 ·refine V_skip ?_
  refine Je ?_
  refine Je ?_
  refine Jk (by kernel_rfl) (ZJ ?_)
  refine Zb (Zi QV rfl B3 rfl) (Zb (Zg rfl) (Zb (Zf f_197_2 rfl) (Zb (Zi p_195 rfl B77 rfl) (Zb (rn_map_eql (by kernel_rfl) rfl rfl) (Zc ?_)))))
  refine V_cond rfl (fun hc1 => ?_) (fun hc1 => ?_)
  ·cases hc1
  ·refine V_skip ?_
   refine Je ?_
   refine V_defer (by decide) rfl ?_
   refine Je ?_
   refine Jk (by kernel_rfl) (ZJ ?_)
   obtain ⟨gn, hgn⟩ := ints_get (k := t) hI
   refine Zb (Zi QV rfl B3 rfl) (Zb (Zg rfl) (Zb (Zf Jz rfl) (Zb (Zi p_3 rfl B77 rfl) (Zb (ZX rfl rfl (by omega)) (Zb (Zg rfl) (Zb (Zf Jz rfl) ?_))))))
   have Bo := B77
   refine ZN (b := b77) p_3 rfl (by conv => lhs; whnf) rfl rfl B77 Zbl ?_; intro w4 E4 B77 hz4
   replace hX := hX.mine E4 hl77
   replace B3 := B3.ext E4 (fun h => by omega); replace B4 := B4.ext E4 (fun h => by omega); replace B5 := B5.ext E4 (fun h => by omega)
   replace hO := hO.ext E4 (fun i hi e => by have := hol i hi; have h3 : i = b77 := e; have := hob i hi; omega)
   replace hM := hM.ext E4 (fun e => by have h3 : mb = b77 := e; omega)
   refine Zc (Je ?_)
   refine Jk (by kernel_rfl) (W_drawXF (fun i => o = some i) (fun j => j == 20 || j == 21 || j == 22) mixed ?_); intro w5 E5
   replace hX := hX.tr E5
   replace B77 := Zx B77 E5; replace B3 := Zx B3 E5; replace B4 := Zx B4 E5; replace B5 := Zx B5 E5
   replace hO := hO.ext E5 (fun _ _ h => h)
   replace hM := hM.ext E5 id
   have hS := Ext.refl (fun i => o = some i) w5
   have hF77 : ¬ o = some b77 := fun h => hob _ h rfl
   have hF3 : ¬ o = some b3 := fun h => by have := hol _ h; omega
   have hF4 : ¬ o = some b4 := fun h => by have := hol _ h; omega
   have hF5 : ¬ o = some b5 := fun h => by have := hol _ h; omega
   refine Zt 0 [20, 21, 22] rfl hS (ZG fun A hA => Zi QV rfl (B3.ext hA hF3) rfl) (Zt 1 [2, 3, 4, 19, 20, 21, 22] rfl hS (ZG fun A hA => Zi QV rfl (B3.ext hA hF3) rfl) (Zt 2 [3, 4, 19, 20, 21, 22] rfl hS (Zr (Zg rfl)) (Zt 3 [4, 19, 20, 21, 22] rfl hS (Zr (Zf Jd rfl)) (Zt 4 [19, 20, 21, 22] rfl hS (ZG fun A hA => Zi p_53 rfl (B77.ext hA hF77) rfl) (Zt 5 [17, 18, 19, 20, 21, 22] rfl hS (ZG fun A hA => Zi p_3 rfl (B4.ext hA hF4) rfl) (Zt 6 [7, 8, 9, 11, 17, 18, 19, 20, 21, 22] rfl hS (ZG fun A hA => Zi QV rfl (B3.ext hA hF3) rfl) (Zt 7 [8, 9, 11, 17, 18, 19, 20, 21, 22] rfl hS (Zr (Zg rfl)) (Zt 8 [9, 11, 17, 18, 19, 20, 21, 22] rfl hS (Zr (Zf f_197_2 rfl)) ?_))))))))
   refine Zt 9 [11, 17, 18, 19, 20, 21, 22] rfl hS (ZG fun A hA => Zi p_195 rfl (B77.ext hA hF77) rfl) (Zt 10 [11, 17, 18, 19, 20, 21, 22] rfl hS (ZG fun A hA => Zi p_3 rfl (B4.ext hA hF4) rfl) (Zt 12 [17, 18, 19, 20, 21, 22] rfl hS (ZG fun A hA => ZR s_42 rfl rfl (B5.ext hA hF5)) (Zt 13 [14, 15, 16, 17, 18, 19, 20, 21, 22] rfl hS (ZG fun A hA => Zi QV rfl (B3.ext hA hF3) rfl) (Zt 14 [15, 16, 17, 18, 19, 20, 21, 22] rfl hS (Zr (Zg rfl)) (Zt 15 [16, 17, 18, 19, 20, 21, 22] rfl hS (Zr (Zf Jz rfl)) (Zt 16 [17, 18, 19, 20, 21, 22] rfl hS (ZG fun A hA => Zi p_3 rfl (B77.ext hA hF77) rfl) (Zo 11 rfl (ZK ?_))))))))
   refine Zb (rn_lookG mi_places rfl rfl (hM.ext hS (fun h => hmo h)) hgn) ?_
   refine Zc ⟨fun _ => hS, ?_⟩
   refine Zt 17 [18, 19, 20, 21, 22] rfl hS (ZG fun A hA => Z2 b_60 rfl rfl (cs := _) rfl) (Zo 18 rfl (ZK (Xz (r := callC ⟨t, 0, x, ⟨0, 0, 0, ⟨[], [], false⟩⟩, lnow + 1, 0⟩ gn) Qu rfl rfl rfl rfl Zbl ?_))); intro v44 w6 b44 hb44 E6 hO44
   replace hS := hS.tr E6
   replace hO := hO.ext E6 (fun _ _ h => h)
   refine Zc ⟨fun _ => hS, ?_⟩
   refine Zo 19 rfl (ZK (Qm Qu rfl rfl rfl hO (hO44.sl (M := Non) id) (fun r hr u hu => by simp only [List.mem_singleton] at hr; subst hr; exact Z4.one _ u hu) (by simp only [List.length_cons, List.length_nil]; omega) (by simp only [List.length_cons, List.length_nil, big]; omega) ?_)); intro v45 w7 o45 E7 O45 hf45
   obtain ⟨a45, c45, rfl⟩ := id O45.len
   have hsz := Zle hX.size hS.size
   have hml := Zlt hM.lt hS.size
   replace hS := hS.trans E7
   have ho45 : ∀ i, o45 = some i → o = some i ∨ w.heap.size ≤ i := fun i hi => (hf45 i hi).imp id (Zle hsz)
   have hne45 : ∀ i, o45 = some i → i ≠ b77 := fun i hi => by rcases ho45 i hi with h | h; exact hob i h; omega
   have hmo45 : o45 ≠ some mb := fun h => by rcases hf45 mb h with h | h; exact hmo h; omega
   refine Zc ⟨fun _ => hS, ?_⟩
   refine XK 20 _ _ rfl rfl (by kernel_rfl) (ZG fun A _ => Zg rfl) ?_
   refine XK 21 _ _ rfl rfl (by kernel_rfl) (ZG fun A _ => Zf Jd rfl) ?_
   replace hX := hX.own2 hS (fun i hi => .inl (.inr (.inl hi)))
   replace B77 := B77.ext hS hF77; replace B3 := B3.ext hS hF3; replace B4 := B4.ext hS hF4; replace B5 := B5.ext hS hF5; replace hM := hM.ext hS (fun h => hmo h)
   refine Zo 22 rfl (ZK ?_)
   have Bo := B77
   refine ZN (b := b77) p_53 rfl (by conv => lhs; whnf) rfl rfl B77 Zbl ?_; intro w8 E8 B77 hz8
   replace hX := hX.mine E8 hl77
   replace B3 := B3.ext E8 (fun h => by omega); replace B4 := B4.ext E8 (fun h => by omega); replace B5 := B5.ext E8 (fun h => by omega)
   replace hM := hM.ext E8 (fun e => by have h3 : mb = b77 := e; omega)
   replace O45 := O45.ext E8 (fun i hi e => hne45 i hi e)
   refine Zz ?_
   refine ZZ (by kernel_rfl) ?_ _
   refine Je ?_
   refine Jk (by kernel_rfl) (ZJ ?_)
   refine Zb (Zi QV rfl B3 rfl) (Zb (Zg rfl) (Zb (Zf Jd rfl) (Zb (Zi p_53 rfl B77 rfl) (Zb (Z1 Qu rfl) (Za ?_)))))
   refine Zc (V_ret ?_)
   refine ⟨_, _, rfl, zE, (begin1_ok (lnow := lnow + 1) _ (fun e => hmb e.symm) hI rfl B3 B4 B77 hM).mono fun w2 h2 => ?_⟩
   obtain ⟨E2, kvs2, hM2, hI2⟩ := h2
   exact ⟨hX.own2 E2 (fun i hi => .inl (.inr (.inr hi))), _, o45, mb, kvs2, gn, by show Value.int _ _ = _; simp, B77.ext E2 (fun e => hmb e.symm), O45.ext E2 (fun i hi e => hmo45 (by rw [hi]; exact congrArg some e)), ho45, hM2, hI2, hmo45, hmb, .inl rfl⟩
set_option maxHeartbeats 1600000 in
theorem begin_new (w : World) {b77 : Nat} {lnow : Int} {lv : Value} {o : Option Nat} {rows : List (List Value)} (hO : OwO w lv o 15 rows) (hob : ∀ i, o = some i → i ≠ b77) (h15 : ∀ r ∈ rows, ∀ u ∈ r, u.oneCell' = true) (t : Int) (x : OpD) (hn : 0 ≤ lnow ∧ lnow ≤ 1000000000) (hr : rows.length ≤ 60000) (B77 : Zj w b77 [lv, .int .i64 lnow, .map none]) : FnM Tryz.prog (fun i => i = b77 ∨ o = some i) 102 #[(Zpt b77), .int .i64 t, .agg x.enc.toArray] w fun u w' => ∃ lv' o' mb' kvs' p, u = .int .i64 ((rows.length + 1 : Nat) : Int) ∧ Zj w' b77 [lv', .int .i64 (lnow + 1), .map (some mb')] ∧ OwO w' lv' o' 15 (rows ++ [callC ⟨t, 0, x, ⟨0, 0, 0, ⟨[], [], false⟩⟩, lnow + 1, 0⟩ p]) ∧ (∀ i, o' = some i → o = some i ∨ w.heap.size ≤ i) ∧ Yj w' mb' kvs' ∧ Ints kvs' ∧ o' ≠ some mb' ∧ mb' ≠ b77 ∧ ((.map none : Value) = .map (some mb') ∨ w.heap.size ≤ mb') := by
 obtain ⟨a0, c0, rfl⟩ := id hO.len
 have hl77 : Xo (fun i => i = b77 ∨ o = some i) w b77 := .inl (.inl rfl)
 have hlb0 := B77.lt
 have hol := fun i (hi : o = some i) => hO.lt hi
 have hX := Ext.refl (fun i => i = b77 ∨ o = some i) w
 refine calls_of_V (args := [_, _, _]) Tryz.func102 rfl rfl rfl ?_
 refine Je ?_
 refine Jk (by kernel_rfl) (ZJ ?_)
 refine ZP (by conv => lhs; whnf) rfl ?_; intro b3 w1 hb3 E1 B3
 have hn77_3 := Zn B77 hb3
 have hq3 := Zq hX hb3
 replace hX := hX.tr E1
 replace B77 := Zx B77 E1
 replace hO := hO.ext E1 (fun _ _ h => h)
 refine ZP (by conv => lhs; whnf) rfl ?_; intro b4 w2 hb4 E2 B4
 have hn77_4 := Zn B77 hb4
 have hn3_4 := Zn B3 hb4
 have hq4 := Zq hX hb4
 replace hX := hX.tr E2
 replace B77 := Zx B77 E2; replace B3 := Zx B3 E2
 replace hO := hO.ext E2 (fun _ _ h => h)
 refine ZY rfl ?_; intro b5 w3 hb5 E3 B5
 have hn77_5 := Zn B77 hb5
 have hn3_5 := Zn B3 hb5
 have hn4_5 := Zn B4 hb5
 have hq5 := Zq hX hb5
 replace hX := hX.tr E3
 replace B77 := Zx B77 E3; replace B3 := Zx B3 E3; replace B4 := Zx B4 E3
 replace hO := hO.ext E3 (fun _ _ h => h)
 refine Za ?_
 refine Zc (Je (Je ?_))
 refine Jk (by kernel_rfl) (ZJ ?_)
 refine Zb (Zi QV rfl B3 rfl) (Zb (Z9 (by kernel_rfl) rfl rfl) (Zc ?_))
 refine V_cond rfl (fun hc0 => ?_) (fun hc0 => ?_)
 ·cases hc0
 ·refine V_skip ?_
  refine Je ?_
  refine Je ?_
  refine Jk (by kernel_rfl) (ZJ ?_)
  refine Zb (Zi QV rfl B3 rfl) (Zb (Zg rfl) (Zb (Zf f_197_2 rfl) (Zb (Zi p_195 rfl B77 rfl) (Zb (rn_map_eql (by kernel_rfl) rfl rfl) (Zc ?_)))))
  refine V_cond rfl (fun hc1 => ?_) (fun hc1 => ?_)
  ·refine Jk (by kernel_rfl) (ZJ ?_)
   refine Zb (Zi QV rfl B3 rfl) (wl_makeMapI ?_); intro mb w4 hmb0 E4 hM
   have hmq : w.heap.size ≤ mb := Zle hX.size hmb0
   have hmb : mb ≠ b77 := by omega
   have hmo : o ≠ some mb := fun h => by have := hol _ h; omega
   have hmo2 : ∀ i, o = some i → i ≠ mb := fun i hi => by have := hol _ hi; omega
   have hI : Ints [] := fun p hp => by simp at hp
   replace hX := hX.tr E4
   replace B77 := Zx B77 E4; replace B3 := Zx B3 E4; replace B4 := Zx B4 E4; replace B5 := Zx B5 E4
   replace hO := hO.ext E4 (fun _ _ h => h)
   refine Zb (Zg rfl) (Zb (Zf f_197_2 rfl) ?_)
   have Bo := B77
   refine ZN (b := b77) p_195 rfl (by conv => lhs; whnf) rfl rfl B77 Zbl ?_; intro w5 E5 B77 hz5
   replace hX := hX.mine E5 hl77
   replace B3 := B3.ext E5 (fun h => by omega); replace B4 := B4.ext E5 (fun h => by omega); replace B5 := B5.ext E5 (fun h => by omega)
   replace hO := hO.ext E5 (fun i hi e => by have := hol i hi; have h3 : i = b77 := e; have := hob i hi; omega)
   replace hM := hM.ext E5 (fun e => by have h3 : mb = b77 := e; omega)
   refine Zc (Je (V_defer (by decide) rfl (Je ?_)))
   refine Jk (by kernel_rfl) (ZJ ?_)
   obtain ⟨gn, hgn⟩ := ints_get (k := t) hI
   refine Zb (Zi QV rfl B3 rfl) (Zb (Zg rfl) (Zb (Zf Jz rfl) (Zb (Zi p_3 rfl B77 rfl) (Zb (ZX rfl rfl (by omega)) (Zb (Zg rfl) (Zb (Zf Jz rfl) ?_))))))
   have Bo := B77
   refine ZN (b := b77) p_3 rfl (by conv => lhs; whnf) rfl rfl B77 Zbl ?_; intro w6 E6 B77 hz6
   replace hX := hX.mine E6 hl77
   replace B3 := B3.ext E6 (fun h => by omega); replace B4 := B4.ext E6 (fun h => by omega); replace B5 := B5.ext E6 (fun h => by omega)
   replace hO := hO.ext E6 (fun i hi e => by have := hol i hi; have h3 : i = b77 := e; have := hob i hi; omega)
   replace hM := hM.ext E6 (fun e => by have h3 : mb = b77 := e; omega)
   refine Zc (Je ?_)
   refine Jk (by kernel_rfl) (W_drawXF (fun i => o = some i) (fun j => j == 20 || j == 21 || j == 22) mixed ?_); intro w7 E7
   replace hX := hX.tr E7
   replace B77 := Zx B77 E7; replace B3 := Zx B3 E7; replace B4 := Zx B4 E7; replace B5 := Zx B5 E7
   replace hO := hO.ext E7 (fun _ _ h => h)
   replace hM := hM.ext E7 id
   have hS := Ext.refl (fun i => o = some i) w7
   have hF77 : ¬ o = some b77 := fun h => hob _ h rfl
   have hF3 : ¬ o = some b3 := fun h => by have := hol _ h; omega
   have hF4 : ¬ o = some b4 := fun h => by have := hol _ h; omega
   have hF5 : ¬ o = some b5 := fun h => by have := hol _ h; omega
   refine Zt 0 [20, 21, 22] rfl hS (ZG fun A hA => Zi QV rfl (B3.ext hA hF3) rfl) (Zt 1 [2, 3, 4, 19, 20, 21, 22] rfl hS (ZG fun A hA => Zi QV rfl (B3.ext hA hF3) rfl) (Zt 2 [3, 4, 19, 20, 21, 22] rfl hS (Zr (Zg rfl)) (Zt 3 [4, 19, 20, 21, 22] rfl hS (Zr (Zf Jd rfl)) (Zt 4 [19, 20, 21, 22] rfl hS (ZG fun A hA => Zi p_53 rfl (B77.ext hA hF77) rfl) (Zt 5 [17, 18, 19, 20, 21, 22] rfl hS (ZG fun A hA => Zi p_3 rfl (B4.ext hA hF4) rfl) (Zt 6 [7, 8, 9, 11, 17, 18, 19, 20, 21, 22] rfl hS (ZG fun A hA => Zi QV rfl (B3.ext hA hF3) rfl) (Zt 7 [8, 9, 11, 17, 18, 19, 20, 21, 22] rfl hS (Zr (Zg rfl)) (Zt 8 [9, 11, 17, 18, 19, 20, 21, 22] rfl hS (Zr (Zf f_197_2 rfl)) ?_))))))))
   refine Zt 9 [11, 17, 18, 19, 20, 21, 22] rfl hS (ZG fun A hA => Zi p_195 rfl (B77.ext hA hF77) rfl) (Zt 10 [11, 17, 18, 19, 20, 21, 22] rfl hS (ZG fun A hA => Zi p_3 rfl (B4.ext hA hF4) rfl) (Zt 12 [17, 18, 19, 20, 21, 22] rfl hS (ZG fun A hA => ZR s_42 rfl rfl (B5.ext hA hF5)) (Zt 13 [14, 15, 16, 17, 18, 19, 20, 21, 22] rfl hS (ZG fun A hA => Zi QV rfl (B3.ext hA hF3) rfl) (Zt 14 [15, 16, 17, 18, 19, 20, 21, 22] rfl hS (Zr (Zg rfl)) (Zt 15 [16, 17, 18, 19, 20, 21, 22] rfl hS (Zr (Zf Jz rfl)) (Zt 16 [17, 18, 19, 20, 21, 22] rfl hS (ZG fun A hA => Zi p_3 rfl (B77.ext hA hF77) rfl) (Zo 11 rfl (ZK ?_))))))))
   refine Zb (rn_lookG mi_places rfl rfl (hM.ext hS (fun h => hmo h)) hgn) ?_
   refine Zc ⟨fun _ => hS, ?_⟩
   refine Zt 17 [18, 19, 20, 21, 22] rfl hS (ZG fun A hA => Z2 b_60 rfl rfl (cs := _) rfl) (Zo 18 rfl (ZK (Xz (r := callC ⟨t, 0, x, ⟨0, 0, 0, ⟨[], [], false⟩⟩, lnow + 1, 0⟩ gn) Qu rfl rfl rfl rfl Zbl ?_))); intro v44 w8 b44 hb44 E8 hO44
   replace hS := hS.tr E8
   replace hO := hO.ext E8 (fun _ _ h => h)
   refine Zc ⟨fun _ => hS, ?_⟩
   refine Zo 19 rfl (ZK (Qm Qu rfl rfl rfl hO (hO44.sl (M := Non) id) (fun r hr u hu => by simp only [List.mem_singleton] at hr; subst hr; exact Z4.one _ u hu) (by simp only [List.length_cons, List.length_nil]; omega) (by simp only [List.length_cons, List.length_nil, big]; omega) ?_)); intro v45 w9 o45 E9 O45 hf45
   obtain ⟨a45, c45, rfl⟩ := id O45.len
   have hsz := Zle hX.size hS.size
   have hml := Zlt hM.lt hS.size
   replace hS := hS.trans E9
   have ho45 : ∀ i, o45 = some i → o = some i ∨ w.heap.size ≤ i := fun i hi => (hf45 i hi).imp id (Zle hsz)
   have hne45 : ∀ i, o45 = some i → i ≠ b77 := fun i hi => by rcases ho45 i hi with h | h; exact hob i h; omega
   have hmo45 : o45 ≠ some mb := fun h => by rcases hf45 mb h with h | h; exact hmo h; omega
   refine Zc ⟨fun _ => hS, ?_⟩
   refine XK 20 _ _ rfl rfl (by kernel_rfl) (ZG fun A _ => Zg rfl) ?_
   refine XK 21 _ _ rfl rfl (by kernel_rfl) (ZG fun A _ => Zf Jd rfl) ?_
   replace hX := hX.own2 hS (fun i hi => .inl (.inr hi))
   replace B77 := B77.ext hS hF77; replace B3 := B3.ext hS hF3; replace B4 := B4.ext hS hF4; replace B5 := B5.ext hS hF5; replace hM := hM.ext hS (fun h => hmo h)
   refine Zo 22 rfl (ZK ?_)
   have Bo := B77
   refine ZN (b := b77) p_53 rfl (by conv => lhs; whnf) rfl rfl B77 Zbl ?_; intro w10 E10 B77 hz10
   replace hX := hX.mine E10 hl77
   replace B3 := B3.ext E10 (fun h => by omega); replace B4 := B4.ext E10 (fun h => by omega); replace B5 := B5.ext E10 (fun h => by omega)
   replace hM := hM.ext E10 (fun e => by have h3 : mb = b77 := e; omega)
   replace O45 := O45.ext E10 (fun i hi e => hne45 i hi e)
   refine Zz ?_
   refine ZZ (by kernel_rfl) ?_ _
   refine Je ?_
   refine Jk (by kernel_rfl) (ZJ ?_)
   refine Zb (Zi QV rfl B3 rfl) (Zb (Zg rfl) (Zb (Zf Jd rfl) (Zb (Zi p_53 rfl B77 rfl) (Zb (Z1 Qu rfl) (Za ?_)))))
   refine Zc (V_ret ?_)
   refine ⟨_, _, rfl, zE, (begin1_ok (lnow := lnow + 1) _ (fun e => hmb e.symm) hI rfl B3 B4 B77 hM).mono fun w2 h2 => ?_⟩
   obtain ⟨E2, kvs2, hM2, hI2⟩ := h2
   exact ⟨hX.own2 E2 (fun i hi => .inr (by have h3 : i = mb := hi; omega)), _, o45, mb, kvs2, gn, by show Value.int _ _ = _; simp, B77.ext E2 (fun e => hmb e.symm), O45.ext E2 (fun i hi e => hmo45 (by rw [hi]; exact congrArg some e)), ho45, hM2, hI2, hmo45, hmb, .inr hmq⟩
  ·cases hc1
set_option maxHeartbeats 800000 in
theorem end_ok (w : World) {b77 eb c n : Nat} {lnow : Int} {mv : Value} {rows : List (List Value)} {spare : List Value} (hne : b77 ≠ eb) (hO : Ow w (.slice (some ⟨eb, 0, none⟩) n c) eb 15 rows spare) (hnr : n = rows.length) (B77 : Zj w b77 [.slice (some ⟨eb, 0, none⟩) n c, .int .i64 lnow, mv]) (hn : 0 ≤ lnow ∧ lnow ≤ 1000000001) (hr : rows.length ≤ 60000) {cid : Nat} {q : Z4} {p : Int} (x : Xl) (hc : 1 ≤ cid ∧ cid ≤ rows.length) (hq : rows[cid - 1]? = some (callC q p)) (hq0 : q.to_ = 0)  : FnM Tryz.prog (fun i => i = b77 ∨ i = eb) 105 #[(Zpt b77), .int .i64 (cid : Nat), .agg x.enc.toArray] w fun u w' => Zj w' b77 [.slice (some ⟨eb, 0, none⟩) n c, .int .i64 (lnow + 1), mv] ∧ Ow w' (.slice (some ⟨eb, 0, none⟩) n c) eb 15 (rows.set (cid - 1) (callC { q with ans := x, to_ := lnow + 1 } p)) spare := by
 have hci : (((cid : Nat) : Int) - 1).toNat = cid - 1 := by omega
 have hl77 : Xo (fun i => i = b77 ∨ i = eb) w b77 := .inl (.inl rfl)
 have hq2 : rows[(((cid : Nat) : Int) - 1).toNat]? = some (callC q p) := by rw [hci]; exact hq
 have heb := hO.box.lt
 have hlb := B77.lt
 have hX := Ext.refl (fun i => i = b77 ∨ i = eb) w
 refine Zfm (args := [_, _, _]) Tryz.func105 rfl rfl ?_
 refine Zs (ZY rfl ?_); intro b5 w1 hb5 E1 B5
 have hn77_5 := Zn B77 hb5
 have hq5 := Zq hX hb5
 replace hX := hX.tr E1
 replace B77 := Zx B77 E1
 replace hO := hO.ext E1 (fun h => h)
 refine Za ?_
 refine Zc (ZC (Zs (Zm ?_)))
 refine Zb (Z9 (by kernel_rfl) rfl rfl) (Zm ?_)
 refine Zu rfl rfl (Zm ?_)
 refine Zu rfl rfl (Zb (Xj rfl rfl) (Zb (ZQ rfl (by conv => lhs; whnf)) ?_))
 refine Zm ?_
 refine Z3 (d := 14) rfl (fun hg14 => ?_) (fun hg14 => ?_)
 ·exact absurd (of_decide_eq_true hg14) (by omega)
 ·refine Zu rfl (Zcb hg14) (Zm ?_)
  refine Zu rfl (Zcb hg14) (Zm ?_)
  refine Zu rfl (Zcb hg14) (Zb (Zg rfl) (Zu rfl (Zcb hg14) (Zb (Zf Jd rfl) (Zu rfl (Zcb hg14) (Zb (Zi p_53 rfl B77 rfl) (Zu rfl (Zcb hg14) (Zb (Z1 Qu rfl) (Zu rfl (Zcb hg14) ?_))))))))
  refine Zb (Ja rfl rfl) (Zb (ZQ (Zcb hg14) (by conv => lhs; whnf)) ?_)
  refine Zm ?_
  refine Z3 (d := 23) rfl (fun hg23 => ?_) (fun hg23 => ?_)
  ·exact absurd (of_decide_eq_true hg23) (by omega)
  ·refine Zu rfl (Zcb hg23) (Zm ?_)
   refine Zu rfl (Zcb hg23) (Zb (Zg rfl) (Zu rfl (Zcb hg23) (Zb (Zf Jd rfl) (Zu rfl (Zcb hg23) (Zb (Zi p_53 rfl B77 rfl) (Zu rfl (Zcb hg23) (Zm ?_)))))))
   refine Zu rfl (Zcb hg23) (Zb (QS rfl rfl (by omega)) (Zu rfl (Zcb hg23) (Zb (ZH Qu rfl rfl (by omega)) (Zu rfl (Zcb hg23) (Zb (Zf f_60_5 rfl) (Zu rfl (Zcb hg23) (Zb (Xb p_3 rfl ((hO.sl (M := Non) id).at1 hq2 rfl)) (Zu rfl (Zcb hg23) ?_))))))))
   refine Zb (X2 rfl rfl) (Zb (ZQ (Zcb hg23) (by conv => lhs; whnf)) ?_)
   refine Zc ?_
   refine ZE rfl (fun hc0 => ?_) (fun hc0 => ?_)
   ·exact absurd (of_decide_eq_true hc0) (by simp [hq0])
   ·refine ZF (Zs (Zm ?_))
    refine Zb (Zg rfl) (Zb (Zf Jz rfl) (Zb (Zi p_3 rfl B77 rfl) (Zb (ZX rfl rfl (by omega)) (Zb (Zg rfl) (Zb (Zf Jz rfl) ?_)))))
    have Bo := B77
    refine ZN (b := b77) p_3 rfl (by conv => lhs; whnf) rfl rfl B77 Zbl ?_; intro w2 E2 B77 hz2
    replace hX := hX.mine E2 hl77
    replace B5 := B5.ext E2 (fun h => by omega)
    replace hO := hO.ext E2 (fun e => by have h3 : eb = b77 := e; omega)
    refine Zc (Zs (Zm ?_))
    refine Zb (Zg rfl) (Zb (Zf Jd rfl) (Zb (Zi p_53 rfl B77 rfl) (Zm ?_)))
    refine Zb (QS rfl rfl (by omega)) (Zb (ZH Qu rfl rfl (by omega)) (Za ?_))
    refine Zc (ZC (QQ (fun i => i = eb) mixed ?_)); intro w3 E3
    replace hX := hX.tr E3
    replace B77 := Zx B77 E3; replace B5 := Zx B5 E3
    replace hO := hO.ext E3 (fun h => h)
    have hS := Ext.refl (fun i => i = eb) w3
    refine Zd 0 rfl hS Zy ?_
    refine Zd 1 rfl hS Zy ?_
    refine Zd 2 rfl hS Zy ?_
    refine Zd 3 rfl hS (Zr (Zg rfl)) (Zd 4 rfl hS (Zr (Zf Jz rfl)) (Zd 5 rfl hS (ZG fun A hA => Zi p_3 rfl (B77.ext hA (fun e => by omega)) rfl) (Zd 6 rfl hS (ZG fun A hA => ZR s_37 rfl rfl (B5.ext hA (fun e => by omega))) (Zd 7 rfl hS (Zr (Zg rfl)) (Zd 8 rfl hS (Zr (Zf f_60_5 rfl)) (Zp 9 rfl (ZK (X6 (u := .int .i64 (lnow + 1)) (d := 14) (i := cid - 1) (r := callC q p) p_3.2 rfl (by simp only [hci, XF, Nat.zero_add]) rfl (J1 rfl) hO (hq) Zbl ?_)))))))); intro w4 E4 hz4 hO
    replace hS := hS.trans E4
    refine Zc ⟨hS, ?_⟩
    refine Zd 10 rfl hS (Zr (Zg rfl)) (Zd 11 rfl hS (Zr (Zf f_60_3 rfl)) (Zp 12 rfl (ZK ?_)))
    refine X6 (u := .agg x.enc.toArray) (d := 7) (i := cid - 1) (r := callC { q with to_ := lnow + 1 } p) s_37.2 rfl (by simp only [hci, XF, Nat.zero_add]) rfl (Xl.one x) hO (by rw [List.getElem?_set_self (by omega)]; rfl) Zbl ?_; intro w5 E5 hz5 hO
    replace hS := hS.trans E5
    rw [List.set_set] at hO
    refine Zc ⟨hS, ?_⟩
    refine Xw (by kernel_rfl) ?_ _
    replace hX := hX.own2 hS (fun i hi => .inl (.inr hi))
    replace B77 := B77.ext hS (fun h => hne h)
    refine Zs (Za ?_)
    refine Zc (ZB ?_)
    exact ⟨_, ZD (Zh rfl), hX, ⟨B77, hO⟩⟩
section
section
variable {L : Lay} {G : Tg} {w : World} {s : St} {me : Nat}
theorem lift {P : Program} {M : Nat → Prop} {R : Value → World → Prop} {R' : Value → Tg → World → Prop} {f : FuncId} {args : Array Value} {t u : Nat} (h : FnM P M f args w R) (hM : ∀ i, M i → G i = t) (ht : 1 ≤ t ∧ t ≤ 7) (hu : u ≤ 7)
  (k : ∀ v w', Ext M w w' → R v w' → ZV (fun x => x ≠ t) G w (gx G w.heap.size fun _ => u) w' → R' v (gx G w.heap.size fun _ => u) w') : FnM P (Wr me G) f args w fun v w' => ∃ G', Tgs me G w G' w' ∧ ZV (MyT me) G w G' w' ∧ R' v G' w' :=
 Calls.mono h fun e w' hx => by
  obtain ⟨v, rfl, hE, hR⟩ := hx
  obtain ⟨h1, h2, h3, h4⟩ := part_eff (me := me) hE hM ht u hu
  exact ⟨v, rfl, h2, _, h1, h4, k v w' hE hR h3⟩
def lvf (L : Lay) (i : Int) : Value := .pointer (some ⟨L.lk, i.toNat * 3, none⟩)
theorem at_co (hM : FrzM L G w) {i : Int} (hi : 0 ≤ i ∧ i < 12) : Fn Tryz.prog 68 #[pt L.gp, .int .i64 i] w fun u _ => u = lvf L i := by
 refine (gat_ok w hM.grp.1 hi).mono fun u w' _ h => ?_
 rw [h]; show Value.pointer (some _) = Value.pointer (some _); rw [XF, Nat.zero_add]
theorem LkM.cells {b : Nat} {own : List Int} (h : LkM b own G w) {i : Int} {x : Int} (hx : own[i.toNat]? = some x) : ∃ cs n k, Bx 3 G w b cs ∧ cs[i.toNat * 3]? = some (.int .i64 x) ∧ cs[i.toNat * 3 + 1]? = some (.int .i64 n) ∧ cs[i.toNat * 3 + 2]? = some (.int .i64 k) ∧ cs.length = 36 ∧
  ∀ j y, own[j]? = some y → cs[3 * j]? = some (.int .i64 y) ∧ (∃ n, cs[3 * j + 1]? = some (.int .i64 n)) ∧ ∃ n, cs[3 * j + 2]? = some (.int .i64 n) := by
 obtain ⟨⟨cs, h1, h2, h3⟩, h4⟩ := h
 obtain ⟨k1, ⟨n, k2⟩, ⟨k, k3⟩⟩ := h3 _ _ hx
 rw [Nat.mul_comm] at k1 k2 k3
 exact ⟨cs, n, k, h1, k1, k2, k3, h2, h3⟩
theorem set_cells {own : List Int} {cs : List Value} {i : Nat} {v n k : Int} (hi : i < own.length) (hl : cs.length = 3 * own.length) (h : ∀ j y, own[j]? = some y → cs[3 * j]? = some (.int .i64 y) ∧ (∃ n, cs[3 * j + 1]? = some (.int .i64 n)) ∧ ∃ n, cs[3 * j + 2]? = some (.int .i64 n)) :
  ∀ j x, (own.set i v)[j]? = some x → (((cs.set (i * 3 + 1) (.int .i64 n)).set (i * 3) (.int .i64 v)).set (i * 3 + 2) (.int .i64 k))[3 * j]? = some (.int .i64 x) ∧ (∃ n', (((cs.set (i * 3 + 1) (.int .i64 n)).set (i * 3) (.int .i64 v)).set (i * 3 + 2) (.int .i64 k))[3 * j + 1]? = some (.int .i64 n')) ∧ ∃ n', (((cs.set (i * 3 + 1) (.int .i64 n)).set (i * 3) (.int .i64 v)).set (i * 3 + 2) (.int .i64 k))[3 * j + 2]? = some (.int .i64 n') := by
 intro j x hx
 by_cases e : i = j
 ·subst e
  rw [List.getElem?_set_self hi] at hx; cases hx
  refine ⟨?_, ⟨n, ?_⟩, ⟨k, ?_⟩⟩
  ·rw [List.getElem?_set_ne (by omega), show 3 * i = i * 3 from Nat.mul_comm _ _, List.getElem?_set_self (by rw [List.length_set]; omega)]
  ·rw [List.getElem?_set_ne (by omega), List.getElem?_set_ne (by omega), show 3 * i + 1 = i * 3 + 1 from by omega, List.getElem?_set_self (by omega)]
  ·rw [show 3 * i + 2 = i * 3 + 2 from by omega, List.getElem?_set_self (by simp only [List.length_set]; omega)]
 ·rw [List.getElem?_set_ne e] at hx
  obtain ⟨h1, ⟨n1, h2⟩, ⟨n2, h3⟩⟩ := h j x hx
  refine ⟨?_, ⟨n1, ?_⟩, ⟨n2, ?_⟩⟩ <;> (rw [List.getElem?_set_ne (by omega), List.getElem?_set_ne (by omega), List.getElem?_set_ne (by omega)]; assumption)
theorem set_cells0 {own : List Int} {cs : List Value} {i : Nat} {n : Int} (hi : i < own.length) (hl : cs.length = 3 * own.length) (h : ∀ j y, own[j]? = some y → cs[3 * j]? = some (.int .i64 y) ∧ (∃ n, cs[3 * j + 1]? = some (.int .i64 n)) ∧ ∃ n, cs[3 * j + 2]? = some (.int .i64 n)) :
  ∀ j x, own[j]? = some x → (cs.set (i * 3 + 1) (.int .i64 n))[3 * j]? = some (.int .i64 x) ∧ (∃ n', (cs.set (i * 3 + 1) (.int .i64 n))[3 * j + 1]? = some (.int .i64 n')) ∧ ∃ n', (cs.set (i * 3 + 1) (.int .i64 n))[3 * j + 2]? = some (.int .i64 n') := by
 intro j x hx
 obtain ⟨h1, ⟨n1, h2⟩, ⟨n2, h3⟩⟩ := h j x hx
 refine ⟨?_, ?_, ⟨n2, ?_⟩⟩
 ·rw [List.getElem?_set_ne (by omega)]; exact h1
 ·by_cases e : i = j
  ·subst e; exact ⟨n, by rw [show 3 * i + 1 = i * 3 + 1 from by omega, List.getElem?_set_self (by omega)]⟩
  ·exact ⟨n1, by rw [List.getElem?_set_ne (by omega)]; exact h2⟩
 ·rw [List.getElem?_set_ne (by omega)]; exact h3
theorem set_cells1 {own : List Int} {cs : List Value} {i : Nat} {v n : Int} (hi : i < own.length) (hl : cs.length = 3 * own.length) (h : ∀ j y, own[j]? = some y → cs[3 * j]? = some (.int .i64 y) ∧ (∃ n, cs[3 * j + 1]? = some (.int .i64 n)) ∧ ∃ n, cs[3 * j + 2]? = some (.int .i64 n)) :
  ∀ j x, (own.set i v)[j]? = some x → ((cs.set (i * 3 + 1) (.int .i64 n)).set (i * 3) (.int .i64 v))[3 * j]? = some (.int .i64 x) ∧ (∃ n', ((cs.set (i * 3 + 1) (.int .i64 n)).set (i * 3) (.int .i64 v))[3 * j + 1]? = some (.int .i64 n')) ∧ ∃ n', ((cs.set (i * 3 + 1) (.int .i64 n)).set (i * 3) (.int .i64 v))[3 * j + 2]? = some (.int .i64 n') := by
 intro j x hx
 obtain ⟨k, hk⟩ : ∃ k, own[i]? = some k := ⟨_, List.getElem?_eq_getElem hi⟩
 obtain ⟨_, _, ⟨n2, h3⟩⟩ := h i k hk
 have := set_cells (k := n2) (n := n) (v := v) hi hl h j x hx
 rw [show ((cs.set (i * 3 + 1) (.int .i64 n)).set (i * 3) (.int .i64 v)).set (i * 3 + 2) (.int .i64 n2) = (cs.set (i * 3 + 1) (.int .i64 n)).set (i * 3) (.int .i64 v) from ?_] at this
 ·exact this
 ·apply List.ext_getElem?; intro q
  by_cases e : i * 3 + 2 = q
  ·subst e
   rw [List.getElem?_set_self (by simp only [List.length_set]; omega), List.getElem?_set_ne (by omega), List.getElem?_set_ne (by omega), show i * 3 + 2 = 3 * i + 2 from by omega, h3]
  ·rw [List.getElem?_set_ne e]
theorem CoM.lkT (hM : CoM L G w s) {G' : Tg} {w' : World} {own : List Int} (hS : ZV (fun x => x ≠ 3) G w G' w') (h : LkM L.lk own G' w') : CoM L G' w' { s with own := own } :=
 ⟨hM.frz.same hS (by decide), h, hM.ep.same hS (by decide) (by decide), hM.pl.same hS (by decide) (by decide), hM.rt.same hS (by decide), hM.k0.same hS (by decide) (by decide), hM.k1.same hS (by decide) (by decide), hM.k2.same hS (by decide) (by decide), hM.k3.same hS (by decide) (by decide), hM.rg.same hS (by decide), hM.lg.same hS (by decide)⟩
theorem try_co {i : Int} (hi : 0 ≤ i ∧ i < 12) {o : Int} (ho : 1 ≤ o) : TryM (coY L) me (lvf L i) o (St.lockB i) (St.lock o i) G w := by
 refine ⟨rfl, rfl, fun G' w' s hS hM => ?_⟩
 have hM : CoM L G' w' s := hM
 obtain ⟨x, hx⟩ : ∃ x, s.own[i.toNat]? = some x := ⟨_, List.getElem?_eq_getElem (by have := hM.lk.len; omega)⟩
 obtain ⟨cs, n, k, h1, h2, h3, h4, h5, h6⟩ := hM.lk.cells hx
 have hl := hM.lk.len
 refine (lift (me := me) (t := 3) (u := 0) (R' := fun v G1 w1 => v = .bool (St.lockB i s) ∧ CoM L G1 w1 (if St.lockB i s = true then St.lock o i s else s)) (try_ok w' h2 h3 h4 o ho h1.1) (fun j hj => by rw [hj]; exact h1.2) (by decide) (by decide) ?_).mono ?_
 ·rintro v w1 hE ⟨rfl, hB⟩ S1
  have hB' := fun cs' (h : Zj w1 L.lk cs') => (⟨h, (Xf h1.lt).trans h1.2⟩ : Bx 3 (gx G' w'.heap.size fun _ => 0) w1 L.lk cs')
  by_cases h0 : x = 0
  ·have e : St.lockB i s = true := by unfold St.lockB; rw [hx, h0]; simp
   rw [if_pos h0] at hB
   refine ⟨by rw [e, decide_eq_true h0], ?_⟩
   rw [if_pos e]
   exact hM.lkT S1 ⟨⟨_, hB' _ hB, by simp only [List.length_set]; exact h5, set_cells (by omega) (by omega) h6⟩, by rw [List.length_set]; exact hl⟩
  ·have e : St.lockB i s = false := by unfold St.lockB; rw [hx]; simpa using h0
   rw [if_neg h0] at hB
   refine ⟨by rw [e, decide_eq_false h0], ?_⟩
   rw [if_neg (by rw [e]; simp)]
   exact hM.lkT S1 ⟨⟨_, hB' _ hB, by simp only [List.length_set]; exact h5, set_cells0 (by omega) (by omega) h6⟩, hl⟩
 ·rintro v w1 hE ⟨G1, t1, t2, rfl, t3⟩
  exact ⟨rfl, G1, t1, t2, t3⟩
theorem free_co {i : Int} (hi : 0 ≤ i ∧ i < 12) {o : Int} (ho : 1 ≤ o) {G' : Tg} {w' : World} (hM : CoM L G' w' s) : FnM Tryz.prog (Wr me G') 246 #[lvf L i, .int .i64 o] w' fun _ w1 => ∃ G1, Tgs me G' w' G1 w1 ∧ ZV (MyT me) G' w' G1 w1 ∧ CoM L G1 w1 (St.unlock o i s) := by
 obtain ⟨x, hx⟩ : ∃ x, s.own[i.toNat]? = some x := ⟨_, List.getElem?_eq_getElem (by have := hM.lk.len; omega)⟩
 obtain ⟨cs, n, k, h1, h2, h3, h4, h5, h6⟩ := hM.lk.cells hx
 have hl := hM.lk.len
 refine lift (me := me) (t := 3) (u := 0) (R' := fun v G1 w1 => CoM L G1 w1 (St.unlock o i s)) (lfree_ok w' h2 h3 o ho h1.1) (fun j hj => by rw [hj]; exact h1.2) (by decide) (by decide) ?_
 intro v w1 hE hB S1
 have hB' := fun cs' (h : Zj w1 L.lk cs') => (⟨h, (Xf h1.lt).trans h1.2⟩ : Bx 3 (gx G' w'.heap.size fun _ => 0) w1 L.lk cs')
 unfold St.unlock
 by_cases h0 : x = o
 ·rw [if_pos h0] at hB
  rw [if_pos (by rw [hx, h0])]
  exact hM.lkT S1 ⟨⟨_, hB' _ hB, by simp only [List.length_set]; exact h5, set_cells1 (by omega) (by omega) h6⟩, by rw [List.length_set]; exact hl⟩
 ·rw [if_neg h0] at hB
  rw [if_neg (by rw [hx]; simpa using h0)]
  exact hM.lkT S1 ⟨⟨_, hB' _ hB, by simp only [List.length_set]; exact h5, set_cells0 (by omega) (by omega) h6⟩, hl⟩
theorem grp_co (hM : FrzM L G w) {l : List Int} (hl : ∀ i ∈ l, 0 ≤ i ∧ i < 12) {o : Int} (ho : 1 ≤ o) : GrpM (coY L) me (pt L.gp) (lvf L) o St.lockB (St.lock o) l G w :=
 ⟨rfl, rfl, fun i hi => ⟨try_co (hl i hi) ho, fun G' w' hS => at_co (hM.same hS (.inl rfl)) (hl i hi)⟩⟩
theorem freeM_co (hM : FrzM L G w) {l : List Int} (hl : ∀ i ∈ l, 0 ≤ i ∧ i < 12) {o : Int} (ho : 1 ≤ o) : FreeM (coY L) me (pt L.gp) (lvf L) o (St.unlock o) l G w :=
 ⟨rfl, rfl, fun i hi => ⟨rfl, fun G' w' hS => at_co (hM.same hS (.inl rfl)) (hl i hi), fun G' w' s hS hM' => free_co (hl i hi) ho hM'⟩⟩
end
end
end Go.Proofs.YtjklgohpminefaaGreatDoorC
