/- Tries: changing, adding. -/
import Derived.Test.YtjklgohpminefaaGreatDoorBunQ11
import Derived.Test.YtjklgohpminefaaGreatDoorBunQ9
import Derived.Test.YtjklgohpminefaaGreatDoorBunQ3
import Derived.Test.YtjklgohpminefaaGreatDoorBunQ10

set_option linter.unusedVariables false
set_option linter.unusedSimpArgs false
set_option maxRecDepth 1000000
namespace Go.Proofs.YtjklgohpminefaaGreatDoorC
open Go.RowKit
theorem add1_ok (w : World) (t : Tr) (sub : Int) (b : Nat) {v : Value} (M : Nat → Prop) (hM : ∀ i, M i → i < w.heap.size) (ht : TrM M w t v) {n m : Nat} (hok : t.Ok n m) (hn : n ≤ 900000) (hC : Zj w b [.int .i64 sub]) : Fn Tryz.prog 161 #[v, .pointer (some ⟨b, 0, none⟩)] w fun u w' => TrM M w' (t.put [] sub) u := by
 have hX := Ext.refl Non w
 refine Zfw (args := [_, _]) Tryz.func161 rfl rfl ?_
 refine Zs (Za ?_)
 refine Zc (Zs (Zm ?_))
 refine Zb (Zi p_3 rfl (hC.ext hX id) rfl) (Zw zE rfl (nwith_ok w t M (fun i h => Zlt (hM i h) hX.size) (ht.ext hX (fun _ h => h.elim)) hok (by omega) sub) ?_); intro v6 w1 E1 R1
 replace hX := hX.tr E1
 have hW6 := R1
 refine Za ?_
 refine Zc (ZB ?_)
 exact ⟨_, ZD (Zh rfl), hX, hW6⟩
theorem change_nil (w : World) (t : Tr) {v vl : Value} (sub : Int) (b : Nat) (M : Nat → Prop) (hM : ∀ i, M i → i < w.heap.size) (ht : TrM M w t v) (hC : Zj w b [.int .i64 sub]) (hl : Sl Non w vl 1 []) {n m : Nat} (hok : t.Ok n m) (hn : n ≤ 900000) : Fn Tryz.prog 160 #[v, vl, .func (.func 161) #[] #[.pointer (some ⟨b, 0, none⟩)]] w fun u w' => TrM M w' (t.put [] sub) u := by
 obtain ⟨a, c, rfl, _⟩ := hl.len
 have hX := Ext.refl Non w
 refine Zfw (args := [_, _, _]) Tryz.func160 rfl rfl ?_
 refine Zs (Za ?_)
 refine Zc (ZC (Zs (Zm ?_)))
 refine Zb (Z1 Xq rfl) (Zb (Xc rfl rfl) (Zc ?_))
 refine ZE rfl (fun hc0 => ?_) (fun hc0 => ?_)
 ·refine Zs (Zm (Zm ?_))
  refine JE (args := [v]) (cap := #[.pointer (some ⟨b, 0, none⟩)]) rfl zE rfl (add1_ok w t sub b M (fun i h => Zlt (hM i h) hX.size) (ht.ext hX (fun _ h => h.elim)) hok hn (hC.ext hX id)) ?_; rintro _ w1 ⟨v12, rfl, E1, hW12⟩; refine ⟨_, rfl, ?_⟩
  replace hX := hX.tr E1
  refine Za ?_
  refine Zc (ZB ?_)
  exact ⟨_, ZD (Zh rfl), hX, hW12⟩
 ·exact absurd hc0 (by simp)
theorem change_cons (w : World) (t : Tr) {v vl : Value} (sub : Int) (b : Nat) (M : Nat → Prop) (hM : ∀ i, M i → i < w.heap.size) (ht : TrM M w t v) (hC : Zj w b [.int .i64 sub]) (l : Str) (ls : List Str) (hl : Sl Non w vl 1 ((l :: ls).map eS1)) {n m : Nat} (hok : t.Ok n m) (hn : n ≤ 900000) (hw : wgt (l :: ls) ≤ m) (ih : ∀ (w : World) (t : Tr) {v vl : Value} (hM : ∀ i, M i → i < w.heap.size) (ht : TrM M w t v) (hC : Zj w b [.int .i64 sub]) (hl : Sl Non w vl 1 (ls.map eS1)) {m : Nat} (hok : t.Ok n m) (hw : wgt ls ≤ m), Fn Tryz.prog 160 #[v, vl, .func (.func 161) #[] #[.pointer (some ⟨b, 0, none⟩)]] w fun u w' => TrM M w' (t.put ls sub) u) : Fn Tryz.prog 160 #[v, vl, .func (.func 161) #[] #[.pointer (some ⟨b, 0, none⟩)]] w fun u w' => TrM M w' (t.put (l :: ls) sub) u := by
 obtain ⟨⟨a, c, rfl, hc1, hc2, hc3⟩, _⟩ := id hl
 simp only [List.length_map, List.length_cons] at hl hc1 ⊢
 obtain ⟨bb, o, ea⟩ := hl.base (by simp); subst ea
 have htl : Sl Non w (.slice (if c = 1 then some ⟨bb, o, none⟩ else (some (⟨bb, o, none⟩ : Addr)).map (·.add (1 * 1))) (ls.length + 1 - 1) (c - 1)) 1 (ls.map eS1) := by
  have := hl.cut (l := 1) (h := ls.length + 1) (m := c) (by omega) (by omega) (by omega) (by omega)
  have e : (((l :: ls).map eS1).drop 1).take (ls.length + 1 - 1) = ls.map eS1 := by simp [List.take_of_length_le]
  rw [e] at this; exact this
 have hwl : wgt ls ≤ m - (l.length + 1) := by simp only [wgt] at hw; omega
 have hX := Ext.refl Non w
 refine Zfw (args := [_, _, _]) Tryz.func160 rfl rfl ?_
 refine Zs (Za ?_)
 refine Zc (ZC (Zs (Zm ?_)))
 refine Zb (Z1 Xq rfl) (Zb (Xc rfl rfl) (Zc ?_))
 refine ZE rfl (fun hc0 => ?_) (fun hc0 => ?_)
 ·exact absurd (of_decide_eq_true hc0) (by omega)
 ·refine ZF (ZC (Qq mixed ?_)); intro w1 E1
  replace hX := hX.tr E1
  have hS := Ext.refl Non w1
  refine Zd 0 rfl hS Zy ?_
  refine Zd 1 rfl hS Zy ?_
  refine Zd 2 rfl hS (ZG fun A hA => ZH Xq rfl rfl (by omega)) (Zd 3 rfl hS (ZG fun A hA => Xb p_9 rfl (((hl.ext hX (fun _ h => h)).ext hA (fun _ h => h.elim)).at0 (eS_at (i := 0) (x := l) rfl) rfl)) ?_)
  refine Zd 4 rfl hS Zy ?_
  refine Zd 5 rfl hS Zy ?_
  refine Zd 6 rfl hS (ZG fun A hA => ZH Xq rfl rfl (by omega)) (Zd 7 rfl hS (ZG fun A hA => Xb p_9 rfl (((hl.ext hX (fun _ h => h)).ext hA (fun _ h => h.elim)).at0 (eS_at (i := 0) (x := l) rfl) rfl)) ?_)
  refine Zd 9 rfl hS Zy ?_
  refine Zd 10 rfl hS (ZG fun A hA => Xs Xq (l := 1) (h := (ls.length + 1)) (m := c) rfl ⟨_, rfl⟩ rfl rfl (by simp) (by omega) (by omega) (by omega)) ?_
  refine Zd 11 rfl hS Zy ?_
  refine Zp 8 rfl (ZK (Zw zE rfl (Jl w1 t M (fun i h => Zlt (hM i h) (hX.tr hS).size) (ht.ext (hX.tr hS) (fun _ h => h.elim)) hok (by omega) l) ?_)); intro v21 w2 E2 R2
  replace hS := hS.tr E2
  have K21 := R2
  refine Zc ⟨hS, ?_⟩
  refine Zp 12 rfl (ZK (Zw zE rfl (ih w2 (t.kid l) (fun i h => Zlt (hM i h) (hX.tr hS).size) K21 (hC.ext (hX.tr hS) id) (htl.ext (hX.tr hS) (fun _ h => h)) (hok.kid l) hwl) ?_)); intro v25 w3 E3 R3
  replace hS := hS.tr E3
  replace K21 := K21.ext E3 (fun _ h => h.elim)
  have hP25 := R3
  refine Zc ⟨hS, ?_⟩
  refine Zp 13 rfl (ZK (Zw zE rfl (nwithkid_ok w3 t M (fun i h => Zlt (hM i h) (hX.tr hS).size) (ht.ext (hX.tr hS) (fun _ h => h.elim)) hok (by omega) l ((t.kid l).put ls sub) hP25 (Tr.Ok.put sub ls (hok.kid l) hwl) (by omega) (put_ne sub ls _)) ?_)); intro v26 w4 E4 R4
  replace hS := hS.tr E4
  replace K21 := K21.ext E4 (fun _ h => h.elim)
  replace hP25 := hP25.ext E4 (fun _ h => h.elim)
  have hF26 := R4
  refine Zc ⟨hS, ?_⟩
  refine Zd 14 rfl hS (ZG fun A hA => Xm (by conv => lhs; whnf)) ?_
  refine Xw (by kernel_rfl) ?_ _
  replace hX := hX.tr hS
  refine ZB ?_
  exact ⟨_, ZD (Zh rfl), hX, hF26⟩
theorem change_ok (sub : Int) (b : Nat) {n : Nat} (hn : n ≤ 900000) (M : Nat → Prop) : ∀ (ls : List Str) (w : World) (t : Tr) {v vl : Value} (hM : ∀ i, M i → i < w.heap.size) (ht : TrM M w t v) (hC : Zj w b [.int .i64 sub]) (hl : Sl Non w vl 1 (ls.map eS1)) {m : Nat} (hok : t.Ok n m) (hw : wgt ls ≤ m), Fn Tryz.prog 160 #[v, vl, .func (.func 161) #[] #[.pointer (some ⟨b, 0, none⟩)]] w fun u w' => TrM M w' (t.put ls sub) u
 | [], w, t, v, vl, hM, ht, hC, hl, m, hok, hw => change_nil w t sub b M hM ht hC hl hok hn
 | l :: ls, w, t, v, vl, hM, ht, hC, hl, m, hok, hw => change_cons w t sub b M hM ht hC l ls hl hok hn hw fun w t v vl hM ht hC hl m hok hw => change_ok sub b hn M ls w t hM ht hC hl hok hw
theorem thas_ok (w : World) (t : Tr) {v : Value} (len : Int) (f : Str) (sub : Int) (hnf : f.length ≤ 1000000) (ht : TrM Non w t v) {n m : Nat} (hok : t.Ok n m) (hn : n ≤ 1000000) : Fn Tryz.prog 159 #[.agg #[v, .int .i64 len], Sv f, .int .i64 sub] w fun u w' => u = .bool (XJ f && XP ltI (Tr.go (spl 47 f) t).subs sub) := by
 obtain ⟨pa, rfl⟩ := ht.ptr
 obtain ⟨m2, hok2⟩ := Tr.Ok.go (spl 47 f) hok
 have hX := Ext.refl Non w
 refine Zfw (args := [_, _, _]) Tryz.func159 rfl rfl ?_
 refine Zs (ZY rfl ?_); intro b3 w1 hb3 E1 B3
 have hq3 := Zq hX hb3
 replace hX := hX.tr E1
 refine Za ?_
 refine Zc (ZC (Z5 (fun j => false) mixed ?_)); intro w2 E2
 replace hX := hX.tr E2
 replace B3 := Zx B3 E2
 have hS := Ext.refl Non w2
 refine Zt 0 [1, 2, 3, 4, 5, 6, 7, 8, 9, 10, 11, 12] rfl hS Zy ?_
 refine Zo 1 rfl (ZK (Zw zE rfl (tfilter_ok w2 f hnf) ?_)); intro v8 w3 E3 R3
 replace hS := hS.tr E3
 subst R3
 refine Zc ⟨fun _ => hS, ?_⟩
 refine Zt 2 [3, 4, 5, 6, 7, 8, 9, 10, 11, 12] rfl hS Zy ?_
 refine wx_split (d := 9) rfl (fun hg9 => ?_) (fun hg9 => ?_)
 ·refine Zt 3 [4, 7, 8, 10, 11, 12] rfl hS (Z7 rfl (Zcb hg9) fun A hA => Zf f_103_0 rfl) (Zt 4 [7, 8, 10, 11, 12] rfl hS (Z7 rfl (Zcb hg9) fun A hA => Zi p_101 rfl (B3.ext hA id) rfl) (Zt 5 [6, 7, 8, 10, 11, 12] rfl hS (Z7 rfl (Zcb hg9) fun A hA => XO (by conv => lhs; whnf)) ?_))
  refine Zt 9 [10, 11, 12] rfl hS (Z7 rfl (Zcb hg9) fun A hA => XO (by conv => lhs; whnf)) ?_
  refine Zo 6 rfl (s1_yes rfl (Zcb hg9) (Zw zE rfl (levels_ok w3 f hnf) ?_)); intro v13 w4 E4 R4
  replace hS := hS.tr E4
  have hL13 := R4
  refine Zc ⟨fun _ => hS, ?_⟩
  refine Zo 7 rfl (s1_yes rfl (Zcb hg9) (Zw zE rfl (tat_ok w4 t (spl 47 f) (ht.ext (hX.tr hS) (fun _ h => h)) hL13 hok hn) ?_)); intro v14 w5 E5 R5
  replace hS := hS.tr E5
  replace hL13 := hL13.ext E5 (fun _ h => h)
  have hT14 := R5
  refine Zc ⟨fun _ => hS, ?_⟩
  refine Zo 8 rfl (s1_yes rfl (Zcb hg9) (Zw zE rfl (JM w5 _ Non hT14) ?_)); intro v15 w6 E6 R6
  replace hS := hS.tr E6
  replace hL13 := hL13.ext E6 (fun _ h => h)
  replace hT14 := hT14.ext E6 (fun _ h => h)
  have hS15 := R6
  refine Zc ⟨fun _ => hS, ?_⟩
  refine Zo 10 rfl (s1_yes rfl (Zcb hg9) (Zw zE rfl (has_ok w6 _ hS15 sub hok2.s (by have := hok2.sl; omega)) ?_)); intro v17 w7 E7 R7
  replace hS := hS.tr E7
  replace hL13 := hL13.ext E7 (fun _ h => h)
  replace hT14 := hT14.ext E7 (fun _ h => h)
  replace hS15 := hS15.ext E7 (fun _ h => h)
  subst R7
  refine Zc ⟨fun _ => hS, ?_⟩
  refine Zt 11 [12] rfl hS (ZG fun A hA => Z8 (Zcb hg9) (by conv => lhs; whnf)) ?_
  refine Zt 12 [] rfl hS (ZG fun A hA => Xm (by conv => lhs; whnf)) ?_
  refine ZZ (by kernel_rfl) ?_ _
  replace hX := hX.tr hS
  replace B3 := Zx B3 hS
  refine ZB ?_
  exact ⟨_, ZD (Zh rfl), hX, by rw [hg9]; rfl⟩
 ·refine Zt 3 [4, 7, 8, 10, 11, 12] rfl hS (Qt rfl (Zcb hg9)) (Zt 4 [7, 8, 10, 11, 12] rfl hS (Qt rfl (Zcb hg9)) (Zt 5 [6, 7, 8, 10, 11, 12] rfl hS (Qt rfl (Zcb hg9)) (Zt 9 [10, 11, 12] rfl hS (Qt rfl (Zcb hg9)) (Zo 6 rfl ?_))))
  refine s1_no rfl (Zcb hg9) ⟨fun _ => hS, ?_⟩
  refine Zo 7 rfl ?_
  refine s1_no rfl (Zcb hg9) ⟨fun _ => hS, ?_⟩
  refine Zo 8 rfl ?_
  refine s1_no rfl (Zcb hg9) ⟨fun _ => hS, ?_⟩
  refine Zo 10 rfl ?_
  refine s1_no rfl (Zcb hg9) ⟨fun _ => hS, ?_⟩
  refine Zt 11 [12] rfl hS (ZG fun A hA => ZQ (Zcb hg9) (by conv => lhs; whnf)) ?_
  refine Zt 12 [] rfl hS (ZG fun A hA => Xm (by conv => lhs; whnf)) ?_
  refine ZZ (by kernel_rfl) ?_ _
  replace hX := hX.tr hS
  replace B3 := Zx B3 hS
  refine ZB ?_
  exact ⟨_, ZD (Zh rfl), hX, by rw [hg9]; rfl⟩
set_option maxHeartbeats 1600000 in
theorem tadd_ok (w : World) (t : Tr) {v : Value} (len : Int) (f : Str) (sub : Int) (hnf : f.length ≤ 1000000) (M : Nat → Prop) (hM : ∀ i, M i → i < w.heap.size) (ht : TrM M w t v) {n m : Nat} (hok : t.Ok n m) (hn : n ≤ 900000) (hfm : f.length + 1 ≤ m) (hfil : XJ f = true) (hnew : XP ltI (Tr.go (spl 47 f) t).subs sub = false) (hlen : 0 ≤ len ∧ len ≤ 1000000) : Fn Tryz.prog 89 #[.agg #[v, .int .i64 len], Sv f, .int .i64 sub] w fun u w' => ∃ p : Value, u = .tuple #[.agg #[p, .int .i64 (len + 1)], .int .i64 0] ∧ TrM M w' (t.put (spl 47 f) sub) p := by
 obtain ⟨pa, rfl⟩ := ht.ptr
 have hX := Ext.refl Non w
 refine Zfw (args := [_, _, _]) Tryz.func89 rfl rfl ?_
 refine Zs (ZY rfl ?_); intro b3 w1 hb3 E1 B3
 have hq3 := Zq hX hb3
 replace hX := hX.tr E1
 refine ZP (by conv => lhs; whnf) rfl ?_; intro b5 w2 hb5 E2 B5
 have hn3_5 := Zn B3 hb5
 have hq5 := Zq hX hb5
 replace hX := hX.tr E2
 replace B3 := Zx B3 E2
 refine ZT z_103 ?_; intro b6 w3 hb6 E3 B6
 have hn3_6 := Zn B3 hb6
 have hn5_6 := Zn B5 hb6
 have hq6 := Zq hX hb6
 have hl6 := Zl hX hb6
 replace hX := hX.tr E3
 replace B3 := Zx B3 E3; replace B5 := Zx B5 E3
 refine Za ?_
 refine Zc (ZC (ZO (Zs (Zm ?_))))
 refine Zw zE rfl (tfilter_ok w3 f hnf) ?_; intro v10 w4 E4 R4
 replace hX := hX.tr E4
 replace B3 := Zx B3 E4; replace B5 := Zx B5 E4; replace B6 := Zx B6 E4
 subst R4
 refine Zb (Xy rfl) (Za ?_)
 refine Zc ?_
 refine ZE rfl (fun hc0 => ?_) (fun hc0 => ?_)
 ·exact absurd hc0 (by rw [hfil]; simp)
 ·refine Zs (Zb (ZR QF rfl rfl B3) (Zm ?_))
  refine Zb (Zi p_3 rfl B5 rfl) (Zw zE rfl (thas_ok w4 t len f sub hnf ((ht.ext hX (fun _ h => h.elim)).sub (fun _ h _ => h.elim)) hok (by omega)) ?_); intro v17 w5 E5 R5
  replace hX := hX.tr E5
  replace B3 := Zx B3 E5; replace B5 := Zx B5 E5; replace B6 := Zx B6 E5
  subst R5
  refine Za ?_
  refine Zc ?_
  refine ZE rfl (fun hc1 => ?_) (fun hc1 => ?_)
  ·exact absurd hc1 (by rw [hfil, hnew]; simp)
  ·refine ZF (ZC (Z5 (fun j => j == 10 || j == 11) mixed ?_)); intro w6 E6
   replace hX := hX.tr E6
   replace B3 := Zx B3 E6; replace B5 := Zx B5 E6; replace B6 := Zx B6 E6
   have hS := Ext.refl Non w6
   refine Zt 0 [1, 5, 9, 10, 11] rfl hS (Zr (Zf f_103_0 rfl)) (Zt 1 [5, 9, 10, 11] rfl hS (Zv p_101 rfl B3 rfl) (Zt 2 [3, 5, 9, 10, 11] rfl hS Zy ?_))
   refine Zt 4 [5, 9, 10, 11] rfl hS (Zr (ZL rfl)) (Zt 6 [7, 8, 9, 10, 11] rfl hS (Zr (Zf f_103_1 rfl)) (Zt 7 [8, 9, 10, 11] rfl hS (Zv p_3 rfl B3 rfl) (Zt 8 [9, 10, 11] rfl hS (Zr (ZX rfl rfl (by omega))) (Zo 3 rfl (ZK (Zw zE rfl (levels_ok w6 f hnf) ?_)))))); intro v22 w7 E7 R7
   replace hS := hS.tr E7
   have hL22 := R7
   refine Zc ⟨fun _ => hS, ?_⟩
   refine Zo 5 rfl (ZK (Zw zE rfl (change_ok sub b5 hn (fun i => M i ∨ i = b6) (spl 47 f) w7 t (fun i h => by rcases h with h | h; exact Zlt (hM i h) (hX.tr hS).size; rw [h]; exact Zlt B6.lt hS.size) ((ht.sub (M' := fun i => M i ∨ i = b6) (fun i h hi => h.resolve_right (by omega))).ext (hX.tr hS) (fun _ h => h.elim)) (B5.ext hS id) hL22 hok (by rw [wgt_spl]; exact hfm)) ?_)); intro v24 w8 E8 hR8
   replace hS := hS.tr E8
   replace hL22 := hL22.ext E8 (fun _ h => h)
   have hT24 := hR8; obtain ⟨pb, rfl⟩ := hT24.ptr
   refine Zc ⟨fun _ => hS, ?_⟩
   refine Zt 9 [10, 11] rfl hS (ZG fun A hA => Z2 b_103 rfl rfl (cs := _) rfl) ?_
   replace hX := hX.tr hS
   replace B3 := Zx B3 hS; replace B5 := Zx B5 hS; replace B6 := Zx B6 hS
   refine Zo 10 rfl (ZK ?_)
   have Bo := B6
   refine ZS QF rfl rfl rfl (Qc rfl rfl) B6 rfl ?_; intro w9 E9 B6 hz9
   replace hX := hX.mine E9 hl6
   replace B3 := B3.ext E9 (fun h => by omega); replace B5 := B5.ext E9 (fun h => by omega)
   replace hL22 := True.intro
   replace hT24 := hT24.ext E9 (fun i e => .inr e)
   refine Zz ?_
   refine Zo 11 rfl (ZK (Za ?_))
   refine Zz ?_
   refine ZZ (by kernel_rfl) ?_ _
   refine ZB ?_
   exact ⟨_, Qd (Xn QF rfl B6 rfl) (Zh rfl), hX, ⟨_, rfl, hT24.sub (fun i h _ => .inl h)⟩⟩
theorem sorted_nodup {l : List Int} (h : Xi ltI l) : l.Nodup := h.imp fun {a b} h e => by subst e; simp [ltI] at h
theorem len_sub : ∀ (l m : List Int), l.Nodup → (∀ y, y ∈ l → y ∈ m) → l.length ≤ m.length
 | [], _, _, _ => Nat.zero_le _
 | x :: l, m, hn, h => by
  have h1 := List.nodup_cons.1 hn
  have hx := h x (by simp)
  have := len_sub l (m.erase x) h1.2 fun y hy => (List.mem_erase_of_ne (fun e => h1.1 (by rw [← e]; exact hy))).2 (h y (by simp [hy]))
  have h2 := List.length_erase_of_mem hx
  have h3 := List.length_pos_of_mem hx
  simp only [List.length_cons]; omega
def mt (apart : Bool) : List Str → Bool → Tr → List Int → List Int
 | [], first, t, out => t.subs.foldl (XS ltI) (if (!first || !apart) = true then (t.kid [35]).subs.foldl (XS ltI) out else out)
 | l :: ls, first, t, out => if (!first || !apart) = true then mt apart ls false (t.kid [43]) (mt apart ls false (t.kid l) (if (!first || !apart) = true then (t.kid [35]).subs.foldl (XS ltI) out else out)) else mt apart ls false (t.kid l) (if (!first || !apart) = true then (t.kid [35]).subs.foldl (XS ltI) out else out)
theorem bare_kid (l : Str) : Tr.bare.kid l = .bare := by unfold Tr.kid; rw [if_neg]; simp [Tr.keys, XP]
theorem mt_bare (apart : Bool) : ∀ (ls : List Str) (first : Bool) (out : List Int), mt apart ls first .bare out = out
 | [], first, out => by unfold mt; rw [bare_kid]; simp [Tr.subs]
 | l :: ls, first, out => by
  unfold mt; rw [bare_kid, bare_kid, bare_kid]
  simp only [mt_bare apart ls, Tr.subs, List.foldl_nil, ite_self]
def Tr.In (U : List Int) (t : Tr) : Prop := ∀ p s, t.At p s → s ∈ U
theorem Tr.In.kid {U : List Int} {t : Tr} {n m : Nat} (h : t.In U) (hok : t.Ok n m) (l : Str) : (t.kid l).In U := fun q s hq => by
 rcases (kid_at hok l q s).1 hq with ⟨i, v, h1, h2, h3⟩ | ⟨_, h1⟩
 ·exact h (l :: q) s ⟨i, v, h1, h2, h3⟩
 ·exact absurd h1 (bare_at _ _)
theorem Tr.In.subs {U : List Int} {t : Tr} (h : t.In U) : ∀ s ∈ t.subs, s ∈ U := fun s hs => h [] s hs
theorem fold_in {U out l : List Int} (ho : Xi ltI out) (h1 : ∀ s ∈ out, s ∈ U) (h2 : ∀ s ∈ l, s ∈ U) : Xi ltI (l.foldl (XS ltI) out) ∧ ∀ s ∈ l.foldl (XS ltI) out, s ∈ U :=
 ⟨Jy l out ho, fun s hs => by rcases (foldK_mem l out ho s).1 hs with h | h; exact h1 s h; exact h2 s h⟩
theorem mt_in {U : List Int} (apart : Bool) : ∀ (ls : List Str) (first : Bool) {n m : Nat} (t : Tr) (out : List Int), t.Ok n m → t.In U → Xi ltI out → (∀ s ∈ out, s ∈ U) → Xi ltI (mt apart ls first t out) ∧ ∀ s ∈ mt apart ls first t out, s ∈ U := by
 have o1 : ∀ (first : Bool) {n m : Nat} (t : Tr) (out : List Int), t.Ok n m → t.In U → Xi ltI out → (∀ s ∈ out, s ∈ U) → Xi ltI (if (!first || !apart) = true then (t.kid [35]).subs.foldl (XS ltI) out else out) ∧ ∀ s ∈ (if (!first || !apart) = true then (t.kid [35]).subs.foldl (XS ltI) out else out), s ∈ U := by
  intro first n m t out hok hin ho hu
  split
  ·exact fold_in ho hu (hin.kid hok _).subs
  ·exact ⟨ho, hu⟩
 intro ls
 induction ls with
 | nil =>
  intro first n m t out hok hin ho hu
  unfold mt
  have h := o1 first t out hok hin ho hu
  exact fold_in h.1 h.2 hin.subs
 | cons l ls ih =>
  intro first n m t out hok hin ho hu
  unfold mt
  have h := o1 first t out hok hin ho hu
  have h2 := ih false (t.kid l) _ (hok.kid l) (hin.kid hok l) h.1 h.2
  split
  ·rename_i hw; rw [if_pos hw] at h2; exact ih false (t.kid [43]) _ (hok.kid _) (hin.kid hok _) h2.1 h2.2
  ·rename_i hw; rw [if_neg hw] at h2; exact h2
theorem in_len {U l : List Int} (h : Xi ltI l) (hu : ∀ s ∈ l, s ∈ U) : l.length ≤ U.length := len_sub l U (sorted_nodup h) hu
set_option maxHeartbeats 3200000 in
theorem mwalk_nil (w : World) (t : Tr) (first apart : Bool) (out U : List Int) (b3 b4 b5 : Nat) (M : Nat → Prop) (h34 : b3 ≠ b4) (h54 : b5 ≠ b4) {n m : Nat} {v vl x1 x2 : Value} (hn : n ≤ 1000) (hU : U.length ≤ 1000) (hMw : ∀ i, M i → i < w.heap.size) (C3 : Zj w b3 [.bool apart]) (hC5 : Zj w b5 [.func (.func 132) #[] #[(Zpt b3), (Zpt b4), (Zpt b5)]]) (B4 : Zj w b4 [x1, x2]) (hO : Qa (fun i => i = b4 ∨ i = b3 ∨ i = b5 ∨ M i) w (.agg #[x1, x2]) out) (hso : Xi ltI out) (huo : ∀ s ∈ out, s ∈ U) (ht : TrM (fun i => i = b4 ∨ i = b3 ∨ i = b5 ∨ M i) w t v) (hok : t.Ok n m) (hin : t.In U) (hl : Sl (fun i => i = b4 ∨ i = b3 ∨ i = b5 ∨ M i) w vl 1 []) : FnM Tryz.prog (fun i => i = b4) 132 #[v, vl, .bool first, (Zpt b3), (Zpt b4), (Zpt b5)] w fun u w' => ∃ z1 z2, Zj w' b4 [z1, z2] ∧ Qa (fun i => i = b4 ∨ i = b3 ∨ i = b5 ∨ M i) w' (.agg #[z1, z2]) (mt apart [] first t out) := by
 obtain ⟨a, c, rfl, _⟩ := hl.len
 simp only [List.length_nil] at hl ⊢
 obtain ⟨pa, rfl⟩ := ht.ptr
 have hFw : ∀ i, (fun i => i = b4 ∨ i = b3 ∨ i = b5 ∨ M i) i → i < w.heap.size := fun i h => by rcases h with h | h | h | h; rw [h]; exact B4.lt; rw [h]; exact C3.lt; rw [h]; exact hC5.lt; exact hMw i h
 have hl4 : Xo (fun i => i = b4) w b4 := .inl rfl
 have hX := Ext.refl (fun i => i = b4) w
 refine Zfm (args := [_, _, _, _, _, _]) Tryz.func132 rfl rfl ?_
 refine ZC (Zs (Zm ?_))
 refine Zb (Z9 up_node rfl rfl) (Zc ?_)
 refine ZE rfl (fun hc0 => ?_) (fun hc0 => ?_)
 ·have hte : pa = none := by simpa using hc0
  subst hte
  have hbe : t = .bare := by cases ht; rfl
  subst hbe
  refine ZB ?_
  exact ⟨_, rfl, hX, ⟨_, _, B4, by rw [mt_bare]; exact hO⟩⟩
 ·refine ZF (Zs (Zm ?_))
  refine Zb (Xy rfl) (Zm ?_)
  refine Z3 (d := 14) rfl (fun hg14 => ?_) (fun hg14 => ?_)
  ·have hwl : (!first || !apart) = true := by rw [hg14]; rfl
   refine ZU rfl (Zcb hg14) (ZU rfl (Zcb hg14) (Zb (Z8 (Zcb hg14) (by conv => lhs; whnf)) ?_))
   refine Za ?_
   refine Zc ?_
   refine W_cut (T := List Int × Value × Value) [0, 1, 4, 5, 9] (fun ⟨out1, y1, y2⟩ => [.pointer pa, .slice a 0 c, (Zpt b4), (Zpt b5), .bool (!first || !apart)]) (fun ⟨out1, y1, y2⟩ A => (Ext (fun i => i = b4) w A) ∧ (Zj A b4 [y1, y2]) ∧ (Xo (fun i => i = b4) w b4) ∧ (out1 = (if (!first || !apart) = true then (t.kid [35]).subs.foldl (XS ltI) out else out) ∧ Qa (fun i => i = b4 ∨ i = b3 ∨ i = b5 ∨ M i) A (.agg #[y1, y2]) out1)) ?_ ?_
   ·refine Zs (Zm ?_)
    refine Zc (Qr rfl (Z5 (fun j => j == 5) mixed ?_)); intro w1 E1
    replace hX := hX.tr E1
    replace B4 := Zx B4 E1
    replace hO := hO.ext E1 (fun _ h => h.elim)
    have hS := Ext.refl Non w1
    refine Zt 0 [4, 5] rfl hS (ZG fun A hA => ZR XE rfl rfl (B4.ext hA id)) (Zt 1 [2, 3, 4, 5] rfl hS Zy ?_)
    refine Zo 2 rfl (ZK (Zw zE rfl (Jl w1 t (fun i => i = b4 ∨ i = b3 ∨ i = b5 ∨ M i) (fun i h => Zlt (hFw i h) (Zle hX.size hS.size)) (ht.ext (hX.tr hS) (fun i e => .inl e)) hok (by omega) [35]) ?_)); intro v21 w2 E2 R2
    replace hS := hS.tr E2
    have K21 := R2
    refine Zc ⟨fun _ => hS, ?_⟩
    refine Zo 3 rfl (ZK (Zw zE rfl (JM w2 _ (fun i => i = b4 ∨ i = b3 ∨ i = b5 ∨ M i) K21) ?_)); intro v22 w3 E3 R3
    replace hS := hS.tr E3
    replace K21 := K21.ext E3 (fun _ h => h.elim)
    have hS22 := R3
    refine Zc ⟨fun _ => hS, ?_⟩
    refine Zo 4 rfl (ZK (Zw zE rfl (Yg w3 out _ (fun i => i = b4 ∨ i = b3 ∨ i = b5 ∨ M i) (fun i h => Zlt (hFw i h) (Zle hX.size hS.size)) (hO.ext hS (fun _ h => h.elim)) (hS22.sub (fun _ h _ => h.elim)) hso (by have := in_len hso huo; omega) (by have := (hok.kid [35]).sl; omega)) ?_)); intro v23 w4 E4 R4
    replace hS := hS.tr E4
    replace hS22 := hS22.ext E4 (fun _ h => h.elim)
    obtain ⟨y1, y2, usy, rfl, hMy⟩ := R4
    obtain ⟨qy1, ny1, cy1, rfl⟩ := id hMy.keys.shape; obtain ⟨qy2, ny2, cy2, rfl⟩ := id hMy.vals.shape
    have hN23 : Qa (fun i => i = b4 ∨ i = b3 ∨ i = b5 ∨ M i) w4 (.agg #[.slice qy1 ny1 cy1, .slice qy2 ny2 cy2]) _ := ⟨_, _, usy, rfl, hMy⟩
    refine Zc ⟨fun _ => hS, ?_⟩
    replace hX := hX.tr hS
    replace B4 := Zx B4 hS
    refine Zo 5 rfl (ZK ?_)
    have Bo := B4
    refine ZS XE rfl rfl rfl (Qc rfl rfl) B4 rfl ?_; intro w5 E5 B4 hz5
    replace hX := hX.mine E5 hl4
    replace hN23 := hN23.ext E5 (fun i e => .inl e)
    refine Zz ?_
    refine ZZ (by kernel_rfl) ?_ _
    exact ⟨rfl, (_, _, _), ⟨rfl, rfl, rfl, rfl, (congrArg Value.bool hwl.symm), trivial⟩, ⟨hX, B4, hl4, ⟨rfl, (by rw [if_pos hwl]; exact hN23)⟩⟩⟩
   ·rintro τ1018 ⟨out1, y1, y2⟩ C118 ⟨hX, B4, hl4, hI⟩
    obtain ⟨heo, O1⟩ := hI
    obtain ⟨hs1, hu1⟩ : Xi ltI out1 ∧ ∀ s ∈ out1, s ∈ U := by by_cases hw : (!first || !apart) = true; (rw [heo, if_pos hw]; exact fold_in hso huo (hin.kid hok _).subs); (rw [heo, if_neg hw]; exact ⟨hso, huo⟩)
    obtain ⟨_, _, uso, eo, hMo⟩ := id O1; cases eo
    obtain ⟨qo1, no1, co1, rfl⟩ := id hMo.keys.shape; obtain ⟨qo2, no2, co2, rfl⟩ := id hMo.vals.shape
    refine ZC (Zs (Zm ?_))
    refine Zb (Z1 Xq rfl) (Zb (Xc rfl rfl) (Zc ?_))
    refine ZE rfl (fun hc2 => ?_) (fun hc2 => ?_)
    ·refine ZC (Z5 (fun j => j == 4) mixed ?_); intro w6 E6
     replace hX := hX.tr E6
     replace B4 := Zx B4 E6
     replace O1 := O1.ext E6 (fun _ h => h.elim)
     have hS := Ext.refl Non w6
     refine Zt 0 [3, 4] rfl hS (ZG fun A hA => ZR XE rfl rfl (B4.ext hA id)) (Zt 1 [2, 3, 4] rfl hS Zy ?_)
     refine Zo 2 rfl (ZK (Zw zE rfl (JM w6 t (fun i => i = b4 ∨ i = b3 ∨ i = b5 ∨ M i) (ht.ext (hX.tr hS) (fun i e => .inl e))) ?_)); intro v29 w7 E7 R7
     replace hS := hS.tr E7
     have hS29 := R7
     refine Zc ⟨fun _ => hS, ?_⟩
     refine Zo 3 rfl (ZK (Zw zE rfl (Yg w7 out1 _ (fun i => i = b4 ∨ i = b3 ∨ i = b5 ∨ M i) (fun i h => Zlt (hFw i h) (Zle hX.size hS.size)) (O1.ext hS (fun _ h => h.elim)) (hS29.sub (fun _ h _ => h.elim)) hs1 (by have := in_len hs1 hu1; omega) (by have := hok.sl; omega)) ?_)); intro v30 w8 E8 hR8
     replace hS := hS.tr E8
     replace hS29 := hS29.ext E8 (fun _ h => h.elim)
     obtain ⟨z1, z2, usz, rfl, hMz⟩ := hR8
     obtain ⟨qz1, nz1, cz1, rfl⟩ := id hMz.keys.shape; obtain ⟨qz2, nz2, cz2, rfl⟩ := id hMz.vals.shape
     have hN30 : Qa (fun i => i = b4 ∨ i = b3 ∨ i = b5 ∨ M i) w8 (.agg #[.slice qz1 nz1 cz1, .slice qz2 nz2 cz2]) _ := ⟨_, _, usz, rfl, hMz⟩
     refine Zc ⟨fun _ => hS, ?_⟩
     replace hX := hX.tr hS
     replace B4 := Zx B4 hS
     refine Zo 4 rfl (ZK ?_)
     have Bo := B4
     refine ZS XE rfl rfl rfl (Qc rfl rfl) B4 rfl ?_; intro w9 E9 B4 hz9
     replace hX := hX.mine E9 hl4
     replace hN30 := hN30.ext E9 (fun i e => .inl e)
     refine Zz ?_
     refine ZZ (by kernel_rfl) ?_ _
     refine ZB ?_
     exact ⟨_, rfl, hX, ⟨_, _, B4, by unfold mt; rw [← heo]; exact hN30⟩⟩
    ·exact absurd (of_decide_eq_false hc2) (by simp)
  ·refine Zu rfl (Zcb hg14) (Zb (Zi p_4 rfl (C3.ext hX (fun e => h34 e)) rfl) (Zu rfl (Zcb hg14) (Zb (Xy rfl) (Zb (ZQ (Zcb hg14) (by conv => lhs; whnf)) ?_))))
   refine Za ?_
   refine Zc ?_
   refine W_cut (T := List Int × Value × Value) [0, 1, 4, 5, 9] (fun ⟨out1, y1, y2⟩ => [.pointer pa, .slice a 0 c, (Zpt b4), (Zpt b5), .bool (!first || !apart)]) (fun ⟨out1, y1, y2⟩ A => (Ext (fun i => i = b4) w A) ∧ (Zj A b4 [y1, y2]) ∧ (Xo (fun i => i = b4) w b4) ∧ (out1 = (if (!first || !apart) = true then (t.kid [35]).subs.foldl (XS ltI) out else out) ∧ Qa (fun i => i = b4 ∨ i = b3 ∨ i = b5 ∨ M i) A (.agg #[y1, y2]) out1)) ?_ ?_
   ·refine Zs (Zm ?_)
    refine Zc ?_
    refine ZE rfl (fun hc1 => ?_) (fun hc1 => ?_)
    ·have hwl : (!first || !apart) = true := by rw [hg14, hc1]; rfl
     refine Z5 (fun j => j == 5) mixed ?_; intro w10 E10
     replace hX := hX.tr E10
     replace B4 := Zx B4 E10
     replace hO := hO.ext E10 (fun _ h => h.elim)
     have hS := Ext.refl Non w10
     refine Zt 0 [4, 5] rfl hS (ZG fun A hA => ZR XE rfl rfl (B4.ext hA id)) (Zt 1 [2, 3, 4, 5] rfl hS Zy ?_)
     refine Zo 2 rfl (ZK (Zw zE rfl (Jl w10 t (fun i => i = b4 ∨ i = b3 ∨ i = b5 ∨ M i) (fun i h => Zlt (hFw i h) (Zle hX.size hS.size)) (ht.ext (hX.tr hS) (fun i e => .inl e)) hok (by omega) [35]) ?_)); intro v21 w11 E11 hR11
     replace hS := hS.tr E11
     have K21 := hR11
     refine Zc ⟨fun _ => hS, ?_⟩
     refine Zo 3 rfl (ZK (Zw zE rfl (JM w11 _ (fun i => i = b4 ∨ i = b3 ∨ i = b5 ∨ M i) K21) ?_)); intro v22 w12 E12 hR12
     replace hS := hS.tr E12
     replace K21 := K21.ext E12 (fun _ h => h.elim)
     have hS22 := hR12
     refine Zc ⟨fun _ => hS, ?_⟩
     refine Zo 4 rfl (ZK (Zw zE rfl (Yg w12 out _ (fun i => i = b4 ∨ i = b3 ∨ i = b5 ∨ M i) (fun i h => Zlt (hFw i h) (Zle hX.size hS.size)) (hO.ext hS (fun _ h => h.elim)) (hS22.sub (fun _ h _ => h.elim)) hso (by have := in_len hso huo; omega) (by have := (hok.kid [35]).sl; omega)) ?_)); intro v23 w13 E13 hR13
     replace hS := hS.tr E13
     replace hS22 := hS22.ext E13 (fun _ h => h.elim)
     obtain ⟨y1, y2, usy, rfl, hMy⟩ := hR13
     obtain ⟨qy1, ny1, cy1, rfl⟩ := id hMy.keys.shape; obtain ⟨qy2, ny2, cy2, rfl⟩ := id hMy.vals.shape
     have hN23 : Qa (fun i => i = b4 ∨ i = b3 ∨ i = b5 ∨ M i) w13 (.agg #[.slice qy1 ny1 cy1, .slice qy2 ny2 cy2]) _ := ⟨_, _, usy, rfl, hMy⟩
     refine Zc ⟨fun _ => hS, ?_⟩
     replace hX := hX.tr hS
     replace B4 := Zx B4 hS
     refine Zo 5 rfl (ZK ?_)
     have Bo := B4
     refine ZS XE rfl rfl rfl (Qc rfl rfl) B4 rfl ?_; intro w14 E14 B4 hz14
     replace hX := hX.mine E14 hl4
     replace hN23 := hN23.ext E14 (fun i e => .inl e)
     refine Zz ?_
     refine ZZ (by kernel_rfl) ?_ _
     exact ⟨rfl, (_, _, _), ⟨rfl, rfl, rfl, rfl, (congrArg Value.bool (hc1.trans hwl.symm)), trivial⟩, ⟨hX, B4, hl4, ⟨rfl, (by rw [if_pos hwl]; exact hN23)⟩⟩⟩
    ·have hwl : (!first || !apart) = false := by rw [hg14, hc1]; rfl
     refine ZF ?_
     exact ⟨rfl, (_, _, _), ⟨rfl, rfl, rfl, rfl, (congrArg Value.bool (hc1.trans hwl.symm)), trivial⟩, ⟨hX, B4, hl4, ⟨rfl, (by rw [if_neg (by rw [hwl]; simp)]; exact hO)⟩⟩⟩
   ·rintro τ1018 ⟨out1, y1, y2⟩ C118 ⟨hX, B4, hl4, hI⟩
    obtain ⟨heo, O1⟩ := hI
    obtain ⟨hs1, hu1⟩ : Xi ltI out1 ∧ ∀ s ∈ out1, s ∈ U := by by_cases hw : (!first || !apart) = true; (rw [heo, if_pos hw]; exact fold_in hso huo (hin.kid hok _).subs); (rw [heo, if_neg hw]; exact ⟨hso, huo⟩)
    obtain ⟨_, _, uso, eo, hMo⟩ := id O1; cases eo
    obtain ⟨qo1, no1, co1, rfl⟩ := id hMo.keys.shape; obtain ⟨qo2, no2, co2, rfl⟩ := id hMo.vals.shape
    refine ZC (Zs (Zm ?_))
    refine Zb (Z1 Xq rfl) (Zb (Xc rfl rfl) (Zc ?_))
    refine ZE rfl (fun hc2 => ?_) (fun hc2 => ?_)
    ·refine ZC (Z5 (fun j => j == 4) mixed ?_); intro w15 E15
     replace hX := hX.tr E15
     replace B4 := Zx B4 E15
     replace O1 := O1.ext E15 (fun _ h => h.elim)
     have hS := Ext.refl Non w15
     refine Zt 0 [3, 4] rfl hS (ZG fun A hA => ZR XE rfl rfl (B4.ext hA id)) (Zt 1 [2, 3, 4] rfl hS Zy ?_)
     refine Zo 2 rfl (ZK (Zw zE rfl (JM w15 t (fun i => i = b4 ∨ i = b3 ∨ i = b5 ∨ M i) (ht.ext (hX.tr hS) (fun i e => .inl e))) ?_)); intro v29 w16 E16 hR16
     replace hS := hS.tr E16
     have hS29 := hR16
     refine Zc ⟨fun _ => hS, ?_⟩
     refine Zo 3 rfl (ZK (Zw zE rfl (Yg w16 out1 _ (fun i => i = b4 ∨ i = b3 ∨ i = b5 ∨ M i) (fun i h => Zlt (hFw i h) (Zle hX.size hS.size)) (O1.ext hS (fun _ h => h.elim)) (hS29.sub (fun _ h _ => h.elim)) hs1 (by have := in_len hs1 hu1; omega) (by have := hok.sl; omega)) ?_)); intro v30 w17 hE17 hR17
     replace hS := hS.tr hE17
     replace hS29 := hS29.ext hE17 (fun _ h => h.elim)
     obtain ⟨z1, z2, usz, rfl, hMz⟩ := hR17
     obtain ⟨qz1, nz1, cz1, rfl⟩ := id hMz.keys.shape; obtain ⟨qz2, nz2, cz2, rfl⟩ := id hMz.vals.shape
     have hN30 : Qa (fun i => i = b4 ∨ i = b3 ∨ i = b5 ∨ M i) w17 (.agg #[.slice qz1 nz1 cz1, .slice qz2 nz2 cz2]) _ := ⟨_, _, usz, rfl, hMz⟩
     refine Zc ⟨fun _ => hS, ?_⟩
     replace hX := hX.tr hS
     replace B4 := Zx B4 hS
     refine Zo 4 rfl (ZK ?_)
     have Bo := B4
     refine ZS XE rfl rfl rfl (Qc rfl rfl) B4 rfl ?_; intro w18 hE18 B4 hz18
     replace hX := hX.mine hE18 hl4
     replace hN30 := hN30.ext hE18 (fun i e => .inl e)
     refine Zz ?_
     refine ZZ (by kernel_rfl) ?_ _
     refine ZB ?_
     exact ⟨_, rfl, hX, ⟨_, _, B4, by unfold mt; rw [← heo]; exact hN30⟩⟩
    ·exact absurd (of_decide_eq_false hc2) (by simp)
set_option maxHeartbeats 3200000 in
theorem mwalk_cons (w : World) (t : Tr) (first apart : Bool) (out U : List Int) (b3 b4 b5 : Nat) (M : Nat → Prop) (h34 : b3 ≠ b4) (h54 : b5 ≠ b4) {n m : Nat} {v vl x1 x2 : Value} (hn : n ≤ 1000) (hU : U.length ≤ 1000) (hMw : ∀ i, M i → i < w.heap.size) (C3 : Zj w b3 [.bool apart]) (hC5 : Zj w b5 [.func (.func 132) #[] #[(Zpt b3), (Zpt b4), (Zpt b5)]]) (B4 : Zj w b4 [x1, x2]) (hO : Qa (fun i => i = b4 ∨ i = b3 ∨ i = b5 ∨ M i) w (.agg #[x1, x2]) out) (hso : Xi ltI out) (huo : ∀ s ∈ out, s ∈ U) (ht : TrM (fun i => i = b4 ∨ i = b3 ∨ i = b5 ∨ M i) w t v) (hok : t.Ok n m) (hin : t.In U) (l : Str) (ls : List Str) (hl : Sl (fun i => i = b4 ∨ i = b3 ∨ i = b5 ∨ M i) w vl 1 ((l :: ls).map eS1)) (ih : ∀ (w : World) (t : Tr) (out : List Int) {m : Nat} {v vl x1 x2 : Value} (hMw : ∀ i, M i → i < w.heap.size) (C3 : Zj w b3 [.bool apart]) (hC5 : Zj w b5 [.func (.func 132) #[] #[(Zpt b3), (Zpt b4), (Zpt b5)]]) (B4 : Zj w b4 [x1, x2]) (hO : Qa (fun i => i = b4 ∨ i = b3 ∨ i = b5 ∨ M i) w (.agg #[x1, x2]) out) (hso : Xi ltI out) (huo : ∀ s ∈ out, s ∈ U) (ht : TrM (fun i => i = b4 ∨ i = b3 ∨ i = b5 ∨ M i) w t v) (hok : t.Ok n m) (hin : t.In U) (hl : Sl (fun i => i = b4 ∨ i = b3 ∨ i = b5 ∨ M i) w vl 1 (ls.map eS1)), FnM Tryz.prog (fun i => i = b4) 132 #[v, vl, .bool false, (Zpt b3), (Zpt b4), (Zpt b5)] w fun u w' => ∃ z1 z2, Zj w' b4 [z1, z2] ∧ Qa (fun i => i = b4 ∨ i = b3 ∨ i = b5 ∨ M i) w' (.agg #[z1, z2]) (mt apart ls false t out)) : FnM Tryz.prog (fun i => i = b4) 132 #[v, vl, .bool first, (Zpt b3), (Zpt b4), (Zpt b5)] w fun u w' => ∃ z1 z2, Zj w' b4 [z1, z2] ∧ Qa (fun i => i = b4 ∨ i = b3 ∨ i = b5 ∨ M i) w' (.agg #[z1, z2]) (mt apart (l :: ls) first t out) := by
 obtain ⟨⟨a, c, rfl, hc1_, hc2_, hc3_⟩, _⟩ := id hl
 simp only [List.length_map, List.length_cons] at hl hc1_ ⊢
 obtain ⟨bb, o, ea⟩ := hl.base (by simp); subst ea
 have htl : Sl (fun i => i = b4 ∨ i = b3 ∨ i = b5 ∨ M i) w (.slice (if c = 1 then some ⟨bb, o, none⟩ else (some (⟨bb, o, none⟩ : Addr)).map (·.add (1 * 1))) (ls.length + 1 - 1) (c - 1)) 1 (ls.map eS1) := by
  have := hl.cut (l := 1) (h := ls.length + 1) (m := c) (by omega) (by omega) (by omega) (by omega)
  have e : (((l :: ls).map eS1).drop 1).take (ls.length + 1 - 1) = ls.map eS1 := by simp [List.take_of_length_le]
  rw [e] at this; exact this
 obtain ⟨pa, rfl⟩ := ht.ptr
 have hFw : ∀ i, (fun i => i = b4 ∨ i = b3 ∨ i = b5 ∨ M i) i → i < w.heap.size := fun i h => by rcases h with h | h | h | h; rw [h]; exact B4.lt; rw [h]; exact C3.lt; rw [h]; exact hC5.lt; exact hMw i h
 have hl4 : Xo (fun i => i = b4) w b4 := .inl rfl
 have hX := Ext.refl (fun i => i = b4) w
 refine Zfm (args := [_, _, _, _, _, _]) Tryz.func132 rfl rfl ?_
 refine ZC (Zs (Zm ?_))
 refine Zb (Z9 up_node rfl rfl) (Zc ?_)
 refine ZE rfl (fun hc0 => ?_) (fun hc0 => ?_)
 ·have hte : pa = none := by simpa using hc0
  subst hte
  have hbe : t = .bare := by cases ht; rfl
  subst hbe
  refine ZB ?_
  exact ⟨_, rfl, hX, ⟨_, _, B4, by rw [mt_bare]; exact hO⟩⟩
 ·refine ZF (Zs (Zm ?_))
  refine Zb (Xy rfl) (Zm ?_)
  refine Z3 (d := 14) rfl (fun hg14 => ?_) (fun hg14 => ?_)
  ·have hwl : (!first || !apart) = true := by rw [hg14]; rfl
   refine ZU rfl (Zcb hg14) (ZU rfl (Zcb hg14) (Zb (Z8 (Zcb hg14) (by conv => lhs; whnf)) ?_))
   refine Za ?_
   refine Zc ?_
   refine W_cut (T := List Int × Value × Value) [0, 1, 4, 5, 9] (fun ⟨out1, y1, y2⟩ => [.pointer pa, .slice (some ⟨bb, o, none⟩) (ls.length + 1) c, (Zpt b4), (Zpt b5), .bool (!first || !apart)]) (fun ⟨out1, y1, y2⟩ A => (Ext (fun i => i = b4) w A) ∧ (Zj A b4 [y1, y2]) ∧ (Xo (fun i => i = b4) w b4) ∧ (out1 = (if (!first || !apart) = true then (t.kid [35]).subs.foldl (XS ltI) out else out) ∧ Qa (fun i => i = b4 ∨ i = b3 ∨ i = b5 ∨ M i) A (.agg #[y1, y2]) out1)) ?_ ?_
   ·refine Zs (Zm ?_)
    refine Zc (Qr rfl (Z5 (fun j => j == 5) mixed ?_)); intro w1 E1
    replace hX := hX.tr E1
    replace B4 := Zx B4 E1
    replace hO := hO.ext E1 (fun _ h => h.elim)
    have hS := Ext.refl Non w1
    refine Zt 0 [4, 5] rfl hS (ZG fun A hA => ZR XE rfl rfl (B4.ext hA id)) (Zt 1 [2, 3, 4, 5] rfl hS Zy ?_)
    refine Zo 2 rfl (ZK (Zw zE rfl (Jl w1 t (fun i => i = b4 ∨ i = b3 ∨ i = b5 ∨ M i) (fun i h => Zlt (hFw i h) (Zle hX.size hS.size)) (ht.ext (hX.tr hS) (fun i e => .inl e)) hok (by omega) [35]) ?_)); intro v21 w2 E2 R2
    replace hS := hS.tr E2
    have K21 := R2
    refine Zc ⟨fun _ => hS, ?_⟩
    refine Zo 3 rfl (ZK (Zw zE rfl (JM w2 _ (fun i => i = b4 ∨ i = b3 ∨ i = b5 ∨ M i) K21) ?_)); intro v22 w3 E3 R3
    replace hS := hS.tr E3
    replace K21 := K21.ext E3 (fun _ h => h.elim)
    have hS22 := R3
    refine Zc ⟨fun _ => hS, ?_⟩
    refine Zo 4 rfl (ZK (Zw zE rfl (Yg w3 out _ (fun i => i = b4 ∨ i = b3 ∨ i = b5 ∨ M i) (fun i h => Zlt (hFw i h) (Zle hX.size hS.size)) (hO.ext hS (fun _ h => h.elim)) (hS22.sub (fun _ h _ => h.elim)) hso (by have := in_len hso huo; omega) (by have := (hok.kid [35]).sl; omega)) ?_)); intro v23 w4 E4 R4
    replace hS := hS.tr E4
    replace hS22 := hS22.ext E4 (fun _ h => h.elim)
    obtain ⟨y1, y2, usy, rfl, hMy⟩ := R4
    obtain ⟨qy1, ny1, cy1, rfl⟩ := id hMy.keys.shape; obtain ⟨qy2, ny2, cy2, rfl⟩ := id hMy.vals.shape
    have hN23 : Qa (fun i => i = b4 ∨ i = b3 ∨ i = b5 ∨ M i) w4 (.agg #[.slice qy1 ny1 cy1, .slice qy2 ny2 cy2]) _ := ⟨_, _, usy, rfl, hMy⟩
    refine Zc ⟨fun _ => hS, ?_⟩
    replace hX := hX.tr hS
    replace B4 := Zx B4 hS
    refine Zo 5 rfl (ZK ?_)
    have Bo := B4
    refine ZS XE rfl rfl rfl (Qc rfl rfl) B4 rfl ?_; intro w5 E5 B4 hz5
    replace hX := hX.mine E5 hl4
    replace hN23 := hN23.ext E5 (fun i e => .inl e)
    refine Zz ?_
    refine ZZ (by kernel_rfl) ?_ _
    exact ⟨rfl, (_, _, _), ⟨rfl, rfl, rfl, rfl, (congrArg Value.bool hwl.symm), trivial⟩, ⟨hX, B4, hl4, ⟨rfl, (by rw [if_pos hwl]; exact hN23)⟩⟩⟩
   ·rintro τ1018 ⟨out1, y1, y2⟩ C118 ⟨hX, B4, hl4, hI⟩
    obtain ⟨heo, O1⟩ := hI
    obtain ⟨hs1, hu1⟩ : Xi ltI out1 ∧ ∀ s ∈ out1, s ∈ U := by by_cases hw : (!first || !apart) = true; (rw [heo, if_pos hw]; exact fold_in hso huo (hin.kid hok _).subs); (rw [heo, if_neg hw]; exact ⟨hso, huo⟩)
    obtain ⟨_, _, uso, eo, hMo⟩ := id O1; cases eo
    obtain ⟨qo1, no1, co1, rfl⟩ := id hMo.keys.shape; obtain ⟨qo2, no2, co2, rfl⟩ := id hMo.vals.shape
    refine ZC (Zs (Zm ?_))
    refine Zb (Z1 Xq rfl) (Zb (Xc rfl rfl) (Zc ?_))
    refine ZE rfl (fun hc2 => ?_) (fun hc2 => ?_)
    ·exact absurd (of_decide_eq_true hc2) (by omega)
    ·refine ZF (ZC (Z5 (fun j => j == 8) mixed ?_)); intro w6 E6
     replace hX := hX.tr E6
     replace B4 := Zx B4 E6
     replace O1 := O1.ext E6 (fun _ h => h.elim)
     have hS := Ext.refl Non w6
     refine Zt 0 [8] rfl hS (ZG fun A hA => Zi p_221 rfl ((hC5.ext hX (fun e => h54 e)).ext hA id) rfl) (Zt 1 [5, 8] rfl hS Zy ?_)
     refine Zt 2 [3, 4, 5, 8] rfl hS Zy ?_
     refine Zt 3 [4, 5, 8] rfl hS (ZG fun A hA => ZH Xq rfl rfl (by omega)) (Zt 4 [5, 8] rfl hS (ZG fun A hA => Xb p_9 rfl (((hl.ext hX (fun i e => .inl e)).ext hA (fun _ h => h.elim)).at0 (eS_at (i := 0) (x := l) rfl) rfl)) ?_)
     refine Zt 6 [7, 8] rfl hS Zy ?_
     refine Zt 7 [8] rfl hS (ZG fun A hA => Xs Xq (l := 1) (h := (ls.length + 1)) (m := c) rfl ⟨_, rfl⟩ rfl rfl (by simp) (by omega) (by omega) (by omega)) ?_
     refine Zo 5 rfl (ZK (Zw zE rfl (Jl w6 t (fun i => i = b4 ∨ i = b3 ∨ i = b5 ∨ M i) (fun i h => Zlt (hFw i h) (Zle hX.size hS.size)) (ht.ext (hX.tr hS) (fun i e => .inl e)) hok (by omega) l) ?_)); intro v36 w7 E7 R7
     replace hS := hS.tr E7
     have hK36 := R7
     refine Zc ⟨fun _ => hS, ?_⟩
     replace hX := hX.tr hS
     replace B4 := Zx B4 hS
     replace O1 := O1.ext hS (fun _ h => h.elim)
     refine Zo 8 rfl (ZK ?_)
     refine JE (args := [v36, .slice (if c = 1 then some ⟨bb, o, none⟩ else (some (⟨bb, o, none⟩ : Addr)).map (·.add (1 * 1))) (ls.length + 1 - 1) (c - 1), .bool false]) (cap := #[(Zpt b3), (Zpt b4), (Zpt b5)]) rfl zE rfl (ih w7 (t.kid l) _ (fun i h => Zlt (hMw i h) hX.size) (C3.ext hX (fun e => h34 e)) (hC5.ext hX (fun e => h54 e)) B4 O1 hs1 hu1 hK36 (hok.kid _) (hin.kid hok _) (htl.ext hX (fun i e => .inl e))) ?_; rintro _ w8 ⟨v39, rfl, E8, hR8⟩; refine ⟨_, rfl, ?_⟩
     obtain ⟨z1_39, z2_39, B4, hO39⟩ := hR8
     obtain ⟨_, _, us39, eo39, hMo39⟩ := id hO39; cases eo39
     obtain ⟨qa39, na39, ca39, rfl⟩ := id hMo39.keys.shape; obtain ⟨qb39, nb39, cb39, rfl⟩ := id hMo39.vals.shape
     replace hX := hX.trans E8
     refine Zz ?_
     refine ZZ (by kernel_rfl) ?_ _
     refine Zs (Zm ?_)
     refine Zc ?_
     refine ZE rfl (fun hc3 => ?_) (fun hc3 => ?_)
     ·have hm39 := mt_in apart ls false (t.kid l) out1 (hok.kid l) (hin.kid hok l) hs1 hu1
      refine Z5 (fun j => j == 5) mixed ?_; intro w9 E9
      replace hX := hX.tr E9
      replace B4 := Zx B4 E9
      replace hO39 := hO39.ext E9 (fun _ h => h.elim)
      have hS := Ext.refl Non w9
      refine Zt 0 [5] rfl hS (ZG fun A hA => Zi p_221 rfl ((hC5.ext hX (fun e => h54 e)).ext hA id) rfl) (Zt 1 [2, 5] rfl hS Zy ?_)
      refine Zt 3 [4, 5] rfl hS Zy ?_
      refine Zt 4 [5] rfl hS (ZG fun A hA => Xs Xq (l := 1) (h := (ls.length + 1)) (m := c) rfl ⟨_, rfl⟩ rfl rfl (by simp) (by omega) (by omega) (by omega)) ?_
      refine Zo 2 rfl (ZK (Zw zE rfl (Jl w9 t (fun i => i = b4 ∨ i = b3 ∨ i = b5 ∨ M i) (fun i h => Zlt (hFw i h) (Zle hX.size hS.size)) (ht.ext (hX.tr hS) (fun i e => .inl e)) hok (by omega) [43]) ?_)); intro v43 w10 E10 hR10
      replace hS := hS.tr E10
      have hK43 := hR10
      refine Zc ⟨fun _ => hS, ?_⟩
      replace hX := hX.tr hS
      replace B4 := Zx B4 hS
      replace hO39 := hO39.ext hS (fun _ h => h.elim)
      refine Zo 5 rfl (ZK ?_)
      refine JE (args := [v43, .slice (if c = 1 then some ⟨bb, o, none⟩ else (some (⟨bb, o, none⟩ : Addr)).map (·.add (1 * 1))) (ls.length + 1 - 1) (c - 1), .bool false]) (cap := #[(Zpt b3), (Zpt b4), (Zpt b5)]) rfl zE rfl (ih w10 (t.kid [43]) _ (fun i h => Zlt (hMw i h) hX.size) (C3.ext hX (fun e => h34 e)) (hC5.ext hX (fun e => h54 e)) B4 hO39 hm39.1 hm39.2 hK43 (hok.kid _) (hin.kid hok _) (htl.ext hX (fun i e => .inl e))) ?_; rintro _ w11 ⟨v46, rfl, E11, hR11⟩; refine ⟨_, rfl, ?_⟩
      obtain ⟨z1_46, z2_46, B4, hO46⟩ := hR11
      obtain ⟨_, _, us46, eo46, hMo46⟩ := id hO46; cases eo46
      obtain ⟨qa46, na46, ca46, rfl⟩ := id hMo46.keys.shape; obtain ⟨qb46, nb46, cb46, rfl⟩ := id hMo46.vals.shape
      replace hX := hX.trans E11
      refine Zz ?_
      refine ZZ (by kernel_rfl) ?_ _
      exact ⟨_, rfl, hX, ⟨_, _, B4, by unfold mt; rw [← heo, if_pos hc3]; exact hO46⟩⟩
     ·refine ZF ?_
      exact ⟨_, rfl, hX, ⟨_, _, B4, by unfold mt; rw [← heo, if_neg (by rw [hc3]; simp)]; exact hO39⟩⟩
  ·refine Zu rfl (Zcb hg14) (Zb (Zi p_4 rfl (C3.ext hX (fun e => h34 e)) rfl) (Zu rfl (Zcb hg14) (Zb (Xy rfl) (Zb (ZQ (Zcb hg14) (by conv => lhs; whnf)) ?_))))
   refine Za ?_
   refine Zc ?_
   refine W_cut (T := List Int × Value × Value) [0, 1, 4, 5, 9] (fun ⟨out1, y1, y2⟩ => [.pointer pa, .slice (some ⟨bb, o, none⟩) (ls.length + 1) c, (Zpt b4), (Zpt b5), .bool (!first || !apart)]) (fun ⟨out1, y1, y2⟩ A => (Ext (fun i => i = b4) w A) ∧ (Zj A b4 [y1, y2]) ∧ (Xo (fun i => i = b4) w b4) ∧ (out1 = (if (!first || !apart) = true then (t.kid [35]).subs.foldl (XS ltI) out else out) ∧ Qa (fun i => i = b4 ∨ i = b3 ∨ i = b5 ∨ M i) A (.agg #[y1, y2]) out1)) ?_ ?_
   ·refine Zs (Zm ?_)
    refine Zc ?_
    refine ZE rfl (fun hc1 => ?_) (fun hc1 => ?_)
    ·have hwl : (!first || !apart) = true := by rw [hg14, hc1]; rfl
     refine Z5 (fun j => j == 5) mixed ?_; intro w12 E12
     replace hX := hX.tr E12
     replace B4 := Zx B4 E12
     replace hO := hO.ext E12 (fun _ h => h.elim)
     have hS := Ext.refl Non w12
     refine Zt 0 [4, 5] rfl hS (ZG fun A hA => ZR XE rfl rfl (B4.ext hA id)) (Zt 1 [2, 3, 4, 5] rfl hS Zy ?_)
     refine Zo 2 rfl (ZK (Zw zE rfl (Jl w12 t (fun i => i = b4 ∨ i = b3 ∨ i = b5 ∨ M i) (fun i h => Zlt (hFw i h) (Zle hX.size hS.size)) (ht.ext (hX.tr hS) (fun i e => .inl e)) hok (by omega) [35]) ?_)); intro v21 w13 E13 hR13
     replace hS := hS.tr E13
     have K21 := hR13
     refine Zc ⟨fun _ => hS, ?_⟩
     refine Zo 3 rfl (ZK (Zw zE rfl (JM w13 _ (fun i => i = b4 ∨ i = b3 ∨ i = b5 ∨ M i) K21) ?_)); intro v22 w14 E14 hR14
     replace hS := hS.tr E14
     replace K21 := K21.ext E14 (fun _ h => h.elim)
     have hS22 := hR14
     refine Zc ⟨fun _ => hS, ?_⟩
     refine Zo 4 rfl (ZK (Zw zE rfl (Yg w14 out _ (fun i => i = b4 ∨ i = b3 ∨ i = b5 ∨ M i) (fun i h => Zlt (hFw i h) (Zle hX.size hS.size)) (hO.ext hS (fun _ h => h.elim)) (hS22.sub (fun _ h _ => h.elim)) hso (by have := in_len hso huo; omega) (by have := (hok.kid [35]).sl; omega)) ?_)); intro v23 w15 E15 hR15
     replace hS := hS.tr E15
     replace hS22 := hS22.ext E15 (fun _ h => h.elim)
     obtain ⟨y1, y2, usy, rfl, hMy⟩ := hR15
     obtain ⟨qy1, ny1, cy1, rfl⟩ := id hMy.keys.shape; obtain ⟨qy2, ny2, cy2, rfl⟩ := id hMy.vals.shape
     have hN23 : Qa (fun i => i = b4 ∨ i = b3 ∨ i = b5 ∨ M i) w15 (.agg #[.slice qy1 ny1 cy1, .slice qy2 ny2 cy2]) _ := ⟨_, _, usy, rfl, hMy⟩
     refine Zc ⟨fun _ => hS, ?_⟩
     replace hX := hX.tr hS
     replace B4 := Zx B4 hS
     refine Zo 5 rfl (ZK ?_)
     have Bo := B4
     refine ZS XE rfl rfl rfl (Qc rfl rfl) B4 rfl ?_; intro w16 E16 B4 hz16
     replace hX := hX.mine E16 hl4
     replace hN23 := hN23.ext E16 (fun i e => .inl e)
     refine Zz ?_
     refine ZZ (by kernel_rfl) ?_ _
     exact ⟨rfl, (_, _, _), ⟨rfl, rfl, rfl, rfl, (congrArg Value.bool (hc1.trans hwl.symm)), trivial⟩, ⟨hX, B4, hl4, ⟨rfl, (by rw [if_pos hwl]; exact hN23)⟩⟩⟩
    ·have hwl : (!first || !apart) = false := by rw [hg14, hc1]; rfl
     refine ZF ?_
     exact ⟨rfl, (_, _, _), ⟨rfl, rfl, rfl, rfl, (congrArg Value.bool (hc1.trans hwl.symm)), trivial⟩, ⟨hX, B4, hl4, ⟨rfl, (by rw [if_neg (by rw [hwl]; simp)]; exact hO)⟩⟩⟩
   ·rintro τ1018 ⟨out1, y1, y2⟩ C118 ⟨hX, B4, hl4, hI⟩
    obtain ⟨heo, O1⟩ := hI
    obtain ⟨hs1, hu1⟩ : Xi ltI out1 ∧ ∀ s ∈ out1, s ∈ U := by by_cases hw : (!first || !apart) = true; (rw [heo, if_pos hw]; exact fold_in hso huo (hin.kid hok _).subs); (rw [heo, if_neg hw]; exact ⟨hso, huo⟩)
    obtain ⟨_, _, uso, eo, hMo⟩ := id O1; cases eo
    obtain ⟨qo1, no1, co1, rfl⟩ := id hMo.keys.shape; obtain ⟨qo2, no2, co2, rfl⟩ := id hMo.vals.shape
    refine ZC (Zs (Zm ?_))
    refine Zb (Z1 Xq rfl) (Zb (Xc rfl rfl) (Zc ?_))
    refine ZE rfl (fun hc2 => ?_) (fun hc2 => ?_)
    ·exact absurd (of_decide_eq_true hc2) (by omega)
    ·refine ZF (ZC (Z5 (fun j => j == 8) mixed ?_)); intro w17 hE17
     replace hX := hX.tr hE17
     replace B4 := Zx B4 hE17
     replace O1 := O1.ext hE17 (fun _ h => h.elim)
     have hS := Ext.refl Non w17
     refine Zt 0 [8] rfl hS (ZG fun A hA => Zi p_221 rfl ((hC5.ext hX (fun e => h54 e)).ext hA id) rfl) (Zt 1 [5, 8] rfl hS Zy ?_)
     refine Zt 2 [3, 4, 5, 8] rfl hS Zy ?_
     refine Zt 3 [4, 5, 8] rfl hS (ZG fun A hA => ZH Xq rfl rfl (by omega)) (Zt 4 [5, 8] rfl hS (ZG fun A hA => Xb p_9 rfl (((hl.ext hX (fun i e => .inl e)).ext hA (fun _ h => h.elim)).at0 (eS_at (i := 0) (x := l) rfl) rfl)) ?_)
     refine Zt 6 [7, 8] rfl hS Zy ?_
     refine Zt 7 [8] rfl hS (ZG fun A hA => Xs Xq (l := 1) (h := (ls.length + 1)) (m := c) rfl ⟨_, rfl⟩ rfl rfl (by simp) (by omega) (by omega) (by omega)) ?_
     refine Zo 5 rfl (ZK (Zw zE rfl (Jl w17 t (fun i => i = b4 ∨ i = b3 ∨ i = b5 ∨ M i) (fun i h => Zlt (hFw i h) (Zle hX.size hS.size)) (ht.ext (hX.tr hS) (fun i e => .inl e)) hok (by omega) l) ?_)); intro v36 w18 hE18 hR18
     replace hS := hS.tr hE18
     have hK36 := hR18
     refine Zc ⟨fun _ => hS, ?_⟩
     replace hX := hX.tr hS
     replace B4 := Zx B4 hS
     replace O1 := O1.ext hS (fun _ h => h.elim)
     refine Zo 8 rfl (ZK ?_)
     refine JE (args := [v36, .slice (if c = 1 then some ⟨bb, o, none⟩ else (some (⟨bb, o, none⟩ : Addr)).map (·.add (1 * 1))) (ls.length + 1 - 1) (c - 1), .bool false]) (cap := #[(Zpt b3), (Zpt b4), (Zpt b5)]) rfl zE rfl (ih w18 (t.kid l) _ (fun i h => Zlt (hMw i h) hX.size) (C3.ext hX (fun e => h34 e)) (hC5.ext hX (fun e => h54 e)) B4 O1 hs1 hu1 hK36 (hok.kid _) (hin.kid hok _) (htl.ext hX (fun i e => .inl e))) ?_; rintro _ w19 ⟨v39, rfl, hE19, hR19⟩; refine ⟨_, rfl, ?_⟩
     obtain ⟨z1_39, z2_39, B4, hO39⟩ := hR19
     obtain ⟨_, _, us39, eo39, hMo39⟩ := id hO39; cases eo39
     obtain ⟨qa39, na39, ca39, rfl⟩ := id hMo39.keys.shape; obtain ⟨qb39, nb39, cb39, rfl⟩ := id hMo39.vals.shape
     replace hX := hX.trans hE19
     refine Zz ?_
     refine ZZ (by kernel_rfl) ?_ _
     refine Zs (Zm ?_)
     refine Zc ?_
     refine ZE rfl (fun hc3 => ?_) (fun hc3 => ?_)
     ·have hm39 := mt_in apart ls false (t.kid l) out1 (hok.kid l) (hin.kid hok l) hs1 hu1
      refine Z5 (fun j => j == 5) mixed ?_; intro w20 hE20
      replace hX := hX.tr hE20
      replace B4 := Zx B4 hE20
      replace hO39 := hO39.ext hE20 (fun _ h => h.elim)
      have hS := Ext.refl Non w20
      refine Zt 0 [5] rfl hS (ZG fun A hA => Zi p_221 rfl ((hC5.ext hX (fun e => h54 e)).ext hA id) rfl) (Zt 1 [2, 5] rfl hS Zy ?_)
      refine Zt 3 [4, 5] rfl hS Zy ?_
      refine Zt 4 [5] rfl hS (ZG fun A hA => Xs Xq (l := 1) (h := (ls.length + 1)) (m := c) rfl ⟨_, rfl⟩ rfl rfl (by simp) (by omega) (by omega) (by omega)) ?_
      refine Zo 2 rfl (ZK (Zw zE rfl (Jl w20 t (fun i => i = b4 ∨ i = b3 ∨ i = b5 ∨ M i) (fun i h => Zlt (hFw i h) (Zle hX.size hS.size)) (ht.ext (hX.tr hS) (fun i e => .inl e)) hok (by omega) [43]) ?_)); intro v43 w21 hE21 hR21
      replace hS := hS.tr hE21
      have hK43 := hR21
      refine Zc ⟨fun _ => hS, ?_⟩
      replace hX := hX.tr hS
      replace B4 := Zx B4 hS
      replace hO39 := hO39.ext hS (fun _ h => h.elim)
      refine Zo 5 rfl (ZK ?_)
      refine JE (args := [v43, .slice (if c = 1 then some ⟨bb, o, none⟩ else (some (⟨bb, o, none⟩ : Addr)).map (·.add (1 * 1))) (ls.length + 1 - 1) (c - 1), .bool false]) (cap := #[(Zpt b3), (Zpt b4), (Zpt b5)]) rfl zE rfl (ih w21 (t.kid [43]) _ (fun i h => Zlt (hMw i h) hX.size) (C3.ext hX (fun e => h34 e)) (hC5.ext hX (fun e => h54 e)) B4 hO39 hm39.1 hm39.2 hK43 (hok.kid _) (hin.kid hok _) (htl.ext hX (fun i e => .inl e))) ?_; rintro _ w22 ⟨v46, rfl, hE22, hR22⟩; refine ⟨_, rfl, ?_⟩
      obtain ⟨z1_46, z2_46, B4, hO46⟩ := hR22
      obtain ⟨_, _, us46, eo46, hMo46⟩ := id hO46; cases eo46
      obtain ⟨qa46, na46, ca46, rfl⟩ := id hMo46.keys.shape; obtain ⟨qb46, nb46, cb46, rfl⟩ := id hMo46.vals.shape
      replace hX := hX.trans hE22
      refine Zz ?_
      refine ZZ (by kernel_rfl) ?_ _
      exact ⟨_, rfl, hX, ⟨_, _, B4, by unfold mt; rw [← heo, if_pos hc3]; exact hO46⟩⟩
     ·refine ZF ?_
      exact ⟨_, rfl, hX, ⟨_, _, B4, by unfold mt; rw [← heo, if_neg (by rw [hc3]; simp)]; exact hO39⟩⟩
theorem mwalk_ok (apart : Bool) (U : List Int) (b3 b4 b5 : Nat) (M : Nat → Prop) (h34 : b3 ≠ b4) (h54 : b5 ≠ b4) {n : Nat} (hn : n ≤ 1000) (hU : U.length ≤ 1000) : ∀ (ls : List Str) (first : Bool) (w : World) (t : Tr) (out : List Int) {m : Nat} {v vl x1 x2 : Value} (hMw : ∀ i, M i → i < w.heap.size) (C3 : Zj w b3 [.bool apart]) (hC5 : Zj w b5 [.func (.func 132) #[] #[(Zpt b3), (Zpt b4), (Zpt b5)]]) (B4 : Zj w b4 [x1, x2]) (hO : Qa (fun i => i = b4 ∨ i = b3 ∨ i = b5 ∨ M i) w (.agg #[x1, x2]) out) (hso : Xi ltI out) (huo : ∀ s ∈ out, s ∈ U) (ht : TrM (fun i => i = b4 ∨ i = b3 ∨ i = b5 ∨ M i) w t v) (hok : t.Ok n m) (hin : t.In U) (hl : Sl (fun i => i = b4 ∨ i = b3 ∨ i = b5 ∨ M i) w vl 1 (ls.map eS1)), FnM Tryz.prog (fun i => i = b4) 132 #[v, vl, .bool first, (Zpt b3), (Zpt b4), (Zpt b5)] w fun u w' => ∃ z1 z2, Zj w' b4 [z1, z2] ∧ Qa (fun i => i = b4 ∨ i = b3 ∨ i = b5 ∨ M i) w' (.agg #[z1, z2]) (mt apart ls first t out)
 | [], first, w, t, out, m, v, vl, x1, x2, hMw, C3, hC5, B4, hO, hso, huo, ht, hok, hin, hl => mwalk_nil w t first apart out U b3 b4 b5 M h34 h54 hn hU hMw C3 hC5 B4 hO hso huo ht hok hin hl
 | l :: ls, first, w, t, out, m, v, vl, x1, x2, hMw, C3, hC5, B4, hO, hso, huo, ht, hok, hin, hl => mwalk_cons w t first apart out U b3 b4 b5 M h34 h54 hn hU hMw C3 hC5 B4 hO hso huo ht hok hin l ls hl fun w t out m v vl x1 x2 hMw C3 hC5 B4 hO hso huo ht hok hin hl => mwalk_ok apart U b3 b4 b5 M h34 h54 hn hU ls false w t out hMw C3 hC5 B4 hO hso huo ht hok hin hl
def Js (t : Tr) (name : Str) : List Int := if Q7 name = true then mt (Ji 36 name) (spl 47 name) true t [] else []
theorem levelsO_ok (w : World) (s : Str) (hsn : s.length ≤ 1000000) : Fn Tryz.prog 136 #[Sv s] w fun u w' => Sl (Old w) w' u 1 ((spl 47 s).map eS1) := by
 have hX := Ext.refl Non w
 refine Zfw (args := [_]) Tryz.func136 rfl rfl ?_
 refine Zs (Za ?_)
 refine Zc (Zs (ZT z_28 ?_)); intro b3 w1 hb3 E1 B3
 have hq3 := Zq hX hb3
 have hl3 := Zl hX hb3
 replace hX := hX.tr E1
 refine Zc (ZC (Zs (Zm ?_)))
 refine Zw zE rfl (each_ok w1 s (fun i => i = b3) (fun i e => by rw [e]; exact B3.lt) hsn) ?_; intro v7 w2 E2 R2
 replace hX := hX.tr E2
 replace B3 := Zx B3 E2
 have It := R2; obtain ⟨fk, ck, hfk, _⟩ := id It; subst hfk
 have hW := Ext.refl (fun i => i = b3) w2; have hz3 := B3.lt; have hspl := JH 47 s
 refine Zc (ZO ?_)
 have hszr := hX.size
 have hsz_hW := hW.size
 have ho3 : w.heap.size ≤ b3 := by rcases hl3 with h | h; exact h.elim; exact h
 refine Qb (M := fun i => i = b3) (w0 := w2) (I := fun pre N A => ∃ v3 : Value, ∃ oo : Option Nat, Box N A b3 [v3] ∧ Ext Non w A ∧ Ext (fun i => i = b3) w2 A ∧ MkN w [] N A ∧ (OwX w2.heap.size N A v3 oo 1 ((pre.map fun p => p.2).map eS1)) ∧ (True)) (X := fun c N A => False) (encs := fun p : Nat × Str => [.int .i64 (p.1 : Nat), Sv p.2]) (xs := Jh (spl 47 s)) rfl (It) (hW) (fun _ => rfl) (fun pre => Z6.ex fun v3 => Z6.ex fun oo => (Z6.box _ _).and ((Z6.old hX.size).and ((Z6.oldM hW.size).and ((Z6.mk _ _).and ((Z6.owx _ _ _ _ _).and ((Z6.pure _))))))) (fun c => Z6.false) ⟨.slice none 0 0, none, ⟨B3, id⟩, hX, hW, (Mk.nil : Mk w [] w2).toN, ⟨OwO.nil, by simp⟩, trivial⟩ ?_ ?_ ?_
 ·rintro l N pre x A hl hN hA hst ⟨v3, oo, K3, hXo, hW, Dk, hO, Ir⟩ ⟨post, hpre⟩
  have B3 := K3.1; have hl3 : Xo (Yc (fun i => i = b3) w2 N) A b3 := .inl ⟨K3.2, .inl rfl⟩
  have hX := Ext.refl (Yc (fun i => i = b3) w2 N) A
  refine ZJ (Za ?_)
  refine Zc ?_
  refine ⟨rfl, hX, fun A2 E2r hz2r hst2 => ?_⟩
  have hNl := (hN l hl).2
  replace B3 := B3.ext E2r (fun e => K3.2 (by rw [e]; exact hl))
  replace hXo := hXo.mine E2r (.inr (Zle hszr (hN l hl).1)); replace Dk := Dk.lp E2r hl
  replace hW := hW.mine E2r (.inr (Zle hsz_hW (hN l hl).1))
  replace hO := hO.ext E2r (fun i hi e => (hO.2 i hi).1 (by rw [e]; exact hl))
  have hl3 : Xo (Yc (fun i => i = b3) w2 N) A2 b3 := .inl ⟨K3.2, .inl rfl⟩
  have hX := Ext.refl (Yc (fun i => i = b3) w2 N) A2
  refine ZO ?_
  refine ZJ ?_
  have hpl : (spl 47 s).length = pre.length + (post.length + 1) := by have := congrArg List.length hpre; rw [numb_len] at this; rw [this]; simp
  refine Zb (Zi p_28 rfl B3 rfl) (Zm ?_)
  refine Xz (r := eS1 x.2) Xq rfl rfl rfl rfl (by decide) ?_; intro v12 w3 b12 hb12 E3 hO12
  replace hX := hX.tr E3
  replace B3 := Zx B3 E3
  replace hXo := hXo.tr E3
  replace Dk := Dk.non E3
  replace hW := hW.tr E3
  replace hO := hO.ext E3 (fun _ _ h => h)
  have hsx := hX.size; have hsw := hW.size
  refine Qm Xq rfl rfl rfl hO.1 (hO12.sl (M := Non) id) (fun r hr => by simp only [List.mem_singleton] at hr; subst hr; exact J1 rfl) (by simp only [List.length_map, List.length_cons, List.length_nil]; omega) (by simp only [List.length_map, List.length_cons, List.length_nil, big]; omega) ?_; intro v13 w4 o13 E4 hO13 hf13
  obtain ⟨a13, c13, hv13⟩ := id hO13.len; subst hv13
  replace hX := hX.mineO E4 (fun i hi => .inl ⟨(hO.2 i hi).1, .inr (hO.2 i hi).2⟩); replace hXo := hXo.mineO E4 (fun i hi => .inr (Zle hszr (hO.2 i hi).2)); replace hW := hW.mineO E4 (fun i hi => .inr (hO.2 i hi).2); replace Dk : MkN w [] N w4 := ⟨Mk.nil, fun r h => by cases h⟩
  replace B3 := B3.ext E4 (fun e => by have := (hO.2 _ e).2; omega)
  have hOn : OwX w2.heap.size N w4 _ o13 1 (((pre ++ [x]).map fun p => p.2).map eS1) := ⟨by rw [List.map_append, List.map_append]; exact hO13, fun i hi => by rcases hf13 i hi with h | h; exact hO.2 i h; exact ⟨fun hNi => by have := (hN i hNi).2; omega, by omega⟩⟩
  have Bo := B3
  refine ZN (b := b3) p_28 rfl (by conv => lhs; whnf) rfl rfl B3 Zbl ?_; intro w5 E5 B3 hz5
  replace hX := hX.mine E5 hl3
  replace hXo := hXo.mine E5 (.inr ho3)
  replace Dk := Dk.box E5 Bo
  replace hW := hW.mine E5 (.inl rfl)
  replace hOn := hOn.ext E5 (fun i hi e => by have := (hOn.2 i hi).2; omega)
  refine Zc ?_
  exact ⟨hX, .slice a13 _ c13, o13, ⟨B3, K3.2⟩, hXo, hW, Dk, hOn, trivial⟩
 ·rintro N rk w' ⟨v3, oo, K3, hXo, hW, Dk, hO, Ir⟩ hN hA hr hrd
  have B3 := K3.1
  have hX := hXo; have hD := Dk.add hrd (Zle hszr (hN rk hr).1) hr
  rw [numb_snd] at hO
  obtain ⟨a3, c3, hv3⟩ := id hO.1.len; subst hv3
  refine Zs (Zb (Zi p_28 rfl B3 rfl) (Za ?_))
  refine Zc (ZB (hD.leave fun B hB => ?_))
  have B3 := B3.ext hB (hD.ne B3)
  have hX := hD.out hX hB
  exact ⟨_, ZD (Zh rfl), hX, (hO.ext hB (fun i hi h => (hO.2 i hi).1 (by simp only [List.mem_singleton] at h; rw [Qi h]; exact hr))).1.sl (M := Old w) (fun i hi h => by have := (hO.2 i hi).2; unfold Old at h; omega)⟩
 ·intro c N rk w' h; exact h.elim
theorem appendSeq_ok (w : World) (xs : List Int) {fv : Value} (hit : J2 Tryz.prog Non w fv (fun x : Int => #[.int .i64 x]) xs) (hn : xs.length ≤ 100000) : Fn Tryz.prog 203 #[.slice none 0 0, fv] w fun u w' => Sl (Old w) w' u 1 (xs.map eI1) := by
 have hX := Ext.refl Non w
 refine Zfw (args := [_, _]) Tryz.func203 rfl rfl ?_
 refine Zs (ZP (by conv => lhs; whnf) rfl ?_); intro b2 w1 hb2 E1 B2
 have hq2 := Zq hX hb2
 have hl2 := Zl hX hb2
 replace hX := hX.tr E1
 refine Za ?_
 refine Zc (ZC (Zs (Zm ?_)))
 refine Zc (ZO ?_)
 have hszr := hX.size
 have ho2 : w.heap.size ≤ b2 := by rcases hl2 with h | h; exact h.elim; exact h
 refine Qb (M := Non) (w0 := w) (I := fun pre N A => ∃ v3 : Value, ∃ oo : Option Nat, Box N A b2 [v3] ∧ Ext Non w A ∧ MkN w [] N A ∧ (OwX (b2 + 1) N A v3 oo 1 (pre.map eI1)) ∧ (True)) (X := fun c N A => False) (encs := fun x : Int => [.int .i64 x]) (xs := xs) rfl (hit) (hX) (fun _ => rfl) (fun pre => Z6.ex fun v3 => Z6.ex fun oo => (Z6.box _ _).and ((Z6.old hX.size).and ((Z6.mk _ _).and ((Z6.owx _ _ _ _ _).and ((Z6.pure _)))))) (fun c => Z6.false) ⟨.slice none 0 0, none, ⟨B2, id⟩, hX, (Mk.nil : Mk w [] _).toN, ⟨OwO.nil, by simp⟩, trivial⟩ ?_ ?_ ?_
 ·rintro l N pre x A hl hN hA hst ⟨v3, oo, hK2, hXo, Dk, hO, Ir⟩ ⟨post, hpre⟩
  have B2 := hK2.1; have hl2 : Xo (Yc (Non) w N) A b2 := .inl ⟨hK2.2, .inr hq2⟩
  have hX := Ext.refl (Yc (Non) w N) A
  refine ZJ (Za ?_)
  refine Zc ?_
  refine ⟨rfl, hX, fun A2 E2r hz2r hst2 => ?_⟩
  have hNl := (hN l hl).2
  replace B2 := B2.ext E2r (fun e => hK2.2 (by rw [e]; exact hl))
  replace hXo := hXo.mine E2r (.inr (Zle hszr (hN l hl).1)); replace Dk := Dk.lp E2r hl
  replace hO := hO.ext E2r (fun i hi e => (hO.2 i hi).1 (by rw [e]; exact hl))
  have hl2 : Xo (Yc (Non) w N) A2 b2 := .inl ⟨hK2.2, .inr hq2⟩
  have hX := Ext.refl (Yc (Non) w N) A2
  refine ZO ?_
  refine ZJ ?_
  have hpl : xs.length = pre.length + (post.length + 1) := by rw [hpre]; simp
  refine Zb (Zi XT rfl B2 rfl) (Zm ?_)
  refine Xz (r := [.int .i64 x]) Xe rfl rfl rfl rfl (by decide) ?_; intro v10 w2 b10 hb10 E2 hO10
  have hz2 := B2.lt
  replace hX := hX.tr E2
  replace B2 := Zx B2 E2
  replace hXo := hXo.tr E2
  replace Dk := Dk.non E2
  replace hO := hO.ext E2 (fun _ _ h => h)
  refine Qm Xe rfl rfl rfl hO.1 (hO10.sl (M := Non) id) (fun r hr => by simp only [List.mem_singleton] at hr; subst hr; exact J1 rfl) (by simp only [List.length_map, List.length_cons, List.length_nil]; omega) (by simp only [List.length_map, List.length_cons, List.length_nil, big]; omega) ?_; intro v11 w3 o11 E3 hO11 hf11
  obtain ⟨a11, c11, hv11⟩ := id hO11.len; subst hv11
  have hsx := hX.size; have hsw := hXo.size
  replace hX := hX.mineO E3 (fun i hi => .inl ⟨(hO.2 i hi).1, .inr (Nat.le_of_succ_le (Nat.lt_of_le_of_lt hq2 (hO.2 i hi).2))⟩); replace hXo := hXo.mineO E3 (fun i hi => .inr (Nat.le_of_succ_le (Nat.lt_of_le_of_lt hq2 (hO.2 i hi).2))); replace Dk : MkN w [] N w3 := ⟨Mk.nil, fun r h => by cases h⟩
  replace B2 := B2.ext E3 (fun e => by have := (hO.2 _ e).2; omega)
  have hOn : OwX (b2 + 1) N w3 _ o11 1 ((pre ++ [x]).map eI1) := ⟨by rw [List.map_append]; exact hO11, fun i hi => by rcases hf11 i hi with h | h; exact hO.2 i h; exact ⟨fun hNi => by have := (hN i hNi).2; omega, by omega⟩⟩
  have Bo := B2
  refine ZN (b := b2) XT rfl (by conv => lhs; whnf) rfl rfl B2 Zbl ?_; intro w4 E4 B2 hz4
  replace hX := hX.mine E4 hl2
  replace hXo := hXo.mine E4 (.inr ho2)
  replace Dk := Dk.box E4 Bo
  replace hOn := hOn.ext E4 (fun i hi e => by have := (hOn.2 i hi).1; have := (hOn.2 i hi).2; omega)
  refine Zc ?_
  exact ⟨hX, .slice a11 _ c11, o11, ⟨B2, hK2.2⟩, hXo, Dk, hOn, trivial⟩
 ·rintro N rk w' ⟨v3, oo, hK2, hXo, Dk, hO, Ir⟩ hN hA hr hrd
  have B2 := hK2.1
  have hX := hXo; have hD := Dk.add hrd (Zle hszr (hN rk hr).1) hr
  refine Zs (Zb (Zi XT rfl B2 rfl) (Za ?_))
  refine Zc (ZB (hD.leave fun B hB => ?_))
  have B2 := B2.ext hB (hD.ne B2)
  have hX := hD.out hX hB
  exact ⟨_, ZD (Zh rfl), hX, (hO.ext hB (fun i hi h => (hO.2 i hi).1 (by simp only [List.mem_singleton] at h; rw [Qi h]; exact hr))).1.sl (M := Old w) (fun i hi h => by have := (hO.2 i hi).2; unfold Old at h; omega)⟩
 ·intro c N rk w' h; exact h.elim
theorem collect_ok (w : World) (xs : List Int) {fv : Value} (hit : J2 Tryz.prog Non w fv (fun x : Int => #[.int .i64 x]) xs) (hn : xs.length ≤ 100000) : Fn Tryz.prog 140 #[fv] w fun u w' => Sl (Old w) w' u 1 (xs.map eI1) := by
 have hX := Ext.refl Non w
 refine Zfw (args := [_]) Tryz.func140 rfl rfl ?_
 refine Zs (Za ?_)
 refine Zc (Zs (Zm ?_))
 have hs4 := hX.size
 refine Zw zE rfl (appendSeq_ok w xs (hit.ext hX (fun _ h _ => h)) hn) ?_; intro v4 w1 E1 R1
 replace hX := hX.tr E1
 have S4 := R1
 refine Za ?_
 refine Zc (ZB ?_)
 exact ⟨_, ZD (Zh rfl), hX, S4.sub (fun i h _ => Zlt h hs4)⟩
theorem Sl.avoid {M M' : Nat → Prop} {A : World} {v : Value} {k : Nat} {rows : List (List Value)} (h : Sl M A v k rows) (hk : 0 < k) (hM : ∀ i, M' i → ¬ ∃ c T f, A.heap[i]? = Option.some (.cells c T f)) : Sl (fun i => M i ∨ M' i) A v k rows := by
 obtain ⟨⟨a, c, h1, h2, h3, h4⟩, h5⟩ := h
 refine ⟨⟨a, c, h1, h2, h3, ?_⟩, h5⟩
 rcases h4 with h4 | ⟨b, o, ha, hb, hn, hc⟩
 ·exact .inl h4
 ·by_cases he : rows = []
  ·exact .inl he
  ·refine .inr ⟨b, o, ha, hb, fun h' => ?_, hc⟩
   rcases h' with h' | h'
   ·exact hn h'
   ·have hlen : 0 < rows.flatten.length := by rw [XN h5]; exact Nat.mul_pos (List.length_pos_iff.2 he) hk
    have h6 := hc 0 hlen
    rw [List.getElem?_eq_getElem hlen] at h6
    unfold World.cell? at h6
    split at h6
    ·rename_i c' T f hcc; exact hM b h' ⟨_, _, _, hcc⟩
    ·cases h6
theorem Mk.cells {w A : World} {D : List Deferred} (h : Mk w D A) {i : Nat} (hi : Jc i ∈ D) : ¬ ∃ c T f, A.heap[i]? = some (.cells c T f) := by
 rintro ⟨c, T, f, hc⟩
 obtain ⟨r, h1, h2, _⟩ := h.each _ hi
 cases Qi h1
 rw [h2] at hc; cases hc
def filt (l : List Int) : List Int := l.filter fun x => decide (0 ≤ x) && decide (x < 4)
def qf (l : List Int) : List Int := (l.map Xr).filter fun q => decide (0 ≤ q)
def QB (st ks : List Int) : List Int := (qf ks).foldl (XS ltI) (ofL (filt st))
theorem filt_len (l : List Int) : (filt l).length ≤ l.length := List.length_filter_le _ _
theorem qf_len (l : List Int) : (qf l).length ≤ l.length := by unfold qf; exact Zle (List.length_filter_le _ _) (by simp)
theorem filt_yes {l : List Int} {i : Nat} {x : Int} (h : l[i]? = some x) (h0 : 0 ≤ x) (h1 : x < 4) : ofL (filt (l.take (i + 1))) = XS ltI (ofL (filt (l.take i))) x := by
 rw [List.take_add_one, h, show filt (l.take i ++ (some x).toList) = filt (l.take i) ++ [x] from by simp [filt, h0, h1], ofL_snoc]
theorem filt_no {l : List Int} {i : Nat} {x : Int} (h : l[i]? = some x) (h0 : ¬ (0 ≤ x ∧ x < 4)) : filt (l.take (i + 1)) = filt (l.take i) := by
 rw [List.take_add_one, h]
 have : (decide (0 ≤ x) && decide (x < 4)) = false := by rw [Bool.and_eq_false_iff]; by_cases h1 : 0 ≤ x; right; simp; omega; left; simp; omega
 simp [filt, this]
theorem qf_yes (l : List Int) (x : Int) (h : 0 ≤ Xr x) : qf (l ++ [x]) = qf l ++ [Xr x] := by simp [qf, h]
theorem qf_no (l : List Int) (x : Int) (h : ¬ 0 ≤ Xr x) : qf (l ++ [x]) = qf l := by simp [qf]; omega
set_option maxHeartbeats 1000000 in
theorem plan_ok (w : World) (st ks : List Int) {v vo : Value} (hs : Sl Non w v 1 (st.map eI1)) (ho : Qa Non w vo ks) (hk : Xi ltI ks) (hn : st.length ≤ 1000) (hnk : ks.length ≤ 1000) : Fn Tryz.prog 80 #[v, vo] w fun u w' => Sl (Old w) w' u 1 ((QB st ks).map eI1) := by
 obtain ⟨a, c, rfl, _⟩ := hs.len
 simp only [List.length_map] at hs ⊢
 obtain ⟨o1, o2, vso, rfl, hmo⟩ := ho
 obtain ⟨p1, m1, d1, rfl⟩ := hmo.keys.shape; obtain ⟨p2, m2, d2, rfl⟩ := hmo.vals.shape
 have hX := Ext.refl Non w
 refine Zfw (args := [_, _]) Tryz.func80 rfl rfl ?_
 refine Zs (ZY rfl ?_); intro b3 w1 hb3 E1 B3
 have hq3 := Zq hX hb3
 have hl3 := Zl hX hb3
 replace hX := hX.tr E1
 refine Za ?_
 refine Zc (Zs (ZT z_152 ?_)); intro b5 w2 hb5 E2 B5
 have hn3_5 := Zn B3 hb5
 have hq5 := Zq hX hb5
 have hl5 := Zl hX hb5
 replace hX := hX.tr E2
 replace B3 := Zx B3 E2
 refine Zc (ZC (Zs (Zm ?_)))
 refine Zb (Z1 Xe rfl) (Zm ?_)
 refine Zc (ZO (Xt (S := Nat × Value × Value) [3, 5, 10, 11, 12] (fun ⟨i, u1, u2⟩ => [(Zpt b3), (Zpt b5), .slice a st.length c, .int .i64 (st.length : Nat), .int .i64 (i : Nat)]) (fun ⟨i, u1, u2⟩ A => (Ext Non w A) ∧ (Zj A b3 [.slice p1 m1 d1, .slice p2 m2 d2]) ∧ (Zj A b5 [u1, u2]) ∧ (Xo Non w b3) ∧ (Xo Non w b5) ∧ (b3 < b5) ∧ (i ≤ st.length ∧ (∃ vs, Qs (fun j => j < w.heap.size ∨ j = b3 ∨ j = b5) A eI1 0 u1 u2 (ofL (filt (st.take i))) vs) ∧ (∃ q n c, u1 = .slice q n c) ∧ (∃ q n c, u2 = .slice q n c))) (fun ⟨i, u1, u2⟩ => st.length - i) (0, .slice none 0 0, .slice none 0 0) ⟨rfl, rfl, rfl, rfl, rfl, trivial⟩ ⟨hX, B3, B5, hl3, hl5, hn3_5, ⟨Nat.zero_le _, ⟨[], Sl.nil _ _ _, Sl.nil _ _ _, rfl⟩, ⟨_, _, _, rfl⟩, ⟨_, _, _, rfl⟩⟩⟩ ?_))
 rintro τ0 ⟨i, u1, u2⟩ A0 ⟨hX, B3, B5, hl3, hl5, hn3_5, I0⟩
 obtain ⟨hil, ⟨vs, hm⟩, ⟨q1, n1, c1, hu1⟩, ⟨q2, n2, c2, hu2⟩⟩ := I0
 refine Zs (Zb (Xj rfl rfl) (Zc (ZC ?_)))
 refine ZE rfl (fun hc0 => ?_) (fun hc0 => ?_)
 ·have hlt := of_decide_eq_true hc0; simp only [Int.ofNat_lt] at hlt
  obtain ⟨x, hi⟩ : ∃ x, st[i]? = some x := ⟨_, List.getElem?_eq_getElem hlt⟩
  obtain ⟨b, o, ea⟩ := hs.base (by intro e; simp at e; subst e; simp at hlt); subst ea
  have hol := ofL_len (filt (st.take i)); have hfl := filt_len (st.take i)
  have hzl : (st.take i).length ≤ st.length := by rw [List.length_take]; omega
  have hz3 := B3.lt; have hz5 := B5.lt; have hXc := hX
  refine ZF (ZC (ZO (Zs (Zb (ZH Xe rfl rfl (by omega)) (Zb (Xb p_3 rfl ((hs.ext hX (fun _ h => h)).at0 (eI_at hi) rfl)) (Za ?_))))))
  refine Zc (Zs (Zm ?_))
  refine Zb (X8 rfl rfl) (Zm ?_)
  refine Z3 (d := 18) rfl (fun hg18 => ?_) (fun hg18 => ?_)
  ·refine Zu rfl (Zcb hg18) (Zm ?_)
   refine Zu rfl (Zcb hg18) (Zb (Xj rfl rfl) (Zb (Z8 (Zcb hg18) (by conv => lhs; whnf)) ?_))
   refine Zc ?_
   refine ZE rfl (fun hc1 => ?_) (fun hc1 => ?_)
   ·refine ZJ (Zb (ZR XE rfl rfl B5) (Zm ?_))
    refine Zw zE rfl (with_ok A0 (ofL (filt (st.take i))) ⟨_, _, vs, rfl, hm.sub (M' := Non) (fun _ h _ => h.elim)⟩ x (Q0 _) (by omega)) ?_; intro v24 w3 E3 R3
    replace hX := hX.tr E3
    replace B3 := Zx B3 E3; replace B5 := Zx B5 E3
    replace hm := hm.ext E3 (fun _ h => h.elim)
    obtain ⟨u1n, u2n, vsn, rfl, hMn⟩ := R3
    obtain ⟨a1, l1, c1, rfl⟩ := id hMn.keys.shape; obtain ⟨a2, l2, c2, rfl⟩ := id hMn.vals.shape
    replace hMn := hMn.sub (M' := fun j => j < w.heap.size ∨ j = b3 ∨ j = b5) (fun j h _ => by unfold Old; have := hXc.size; rcases h with h | h | h <;> omega)
    have Bo := B5
    refine ZS XE rfl rfl rfl (Qc rfl rfl) B5 rfl ?_; intro w4 E4 B5 hz4
    replace hX := hX.mine E4 hl5
    replace B3 := B3.ext E4 (fun h => by omega)
    replace hMn := hMn.ext E4 (fun j e => by omega)
    refine Zc (ZJ (Zb (ZX rfl rfl (by omega)) (Zm ?_)))
    refine Zc ?_
    have hx0 := of_decide_eq_true hg18; have hx4 := of_decide_eq_true hc1
    exact ⟨rfl, (i + 1, .slice a1 l1 c1, .slice a2 l2 c2), ⟨rfl, rfl, rfl, rfl, rfl, trivial⟩, ⟨hX, B3, B5, hl3, hl5, hn3_5, ⟨hlt, ⟨_, by rw [filt_yes hi hx0 hx4]; exact hMn⟩, ⟨_, _, _, rfl⟩, ⟨_, _, _, rfl⟩⟩⟩, by show st.length - (i + 1) < st.length - i; omega⟩
   ·refine ZF (ZJ (Zb (ZX rfl rfl (by omega)) (Zm ?_)))
    refine Zc ?_
    have hxn : ¬ (0 ≤ x ∧ x < 4) := fun h => of_decide_eq_false hc1 h.2
    exact ⟨rfl, (i + 1, u1, u2), ⟨rfl, rfl, rfl, rfl, rfl, trivial⟩, ⟨hX, B3, B5, hl3, hl5, hn3_5, ⟨hlt, ⟨_, by rw [filt_no hi hxn]; exact hm⟩, ⟨_, _, _, hu1⟩, ⟨_, _, _, hu2⟩⟩⟩, by show st.length - (i + 1) < st.length - i; omega⟩
  ·refine ZU rfl (Zcb hg18) (ZU rfl (Zcb hg18) (Zb (ZQ (Zcb hg18) (by conv => lhs; whnf)) ?_))
   refine Zc (Xu rfl (ZF (ZJ (Zb (ZX rfl rfl (by omega)) (Zm ?_)))))
   refine Zc ?_
   have hxn : ¬ (0 ≤ x ∧ x < 4) := fun h => of_decide_eq_false hg18 h.1
   exact ⟨rfl, (i + 1, u1, u2), ⟨rfl, rfl, rfl, rfl, rfl, trivial⟩, ⟨hX, B3, B5, hl3, hl5, hn3_5, ⟨hlt, ⟨_, by rw [filt_no hi hxn]; exact hm⟩, ⟨_, _, _, hu1⟩, ⟨_, _, _, hu2⟩⟩⟩, by show st.length - (i + 1) < st.length - i; omega⟩
 ·have hge := of_decide_eq_false hc0; simp only [Int.ofNat_lt, Nat.not_lt] at hge
  have hie : i = st.length := by omega
  subst hie
  rw [List.take_length] at hm
  have hol := ofL_len (filt st); have hfl := filt_len st
  refine XL ?_
  refine ZC (Zs (Zb (ZR XE rfl rfl B3) (Zw zE rfl (all_ok A0 ks (fun i => i = b5) (fun i e => by rw [e]; exact B5.lt) ⟨_, _, vso, rfl, (hmo.sub (M' := fun i => i = b5) (fun i e hlt => by rcases hl5 with h | h; exact h.elim; omega)).ext hX.of_non (fun _ h => h)⟩) ?_))); intro v27 w5 E5 R5
  replace hX := hX.tr E5
  replace B3 := Zx B3 E5; replace B5 := Zx B5 E5
  replace hm := hm.ext E5 (fun _ h => h.elim)
  have It := R5; obtain ⟨fk, ck, hfk, _⟩ := id It; subst hfk
  have hW := Ext.refl (fun i => i = b5) w5; have hz5 := B5.lt
  have hmS := hm.sub (M' := fun i => Non i ∨ i = b5) (fun i e hlt => by rcases e with e | e; exact e.elim; exact .inr (.inr e))
  refine Zc (ZO ?_)
  have hszr := hX.size
  have hsz_hW := hW.size
  have ho3 : w.heap.size ≤ b3 := by rcases hl3 with h | h; exact h.elim; exact h
  have ho5 : w.heap.size ≤ b5 := by rcases hl5 with h | h; exact h.elim; exact h
  refine Qb (M := fun i => i = b5) (w0 := w5) (I := fun pre N A => ∃ u1 : Value, ∃ u2 : Value, ∃ vs : List (List Value), Box N A b3 [.slice p1 m1 d1, .slice p2 m2 d2] ∧ Box N A b5 [u1, u2] ∧ Ext Non w A ∧ Ext (fun i => i = b5) w5 A ∧ MkN w [] N A ∧ (Qs (fun i => N i ∨ i = b5) A eI1 0 u1 u2 ((qf pre).foldl (XS ltI) (ofL (filt st))) vs) ∧ (True)) (X := fun c N A => False) (encs := fun x : Int => [.int .i64 x]) (xs := ks) rfl (It) (hW) (fun _ => rfl) (fun pre => Z6.ex fun u1 => Z6.ex fun u2 => Z6.ex fun vs => (Z6.box _ _).and ((Z6.box _ _).and ((Z6.old hX.size).and ((Z6.oldM hW.size).and ((Z6.mk _ _).and ((Z6.mapB _ _ _ _ _ _ _).and ((Z6.pure _)))))))) (fun c => Z6.false) ⟨u1, u2, vs, ⟨B3, id⟩, ⟨B5, id⟩, hX, hW, (Mk.nil : Mk w [] _).toN, hmS, trivial⟩ ?_ ?_ ?_
  ·rintro l N pre x A hl hN hA hst ⟨u1, u2, vs, K3, hK5, hXo, hW, Dk, hm, Ir⟩ ⟨post, hpre⟩
   have B3 := K3.1
   have B5 := hK5.1; have hl5 : Xo (Yc (fun i => i = b5) w5 N) A b5 := .inl ⟨hK5.2, .inl rfl⟩
   have hX := Ext.refl (Yc (fun i => i = b5) w5 N) A
   refine ZJ (Za ?_)
   refine Zc ?_
   refine ⟨rfl, hX, fun A2 E2r hz2r hst2 => ?_⟩
   have hNl := (hN l hl).2
   replace B3 := B3.ext E2r (fun e => K3.2 (by rw [e]; exact hl))
   replace B5 := B5.ext E2r (fun e => hK5.2 (by rw [e]; exact hl))
   replace hXo := hXo.mine E2r (.inr (Zle hszr (hN l hl).1)); replace Dk := Dk.lp E2r hl
   replace hW := hW.mine E2r (.inr (Zle hsz_hW (hN l hl).1))
   replace hm := hm.ext E2r (fun i e => .inl (by rw [e]; exact hl))
   have hl5 : Xo (Yc (fun i => i = b5) w5 N) A2 b5 := .inl ⟨hK5.2, .inl rfl⟩
   have hX := Ext.refl (Yc (fun i => i = b5) w5 N) A2
   refine ZO ?_
   refine Zs (Zm ?_)
   refine Zw zE rfl (queue_ok A2 x) ?_; intro v30 w6 E6 R6
   replace hX := hX.tr E6
   replace B3 := Zx B3 E6; replace B5 := Zx B5 E6
   replace hXo := hXo.tr E6
   replace Dk := Dk.non E6
   replace hW := hW.tr E6
   replace hm := hm.ext E6 (fun _ h => h.elim)
   subst R6
   refine Za ?_
   refine Zc (Zs (Zm ?_))
   refine Zb (X8 rfl rfl) (Zc ?_)
   refine ZE rfl (fun hc2 => ?_) (fun hc2 => ?_)
   ·refine ZJ (Zb (ZR XE rfl rfl B5) (Zm ?_))
    have hsx := hX.size; have hsw := hW.size
    have hfk := foldK_len (qf pre) (ofL (filt st)); have hqp := qf_len pre
    have hpl : ks.length = pre.length + (post.length + 1) := by rw [hpre]; simp
    refine Zw zE rfl (with_ok w6 ((qf pre).foldl (XS ltI) (ofL (filt st))) ⟨_, _, vs, rfl, hm.sub (M' := Non) (fun _ h _ => h.elim)⟩ (Xr x) (Jy _ _ (Q0 _)) (by omega)) ?_; intro v35 w7 E7 R7
    replace hX := hX.tr E7
    replace B3 := Zx B3 E7; replace B5 := Zx B5 E7
    replace hXo := hXo.tr E7
    replace Dk := Dk.non E7
    replace hW := hW.tr E7
    replace hm := hm.ext E7 (fun _ h => h.elim)
    obtain ⟨u1n, u2n, vsn, rfl, hMn⟩ := R7
    obtain ⟨a1, l1, c1, rfl⟩ := id hMn.keys.shape; obtain ⟨a2, l2, c2, rfl⟩ := id hMn.vals.shape
    replace hMn := hMn.sub (M' := fun i => N i ∨ i = b5) (fun j h _ => by unfold Old; rcases h with h | h; have := (hN j h).2; omega; omega)
    have Bo := B5
    refine ZS XE rfl rfl rfl (Qc rfl rfl) B5 rfl ?_; intro w8 E8 B5 hz8
    replace hX := hX.mine E8 hl5
    replace B3 := B3.ext E8 (fun h => by omega)
    replace hXo := hXo.mine E8 (.inr ho5)
    replace Dk := Dk.box E8 Bo
    replace hW := hW.mine E8 (.inl rfl)
    replace hMn := hMn.ext E8 (fun i e => .inr e)
    refine Zc ?_
    have hqy := qf_yes pre x (of_decide_eq_true hc2)
    exact ⟨hX, .slice a1 l1 c1, .slice a2 l2 c2, vsn, ⟨B3, K3.2⟩, ⟨B5, hK5.2⟩, hXo, hW, Dk, (by rw [hqy, List.foldl_append]; exact hMn), trivial⟩
   ·refine ZF ?_
    have hqn := qf_no pre x (of_decide_eq_false hc2)
    exact ⟨hX, u1, u2, vs, ⟨B3, K3.2⟩, ⟨B5, hK5.2⟩, hXo, hW, Dk, (by rw [hqn]; exact hm), trivial⟩
  ·rintro N rk w' ⟨u1, u2, vs, K3, hK5, hXo, hW, Dk, hm, Ir⟩ hN hA hr hrd
   have B3 := K3.1
   have B5 := hK5.1
   have hX := hXo; have hD := Dk.add hrd (Zle hszr (hN rk hr).1) hr
   refine Zs (Zb (ZR XE rfl rfl B5) ?_)
   have hfk := foldK_len (qf ks) (ofL (filt st)); have hqp := qf_len ks
   refine Zw zE rfl (all_ok w' (QB st ks) Non (fun _ h => h.elim) ⟨_, _, vs, rfl, hm.sub (M' := Non) (fun _ h _ => h.elim)⟩) ?_; intro v37 w9 E9 hR9
   replace hX := hX.tr E9
   replace B3 := Zx B3 E9; replace B5 := Zx B5 E9
   replace hm := hm.ext E9 (fun _ h => h.elim)
   replace hD := hD.non E9
   have hIt2 := hR9
   have hs38 := hX.size
   refine Zw zE rfl (collect_ok w9 (QB st ks) hIt2 (by unfold QB; omega)) ?_; intro v38 w10 E10 hR10
   replace hX := hX.tr E10
   replace B3 := Zx B3 E10; replace B5 := Zx B5 E10
   replace hm := hm.ext E10 (fun _ h => h.elim)
   replace hD := hD.non E10
   have hC := hR10
   refine Za ?_
   refine Zc (ZB (hD.leave fun B hB => ?_))
   have B3 := B3.ext hB (hD.ne B3)
   have B5 := B5.ext hB (hD.ne B5)
   have hX := hD.out hX hB
   exact ⟨_, ZD (Zh rfl), hX, ((hC.avoid (M' := fun i => Jc i ∈ [Jc rk]) (by decide) (fun i hi => hD.cells hi)).ext hB (fun i h => .inr h)).sub (M' := Old w) (fun i h _ => .inl (Zlt h hs38))⟩
  ·intro c N rk w' h; exact h.elim
abbrev wkC (c : Option Addr) (t : Int) (o : OpD) (nv hv : Value) (x : Xl) : List Value := [.pointer c, .int .i64 t, .int .i64 o.kind, .int .i64 o.sub, Sv o.text, Sv o.payload, .bool o.keep, nv, hv, .int .i64 x.err, .int .i64 x.a, .int .i64 x.b, Sv x.msg.topic, Sv x.msg.payload, .bool x.msg.kept]
theorem look_w (w : World) {S : Type} {Y : Sys S} {me : Nat} {G : Tg} {r : Out S} {b77 : Nat} (h : ∀ (w1 : World) (b1 : Nat) , Ext Non w w1 → w.heap.size ≤ b1 → Zj w1 b1 [(Zpt b77)] → MkS Y Tryz.prog me 62 #[.func (.func 70) #[] #[(Zpt b1)], .func (.func 72) #[] #[(Zpt b1)]] (Kx me G w) w1 r) : FnM Tryz.prog (Wr me G) 34 #[(Zpt b77)] w fun u w' => Xh Y Tryz.prog me G w r u w' := by
 have hXn := Ext.refl Non w
 have hX := Ext.refl (Wr me G) w
 refine Zfm (args := [_]) Tryz.func34 rfl rfl ?_
 refine Zs (ZP (by conv => lhs; whnf) rfl ?_); intro b1 w1 hb1 E1 B1
 have hq1 := Zq hX hb1
 replace hX := hX.tr E1
 replace hXn := hXn.tr E1
 refine Za ?_
 refine Zc (Zs (Zb (ZL rfl) (Zb (ZL rfl) ?_)))
 have hXc := hXn
 refine ZI zE rfl (h w1 b1 hXn hq1 B1) ?_; intro v5 w2 E2 hR
 replace hX := hX.wr ZW E2
 refine Za ?_
 refine Zc (ZB ?_)
 exact ⟨_, ZD (Zh rfl), hX, hR.pre ZW hXc.size⟩
theorem pinC_w (w : World) {M : Nat → Prop} {R : World → Prop} {b0 : Nat} {b77 b78 : Nat} {t : Int} {o : OpD} {nv hv : Value} {x : Xl} (B77 : Zj w b77 (wkC (some ⟨b78, 0, none⟩) t o nv hv x)) {ep pl gp rt : Nat} {q0 q1 q2 q3 : Option Addr} {rv : Value} (B78 : Zj w b78 [.pointer (some ⟨ep, 0, none⟩), .pointer (some ⟨pl, 0, none⟩), .pointer (some ⟨gp, 0, none⟩), .pointer (some ⟨rt, 0, none⟩), .pointer q0, .pointer q1, .pointer q2, .pointer q3, rv, .int .i64 0]) (hB0 : Zj w b0 [(Zpt b77)]) (h : ∀ w1, Ext Non w w1 → FnM Tryz.prog M 71 #[.pointer (some ⟨ep, 0, none⟩), .int .i64 t] w1 fun _ w2 => R w2) : FnM Tryz.prog M 70 #[(Zpt b0)] w fun u w' => R w' := by
 have hXn := Ext.refl Non w
 have hX := Ext.refl M w
 refine Zfm (args := [_]) Tryz.func70 rfl rfl ?_
 refine Z5 (fun j => j == 12) mixed ?_; intro w1 E1
 replace hX := hX.tr E1
 replace hB0 := Zx hB0 E1; replace B77 := Zx B77 E1; replace B78 := Zx B78 E1
 replace hXn := hXn.tr E1
 have hS := Ext.refl Non w1
 refine Zt 0 [1, 2, 3, 4, 5, 6, 7, 12] rfl hS (Zv Jg rfl hB0 rfl) (Zt 1 [2, 3, 4, 5, 6, 7, 12] rfl hS (Zr (Zg rfl)) (Zt 2 [3, 4, 5, 6, 7, 12] rfl hS (Zr (Zf f_90_0 rfl)) (Zt 3 [4, 5, 6, 7, 12] rfl hS (Zv Jw rfl B77 rfl) (Zt 4 [5, 6, 7, 12] rfl hS (Zr (Zg rfl)) (Zt 5 [6, 7, 12] rfl hS (Zr (Zf Qp rfl)) (Zt 6 [7, 12] rfl hS (Zr (Zf JV rfl)) (Zt 7 [12] rfl hS (Zv p_97 rfl B78 rfl) (Zt 8 [9, 10, 11, 12] rfl hS (Zv Jg rfl hB0 rfl) ?_))))))))
 refine Zt 9 [10, 11, 12] rfl hS (Zr (Zg rfl)) (Zt 10 [11, 12] rfl hS (Zr (Zf f_90_1 rfl)) (Zt 11 [12] rfl hS (Zv p_3 rfl B77 rfl) ?_))
 replace hX := hX.tr hS
 replace hB0 := Zx hB0 hS; replace B77 := Zx B77 hS; replace B78 := Zx B78 hS
 replace hXn := hXn.tr hS
 refine Zo 12 rfl (ZK (ZI zE rfl (h w1 hXn) ?_)); intro v13 w2 E2 hR
 replace hX := hX.trans E2
 refine Zz ?_
 refine ZZ (by kernel_rfl) ?_ _
 exact ⟨_, rfl, hX, hR⟩
theorem unpC_w (w : World) {M : Nat → Prop} {R : World → Prop} {b0 : Nat} {b77 b78 : Nat} {t : Int} {o : OpD} {nv hv : Value} {x : Xl} (B77 : Zj w b77 (wkC (some ⟨b78, 0, none⟩) t o nv hv x)) {ep pl gp rt : Nat} {q0 q1 q2 q3 : Option Addr} {rv : Value} (B78 : Zj w b78 [.pointer (some ⟨ep, 0, none⟩), .pointer (some ⟨pl, 0, none⟩), .pointer (some ⟨gp, 0, none⟩), .pointer (some ⟨rt, 0, none⟩), .pointer q0, .pointer q1, .pointer q2, .pointer q3, rv, .int .i64 0]) (hB0 : Zj w b0 [(Zpt b77)]) (h : ∀ w1, Ext Non w w1 → FnM Tryz.prog M 175 #[.pointer (some ⟨ep, 0, none⟩), .int .i64 t] w1 fun _ w2 => R w2) : FnM Tryz.prog M 204 #[(Zpt b0)] w fun u w' => R w' := by
 have hXn := Ext.refl Non w
 have hX := Ext.refl M w
 refine Zfm (args := [_]) Tryz.func204 rfl rfl ?_
 refine Z5 (fun j => j == 12) mixed ?_; intro w1 E1
 replace hX := hX.tr E1
 replace hB0 := Zx hB0 E1; replace B77 := Zx B77 E1; replace B78 := Zx B78 E1
 replace hXn := hXn.tr E1
 have hS := Ext.refl Non w1
 refine Zt 0 [1, 2, 3, 4, 5, 6, 7, 12] rfl hS (Zv Jg rfl hB0 rfl) (Zt 1 [2, 3, 4, 5, 6, 7, 12] rfl hS (Zr (Zg rfl)) (Zt 2 [3, 4, 5, 6, 7, 12] rfl hS (Zr (Zf f_90_0 rfl)) (Zt 3 [4, 5, 6, 7, 12] rfl hS (Zv Jw rfl B77 rfl) (Zt 4 [5, 6, 7, 12] rfl hS (Zr (Zg rfl)) (Zt 5 [6, 7, 12] rfl hS (Zr (Zf Qp rfl)) (Zt 6 [7, 12] rfl hS (Zr (Zf JV rfl)) (Zt 7 [12] rfl hS (Zv p_97 rfl B78 rfl) (Zt 8 [9, 10, 11, 12] rfl hS (Zv Jg rfl hB0 rfl) ?_))))))))
 refine Zt 9 [10, 11, 12] rfl hS (Zr (Zg rfl)) (Zt 10 [11, 12] rfl hS (Zr (Zf f_90_1 rfl)) (Zt 11 [12] rfl hS (Zv p_3 rfl B77 rfl) ?_))
 replace hX := hX.tr hS
 replace hB0 := Zx hB0 hS; replace B77 := Zx B77 hS; replace B78 := Zx B78 hS
 replace hXn := hXn.tr hS
 refine Zo 12 rfl (ZK (ZI zE rfl (h w1 hXn) ?_)); intro v13 w2 E2 hR
 replace hX := hX.trans E2
 refine Zz ?_
 refine ZZ (by kernel_rfl) ?_ _
 exact ⟨_, rfl, hX, hR⟩
theorem look2_w (w : World) {S : Type} {Y : Sys S} {me : Nat} {G : Tg} {r : Out S} {b0 : Nat} {b77 b78 : Nat} {t : Int} {o : OpD} {nv hv : Value} {x : Xl} (B77 : Zj w b77 (wkC (some ⟨b78, 0, none⟩) t o nv hv x)) {ep pl gp rt : Nat} {q0 q1 q2 q3 : Option Addr} {rv : Value} (B78 : Zj w b78 [.pointer (some ⟨ep, 0, none⟩), .pointer (some ⟨pl, 0, none⟩), .pointer (some ⟨gp, 0, none⟩), .pointer (some ⟨rt, 0, none⟩), .pointer q0, .pointer q1, .pointer q2, .pointer q3, rv, .int .i64 0]) (hB0 : Zj w b0 [(Zpt b77)]) (h : ∀ w1, Ext Non w w1 → MkS Y Tryz.prog me 73 #[.pointer (some ⟨rt, 0, none⟩), .func (.func 75) #[] #[(Zpt b0)]] (Kx me G w) w1 r) : FnM Tryz.prog (Wr me G) 72 #[(Zpt b0)] w fun u w' => Xh Y Tryz.prog me G w r u w' := by
 have hXn := Ext.refl Non w
 have hX := Ext.refl (Wr me G) w
 refine Zfm (args := [_]) Tryz.func72 rfl rfl ?_
 refine Zs (Za ?_)
 refine Zc (Zs (Zb (Zi Jg rfl hB0 rfl) (Zb (Zg rfl) (Zb (Zf f_90_0 rfl) (Zb (Zi Jw rfl B77 rfl) (Zw zE rfl (croot_ok w B78) ?_)))))); intro v6 w1 E1 R1
 replace hX := hX.tr E1
 replace hB0 := Zx hB0 E1; replace B77 := Zx B77 E1; replace B78 := Zx B78 E1
 replace hXn := hXn.tr E1
 subst R1
 refine Zb (ZL rfl) ?_
 have hXc := hXn
 refine ZI zE rfl (h w1 hXn) ?_; intro v8 w2 E2 hR
 replace hX := hX.wr ZW E2
 refine Za ?_
 refine Zc (ZB ?_)
 exact ⟨_, ZD (Zh rfl), hX, hR.pre ZW hXc.size⟩
theorem look21_w (w : World) {S : Type} {Y : Sys S} {me : Nat} {G : Tg} {r : Out S} {b1 : Nat} {now : Int × Int} (h : ∀ (w1 : World) (b2 b4 : Nat), Ext Non w w1 → b2 ≠ b4 → w.heap.size ≤ b2 → Zj w1 b2 [.int .i64 now.1, .int .i64 now.2] → w.heap.size ≤ b4 → Zj w1 b4 [XV, XV] → MkS Y Tryz.prog me 62 #[.func (.func 76) #[] #[(Zpt b1), (Zpt b2), (Zpt b4)], .func (.func 79) #[] #[(Zpt b4), (Zpt b1), (Zpt b2)]] (Kw me G w b4) w1 r) : FnM Tryz.prog (Wr me G) 75 #[.agg #[.int .i64 now.1, .int .i64 now.2], (Zpt b1)] w fun u w' => Xh Y Tryz.prog me G w r u w' := by
 have hXn := Ext.refl Non w
 have hX := Ext.refl (Wr me G) w
 refine Zfm (args := [_, _]) Tryz.func75 rfl rfl ?_
 refine Zs (ZY rfl ?_); intro b2 w1 hb2 E1 B2
 have hq2 := Zq hX hb2
 replace hX := hX.tr E1
 replace hXn := hXn.tr E1
 refine Za ?_
 refine Zc (Zs (ZT z_152 ?_)); intro b4 w2 hb4 E2 B4
 have hn2_4 := Zn B2 hb4
 have hq4 := Zq hX hb4
 replace hX := hX.tr E2
 replace B2 := Zx B2 E2
 replace hXn := hXn.tr E2
 refine Zc (Zs (Zb (ZL rfl) (Zb (ZL rfl) ?_)))
 have hXc := hXn
 refine ZI zE rfl (h w2 b2 b4 hXn (by omega) hq2 B2 hq4 B4) ?_; intro v7 w3 E3 hR
 replace hX := hX.wr (QD (b := b4)) E3
 refine Za ?_
 refine Zc (ZB ?_)
 exact ⟨_, ZD (Zh rfl), hX, hR.pre (QD (b := b4)) hXc.size⟩
theorem matchC_w (w : World) {M : Nat → Prop} {Q : Value → Value → World → Prop} {A : Option Addr → Int → Prop} {b0 b1 b2 : Nat} {now : Int × Int} {b77 b78 : Nat} {t : Int} {o : OpD} {nv hv : Value} {x : Xl} (B77 : Zj w b77 (wkC (some ⟨b78, 0, none⟩) t o nv hv x)) (hM2 : M b2) (hB0 : Zj w b0 [(Zpt b77)]) (B1 : Zj w b1 [.int .i64 now.1, .int .i64 now.2]) (hRd : ∀ w1, Ext Non w w1 → Fn Tryz.prog 77 #[(Zpt b78), .agg #[.int .i64 now.1, .int .i64 now.2]] w1 fun u _ => ∃ p len, u = .agg #[.pointer p, .int .i64 len] ∧ A p len) (h : ∀ w1 p len, Ext Non w w1 → A p len → FnM Tryz.prog M 78 #[.agg #[.pointer p, .int .i64 len], Sv o.text] w1 fun u w2 => ∃ v1 v2, u = .agg #[v1, v2] ∧ v1.oneCell' = true ∧ v2.oneCell' = true ∧ Zj w2 b2 [XV, XV] ∧ Q v1 v2 w2) : FnM Tryz.prog M 76 #[(Zpt b0), (Zpt b1), (Zpt b2)] w fun u w' => ∃ v1 v2 w1, Q v1 v2 w1 ∧ v1.oneCell' = true ∧ v2.oneCell' = true ∧ Ext (fun i => i = b2) w1 w' ∧ Zj w' b2 [v1, v2] ∧ w'.heap.size = w1.heap.size := by
 have hXn := Ext.refl Non w
 have hX := Ext.refl M w
 refine Zfm (args := [_, _, _]) Tryz.func76 rfl rfl ?_
 refine Z5 (fun j => j == 11 || j == 12) mixed ?_; intro w1 E1
 replace hX := hX.tr E1
 replace hB0 := Zx hB0 E1; replace B1 := Zx B1 E1; replace B77 := Zx B77 E1
 replace hXn := hXn.tr E1
 have hS := Ext.refl Non w1
 refine Zt 0 [1, 2, 3, 5, 11, 12] rfl hS (Zv Jg rfl hB0 rfl) (Zt 1 [2, 3, 5, 11, 12] rfl hS (Zr (Zg rfl)) (Zt 2 [3, 5, 11, 12] rfl hS (Zr (Zf f_90_0 rfl)) (Zt 3 [5, 11, 12] rfl hS (Zv Jw rfl B77 rfl) (Zt 4 [5, 11, 12] rfl hS (ZG fun A hA => ZR Qv rfl rfl (B1.ext hA id)) (Zt 6 [7, 8, 9, 10, 11, 12] rfl hS (Zv Jg rfl hB0 rfl) (Zt 7 [8, 9, 10, 11, 12] rfl hS (Zr (Zg rfl)) (Zt 8 [9, 10, 11, 12] rfl hS (Zr (Zf f_90_2 rfl)) (Zt 9 [10, 11, 12] rfl hS (Zr (Zf f_42_2 rfl)) ?_))))))))
 refine Zt 10 [11, 12] rfl hS (Zv p_9 rfl B77 rfl) (Zo 5 rfl (ZK (Zw zE rfl (hRd w1 (hXn.tr hS)) ?_))); intro v8 w2 E2 R2
 replace hS := hS.tr E2
 obtain ⟨p, len, rfl, hA⟩ := R2
 refine Zc ⟨fun _ => hS, ?_⟩
 replace hX := hX.tr hS
 replace hB0 := Zx hB0 hS; replace B1 := Zx B1 hS; replace B77 := Zx B77 hS
 replace hXn := hXn.tr hS
 refine Zo 11 rfl (ZK (ZI zE rfl (h w2 p len hXn hA) ?_)); intro v14 w3 E3 hR
 obtain ⟨v1, v2, rfl, h12, h22, B2, hQ⟩ := hR
 replace hX := hX.trans E3
 refine Zz ?_
 refine Zo 12 rfl (ZK (ZS (b := b2) XE rfl rfl rfl (Qc h12 h22) B2 rfl ?_)); intro w4 E4 B2 hz4
 replace hX := hX.mine E4 (.inl hM2)
 have hzz := hz4; have EE := E4
 refine Zz ?_
 refine ZZ (by kernel_rfl) ?_ _
 exact ⟨_, rfl, hX, ⟨_, _, _, hQ, h12, h22, EE, B2, hzz⟩⟩
end Go.Proofs.YtjklgohpminefaaGreatDoorC
