/- Publishing, as a plan: offers, the second look, the locks. -/
import Derived.Test.YtjklgohpminefaaGreatDoorBunQ13
import Derived.Test.YtjklgohpminefaaGreatDoorBunQ11

set_option linter.unusedVariables false
set_option linter.unusedSimpArgs false
set_option maxRecDepth 1000000
namespace Go.Proofs.YtjklgohpminefaaGreatDoorC
open Go.RowKit
section
theorem Qa.sameT {T : Nat → Prop} {G G' : Tg} {w w' : World} {v : Value} {ks : List Int} (hs : Qa (fun i => ¬ T (G i)) w v ks) (h : ZV T G w G' w') : Qa (fun i => ¬ T (G' i)) w' v ks := by
 have h1 : Qa (fun i => ¬ T (G' i) ∨ w.heap.size ≤ i) w v ks := hs.sub fun i hi hlt => by
  rcases hi with hi | hi
  ·rw [h.tag i hlt] at hi; exact hi
  ·omega
 exact (h1.ext h.ext (fun i hi => by
  by_cases hlt : i < w.heap.size
  ·exact .inl (by rw [h.tag i hlt]; exact hi)
  ·exact .inr (by omega))).sub fun i hi _ => .inl hi
def SubJ {β : Type} (me b : Nat) (K : β → Tg → World → Prop) (p : β × List Int) (G : Tg) (w : World) : Prop :=
 Jx me K b p.1 G w ∧ (∃ v1 v2, Bx (wrT me) G w b [v1, v2] ∧ v1.oneCell' = true ∧ v2.oneCell' = true ∧ Qa (fun i => ¬ MyI me (G i)) w (.agg #[v1, v2]) p.2) ∧ Xi ltI p.2 ∧ ∀ s ∈ p.2, s ∈ ([1, 2, 3, 4, 5, 6, 7, 8] : List Int)
theorem SubJ.stb {β : Type} {me b : Nat} {K : β → Tg → World → Prop} : Stb me (SubJ me b K) := fun p G w G' w' h hS => by
 obtain ⟨h1, ⟨v1, v2, h2, h3, h4, h5⟩, h6⟩ := h
 exact ⟨h1.same hS, ⟨v1, v2, h2.same hS (.inr (.inr rfl)), h3, h4, h5.sameT hS.myI⟩, h6⟩
section plans
variable {α : Type} (me : Nat) (ψ : α × Xl → St → Out St) (o : OpD)
def JT (us qs : List Int) (was : Int × Int) (q : (α × (Int × Int)) × (Int × Int)) (s : St) : Out St := if q.2 = was then QC o (pFree me ψ qs) us q.1 s else ⟨false, s, .done⟩
def pAgain (us qs : List Int) (was : Int × Int) (p : α × (Int × Int)) (s : St) : Out St := ⟨true, s, doP fun s => JT me ψ o us qs was (p, s.root) s⟩
def QZ (was : Int × Int) (q : (α × (Int × Int)) × List Int) : St → Out St := locksP St.lockB (St.lock ((me : Int) + 1)) (QB [] q.2) (pAgain me ψ o q.2 (QB [] q.2) was q.1)
def fMatch (now : Int × Int) (p : α × (Int × Int)) (s : St) : Fo ((α × (Int × Int)) × List Int) St := ⟨St.readA now s, (p, Js (St.readT now s) o.text), s⟩
def pLook21 (q : (α × (Int × Int)) × (Int × Int)) (s : St) : Out St := ⟨true, s, doP (Xp (fMatch o q.2) (QZ me ψ o q.2) q.1)⟩
def pLook2 (p : α × (Int × Int)) (s : St) : Out St := ⟨true, s, doP fun s => pLook21 me ψ o (p, s.root) s⟩
def pLook (p : α × (Int × Int)) (s : St) : Out St := ⟨true, s, doP (Xp (fPin me) (pLook2 me ψ o) p)⟩
def pPub (x : α) (s : St) : Out St := pLook me ψ o (x, (0, 0)) s
end plans
theorem plan_in {us : List Int} (h : ∀ s ∈ us, s ∈ ([1, 2, 3, 4, 5, 6, 7, 8] : List Int)) : ∀ i ∈ QB [] us, 0 ≤ i ∧ i < 12 := by
 intro i hi
 have hi2 : i ∈ (qf us).foldl (XS ltI) [] := hi
 rcases (foldK_mem (qf us) [] JI i).1 hi2 with h2 | h2
 ·simp at h2
 ·unfold qf at h2
  rw [List.mem_filter, List.mem_map] at h2
  obtain ⟨⟨s, hs, rfl⟩, _⟩ := h2
  have := h s hs
  simp only [List.mem_cons, List.not_mem_nil, or_false] at this
  rcases this with rfl | rfl | rfl | rfl | rfl | rfl | rfl | rfl <;> decide
theorem in8_len {us : List Int} (hs : Xi ltI us) (h : ∀ s ∈ us, s ∈ ([1, 2, 3, 4, 5, 6, 7, 8] : List Int)) : us.length ≤ 8 := in_len (U := [1, 2, 3, 4, 5, 6, 7, 8]) hs h
section
variable {L : Lay} {me : Nat} {α : Type} {J : α → Tg → World → Prop} {ψ : α × Xl → St → Out St} {o : OpD} {nv : Value} {wb b0 b1 : Nat}
theorem offer_mk {φ : α × (Int × Int) → St → Out St} {fv : Value} (hnv : nv.oneCell' = true) : ∀ (l : List Int) (G : Tg) (w : World) (s : St) (p : α × (Int × Int)) (a : Option Addr) (c : Nat), (coY L).SM G w s → Sl (fun i => ¬ MyI me (G i)) w (.slice a l.length c) 1 (l.map eI) →
  X5 (coY L) Tryz.prog me (PJ me L.c o nv wb J) φ G w fv → PJ me L.c o nv wb J p G w → (QC o φ l p s).al = true → MkS (coY L) Tryz.prog me 145 #[pt wb, .slice a l.length c, fv] G w (QC o φ l p s)
 | [], G, w, s, p, a, c, hM, hL, hn, hJ, ha => by
  obtain ⟨f, fi, cap, hnv, e, h⟩ := hn.call
  rw [hnv]
  refine offer_nil w e fun w1 hE => ?_
  have := h p (Kx me G w) w1 s (ZA hE) ((coY L).same hM (ZA hE)) ha (PJ.stb _ _ _ _ _ hJ (ZA hE))
  rw [capF] at this; exact this
 | i :: l, G, w, s, p, a, c, hM, hL, hn, hJ, ha => by
  obtain ⟨f, fi, cap, hfv, e, h⟩ := hn.call
  obtain ⟨b, oo, rfl⟩ := hL.base (by simp)
  rw [hfv]
  refine offer_cons w fun w1 b3 b4 b5 hE q3 B3 q4 B4 q5 B5 => ?_
  refine Jp (J := PJ me L.c o nv wb J) (J' := PJ me L.c o nv wb J) (F := fOff o i) (ψ := QC o φ l) (x := p) ((coY L).same hM (ZA hE)) ⟨_, #[], _, rfl, zE, fun p' G' w' s' hS hM' ha' hJ' => ?_⟩ ⟨_, #[], _, rfl, zE, fun p' G' w' s' hS hM' ha' hJ' => ?_⟩ (PJ.stb _ _ _ _ _ hJ (ZA hE)) PJ.stb
  ·have k3 : Bx (kpT me) G' w' b3 [pt wb] := (show Bx (kpT me) (Kx me G w) w1 b3 [pt wb] from ⟨B3, Xd q3⟩).same hS (.inr rfl)
   have k4 := hS.box B4 (.inr (Xd q4))
   have SS := (ZA (T := MyI me) (me := me) (G := G) hE).trans hS
   have hM2 : CoM L G' w' s' := hM'
   simp only [fOff, offA, Bool.and_eq_true, decide_eq_true_eq] at ha'
   rw [cap1]
   refine (offerF_w (M := Wr me G') (Q := fun w2 => ∃ G1, Tgs me G' w' G1 w2 ∧ ZV (MyT me) G' w' G1 w2 ∧ CoM L G1 w2 (s'.put i ⟨o.text, o.payload, false⟩)) (tt := s'.putB i) w' hJ'.2.1 hnv ha'.2.1.1 ⟨ha'.2.1.2, ha'.2.2⟩ (.inr hJ'.2.2) k3.1 k4 (SS.sl hL) fun w2 E2 => ?_).mono ?_
   ·refine ((put_co (me := me) (m := ⟨o.text, o.payload, false⟩) ((coY L).same hM' (ZA (me := me) E2)) ha'.1).sub (fun j => wr_kx)).mono ?_
    rintro u w3 hX ⟨rfl, G1, t1, t2, t3⟩
    have hT := (ZA (T := MyT me) (me := me) (G := G') E2).trans t2
    exact ⟨rfl, (k3.same hT (.inr (.inl rfl))).1, (hJ'.2.same hT (.inr (.inr rfl))).1, G1, ZW.trans E2.size t1, hT, t3⟩
   ·rintro u w3 hX ⟨w2, ⟨G1, t1, t2, t3⟩, E1, hz, hB⟩
    have hb5 := hJ'.2.same t2 (.inr (.inr rfl))
    refine ⟨G1, t1.sized hz, (coY L).same (show (coY L).SM G1 w2 _ from t3) (Q8 E1 hb5.2 JP), (hJ'.1.same t2).write E1, ?_, hb5.2⟩
    unfold fOff offT Jq
    by_cases hb : s'.putB i = true
    ·rw [if_pos hb] at hB; simp only [hb, if_true]; exact hB
    ·rw [if_neg hb] at hB; simp only [hb, if_false]; exact hB
  ·have k3 := hS.box B3 (.inr (Xd q3)); have k4 := hS.box B4 (.inr (Xd q4)); have k5 := hS.box B5 (.inr (Xd q5))
   have SS := (ZA (T := MyI me) (me := me) (G := G) hE).trans hS
   have hL' := sl_tail (SS.sl hL)
   rw [Q6]
   refine offer2_w (Y := coY L) (r := QC o φ l p' s') w' rfl hL'.2 k3 k4 k5 fun w2 E2 => ?_
   rw [← hfv]
   exact offer_mk hnv l _ w2 s' p' _ _ ((coY L).same hM' (ZA E2)) ((ZA E2).sl hL'.1) ((hn.same SS).same (ZA E2)) (PJ.stb _ _ _ _ _ hJ' (ZA E2)) ha'
theorem n_again1 {φ : α × (Int × Int) → St → Out St} {G : Tg} {w : World} {was : Int × Int} {b2 b3 b4 : Nat} {v1 v2 : Value} {us : List Int} (hnv : nv.oneCell' = true) (h11 : v1.oneCell' = true) (h21 : v2.oneCell' = true) (hset : Qa (fun i => ¬ MyI me (G i)) w (.agg #[v1, v2]) us) (hul : us.length ≤ 8)
  (B1 : Bx (kpT me) G w b1 [.int .i64 was.1, .int .i64 was.2]) (B2 : Bx (kpT me) G w b2 [pt wb]) (B4 : Bx (kpT me) G w b4 [v1, v2]) (hn : X5 (coY L) Tryz.prog me (PJ me L.c o nv wb J) φ G w (.func (.func 146) #[] #[pt b2, pt b3])) :
  X1 (coY L) Tryz.prog me (fun q : (α × (Int × Int)) × (Int × Int) => PJ me L.c o nv wb J q.1) (fun q => #[(fun v : Int × Int => (.agg #[.int .i64 v.1, .int .i64 v.2] : Value)) q.2]) (fun q s => if q.2 = was then QC o φ us q.1 s else ⟨false, s, .done⟩) G w (.func (.func 141) #[] #[pt b1, pt b2, pt b3, pt b4]) := by
 refine ⟨_, #[], _, rfl, zE, fun q G' w' s hS hM ha hJ => ?_⟩
 by_cases hq : q.2 = was
 ·have ha2 : (QC o φ us q.1 s).al = true := by have := ha; simp only [hq, if_true] at this; exact this
  have e : (if q.2 = was then QC o φ us q.1 s else ⟨false, s, .done⟩) = QC o φ us q.1 s := if_pos hq
  show MkS (coY L) Tryz.prog me _ (#[] ++ #[(.agg #[.int .i64 q.2.1, .int .i64 q.2.2] : Value)] ++ #[pt b1, pt b2, pt b3, pt b4]) G' w' (if q.2 = was then QC o φ us q.1 s else ⟨false, s, .done⟩)
  rw [e, hq]
  have key : MkS (coY L) Tryz.prog me 141 #[.agg #[.int .i64 was.1, .int .i64 was.2], pt b1, pt b2, pt b3, pt b4] G' w' (QC o φ us q.1 s) := by
   refine again1_w (Y := coY L) (l := us) (now := was) (b77 := wb) (r := QC o φ us q.1 s) w' h11 h21 (hS.box B1.1 (.inr B1.2)) (hS.box B2.1 (.inr B2.2)) (hS.box B4.1 (.inr B4.2)) (fun w1 hE => ?_) (by omega) fun w1 qa qc hE hL => ?_
   ·exact all_ok w1 us Non (fun _ h => h.elim) (((hset.sameT hS).sub (M' := Non) (fun _ h _ => h.elim)).ext hE (fun _ h => h.elim))
   ·refine offer_mk hnv us _ w1 s q.1 qa qc ((coY L).same hM (ZA hE)) (hL.sub fun i hi _ => ?_) ((hn.same hS).same (ZA hE)) (PJ.stb _ _ _ _ _ hJ (ZA hE)) ha2
    by_cases hlt : i < w'.heap.size
    ·exact hlt
    ·exact absurd (.inr (Xd (by omega))) hi
  simpa using key
 ·exfalso; have := ha; simp only [hq, if_false] at this; cases this
theorem again_mk {G : Tg} {w : World} {s : St} {p : α × (Int × Int)} {was : Int × Int} {v1 v2 : Value} {us qs : List Int} {qa : Option Addr} {qc : Nat} (hs : Stb me J) (hme : me ≤ 1000) (hk : o.keep = false) (hn : X1 (coY L) Tryz.prog me (fun p : α × Xl => J p.1) (fun p => #[.agg p.2.enc.toArray]) ψ G w nv) (h11 : v1.oneCell' = true) (h21 : v2.oneCell' = true) (hset : Qa (fun i => ¬ MyI me (G i)) w (.agg #[v1, v2]) us) (hul : us.length ≤ 8)
  (hqs : ∀ i ∈ qs, 0 ≤ i ∧ i < 12) (hQ : Sl (fun i => ¬ MyI me (G i)) w (.slice qa qs.length qc) 1 (qs.map eI)) (hM : (coY L).SM G w s) (hJ : PJ me L.c o nv wb J p G w) :
  MkS (coY L) Tryz.prog me 82 #[pt wb, .agg #[.int .i64 was.1, .int .i64 was.2], .agg #[v1, v2], .slice qa qs.length qc] G w (pAgain me ψ o us qs was p s) := by
 refine again_w (Y := coY L) (r := pAgain me ψ o us qs was p s) w hJ.2.1 (Qo hM).core.1 fun w1 b4 b5 b6 b7 hE q4 B4 q5 B5 q6 B6 q7 B7 => ?_
 have SS : ZV (MyI me) G w (Kx me G w) w1 := ZA hE
 have k4 : Bx (kpT me) (Kx me G w) w1 b4 [pt wb] := ⟨B4, Xd q4⟩
 have k7 : Bx (kpT me) (Kx me G w) w1 b7 [.slice qa qs.length qc] := ⟨B7, Xd q7⟩
 refine stlR_mk (J := PJ me L.c o nv wb J) (x := p) (val := fun s : St => s.root) (ψ := JT me ψ o us qs was) ((coY L).same hM (ZA hE)) load_co ?_ (PJ.stb _ _ _ _ _ hJ (ZA hE)) PJ.stb
 exact n_again1 (φ := pFree me ψ qs) (JN hn) h11 h21 (hset.sameT SS) hul ⟨B5, Xd q5⟩ k4 ⟨B6, Xd q6⟩
  (n_keep hk k4 (n_free hme hqs (SS.sl hQ) k4 k7 fun G2 w2 hS2 hb2 => n_leave hb2 fun G3 w3 S3 hb3 => n_held hb3 hme fun G4 w4 S4 hb4 => n_ans hs ((((hn.same SS).same hS2).same S3).same S4) hb4))
end
end
section
section
variable {L : Lay} {me : Nat} {α : Type} {J : α → Tg → World → Prop} {ψ : α × Xl → St → Out St} {o : OpD} {nv : Value} {wb b0 b1 b2 bS : Nat} {G : Tg} {w : World}
theorem n_second {was : Int × Int} {qs : List Int} {qa : Option Addr} {qc b4 : Nat} (hs : Stb me J) (hme : me ≤ 1000) (hk : o.keep = false) (hn : X1 (coY L) Tryz.prog me (fun p : α × Xl => J p.1) (fun p => #[.agg p.2.enc.toArray]) ψ G w nv)
  (hqs : ∀ i ∈ qs, 0 ≤ i ∧ i < 12) (hQ : Sl (fun i => ¬ MyI me (G i)) w (.slice qa qs.length qc) 1 (qs.map eI)) (B1 : Bx (kpT me) G w b1 [pt wb]) (B2 : Bx (kpT me) G w b2 [.int .i64 was.1, .int .i64 was.2]) (B4 : Bx (kpT me) G w b4 [.slice qa qs.length qc]) :
  X5 (coY L) Tryz.prog me (SubJ me bS (PJ me L.c o nv wb J)) (fun q => pAgain me ψ o q.2 qs was q.1) G w (.func (.func 81) #[] #[pt b1, pt b2, pt bS, pt b4]) := by
 refine ⟨_, #[], _, rfl, zE, fun q G' w' s hS hM ha hJ => ?_⟩
 rw [Q6]
 obtain ⟨hJ1, ⟨v1, v2, hBS, h11, h21, hset⟩, hso, hin⟩ := hJ
 refine look2121_w (Y := coY L) (now := was) (r := pAgain me ψ o q.2 qs was q.1 s) w' h11 h21 (B1.same hS (.inr rfl)).1 (B2.same hS (.inr rfl)).1 hBS.1 (B4.same hS (.inr rfl)).1 fun w1 hE => ?_
 have SI : ZV (MyI me) G' w' (Kx me G' w') w1 := ZA hE
 exact again_mk hs hme hk ((hn.same hS).same SI) h11 h21 (hset.sameT SI) (in8_len hso hin) hqs (SI.sl (hS.sl hQ)) ((coY L).same hM (ZA hE)) (PJ.stb _ _ _ _ _ (hJ1.get PJ.stb) (ZA hE))
theorem n_plan {was : Int × Int} (hs : Stb me J) (hme : me ≤ 1000) (hk : o.keep = false) (hn : X1 (coY L) Tryz.prog me (fun p : α × Xl => J p.1) (fun p => #[.agg p.2.enc.toArray]) ψ G w nv) (B1 : Bx (kpT me) G w b1 [pt wb]) (B2 : Bx (kpT me) G w b2 [.int .i64 was.1, .int .i64 was.2]) :
  X5 (coY L) Tryz.prog me (SubJ me bS (PJ me L.c o nv wb J)) (QZ me ψ o was) G w (.func (.func 79) #[] #[pt bS, pt b1, pt b2]) := by
 refine ⟨_, #[], _, rfl, zE, fun q G' w' s hS hM ha hJ => ?_⟩
 rw [Q6]
 have hJ0 := hJ
 obtain ⟨hJ1, ⟨v1, v2, hBS, h11, h21, hset⟩, hso, hin⟩ := hJ
 have hPJ := hJ1.get PJ.stb
 have hb1 := B1.same hS (.inr rfl)
 have hul := in8_len hso hin
 refine look212_w (Y := coY L) (l := QB [] q.2) (r := QZ me ψ o was q s) w' hPJ.2.1 (Qo hM).core.1 (by omega) hBS.1 h11 h21 hb1.1 (fun w1 hE => ?_) fun w1 b4 qa qc hE q4 B4 hL => ?_
 ·exact plan_ok w1 [] q.2 (Sl.nil _ _ _) ((hset.sub (M' := Non) (fun _ h _ => h.elim)).ext hE (fun _ h => h.elim)) hso (by simp) (by omega)
 ·have SI : ZV (MyI me) G' w' (Kx me G' w') w1 := ZA hE
  have hL' : Sl (fun i => ¬ MyI me (Kx me G' w' i)) w1 (.slice qa (QB [] q.2).length qc) 1 ((QB [] q.2).map eI) := hL.sub fun i hi _ => by
   by_cases hlt : i < w'.heap.size
   ·exact hlt
   ·exact absurd (.inr (Xd (by omega))) hi
  exact locks_mk (lvf := lvf L) (J := SubJ me bS (PJ me L.c o nv wb J)) (φ := fun q' => pAgain me ψ o q'.2 (QB [] q.2) was q'.1) SubJ.stb (QB [] q.2) _ w1 s q qa qc ((coY L).same hM (ZA hE)) (grp_co ((Qo hM).same (ZA (T := Cor) (me := me) hE) (by unfold Cor; omega)) (plan_in hin) (by omega)) hL'
   (n_second hs hme hk ((hn.same hS).same SI) (plan_in hin) hL' (hb1.same SI (.inr rfl)) ((B2.same hS (.inr rfl)).same SI (.inr rfl)) ⟨B4, Xd q4⟩) (SubJ.stb _ _ _ _ _ hJ0 (ZA hE)) ha
theorem n_look21 (hs : Stb me J) (hme : me ≤ 1000) (hk : o.keep = false) (hnt : o.text.length ≤ 1000000) (hn : X1 (coY L) Tryz.prog me (fun p : α × Xl => J p.1) (fun p => #[.agg p.2.enc.toArray]) ψ G w nv) (B1 : Bx (kpT me) G w b1 [pt wb]) :
  X1 (coY L) Tryz.prog me (fun q : (α × (Int × Int)) × (Int × Int) => PJ me L.c o nv wb J q.1) (fun q => #[(fun v : Int × Int => (.agg #[.int .i64 v.1, .int .i64 v.2] : Value)) q.2]) (pLook21 me ψ o) G w (.func (.func 75) #[] #[pt b1]) := by
 refine ⟨_, #[], _, rfl, zE, fun q G' w' s hS hM ha hJ => ?_⟩
 have hb1 := B1.same hS (.inr rfl)
 have key : MkS (coY L) Tryz.prog me 75 #[.agg #[.int .i64 q.2.1, .int .i64 q.2.2], pt b1] G' w' (pLook21 me ψ o q s) := by
  refine look21_w (Y := coY L) (now := q.2) (r := pLook21 me ψ o q s) w' fun w1 b2 b4 hE n24 q2 B2 q4 B4 => ?_
  have SI : ZV (MyI me) G' w' (Kw me G' w' b4) w1 := XU hE
  refine Jp (J := fun p G w => Jx me (PJ me L.c o nv wb J) b4 p G w ∧ Bx (wrT me) G w b4 [XV, XV]) (J' := SubJ me b4 (PJ me L.c o nv wb J)) (F := fMatch o q.2) (ψ := QZ me ψ o q.2) (x := q.1) ((coY L).same hM (XU hE)) ⟨_, #[], _, rfl, zE, fun p G2 w2 s2 hS2 hM2 ha2 hJ2 => ?_⟩
   (n_plan hs hme hk ((hn.same hS).same SI) (hb1.same SI (.inr rfl)) ⟨B2, QW q2 n24⟩) ⟨Jx.here hJ (XU hE) q4, B4, kw_b q4⟩ (fun x G w G' w' h hS => ⟨h.1.same hS, h.2.same hS (.inr (.inr rfl))⟩)
  have hM2' : CoM L G2 w2 s2 := hM2
  have hPJ := hJ2.1.get PJ.stb
  have k1 : Bx (kpT me) G2 w2 b1 [pt wb] := (hb1.same SI (.inr rfl)).same hS2 (.inr rfl)
  have k2 : Bx (kpT me) G2 w2 b2 [.int .i64 q.2.1, .int .i64 q.2.2] := (show Bx (kpT me) (Kw me G' w' b4) w1 b2 _ from ⟨B2, QW q2 n24⟩).same hS2 (.inr rfl)
  have hb4 := hJ2.2
  rw [cap1]
  refine (matchC_w (M := Wr me G2) (A := fun p len => TrM (fun i => ¬ G2 i = 0) w2 (St.readT q.2 s2) (.pointer p) ∧ Jr (St.readT q.2 s2)) (Q := fun v1 v2 w3 => Ext Non w2 w3 ∧ Qa (fun i => ¬ G2 i = 0 ∧ i < w2.heap.size) w3 (.agg #[v1, v2]) (Js (St.readT q.2 s2) o.text) ∧ Xi ltI (Js (St.readT q.2 s2) o.text) ∧ ∀ x ∈ Js (St.readT q.2 s2) o.text, x ∈ ([1, 2, 3, 4, 5, 6, 7, 8] : List Int)) w2 hPJ.2.1 (.inr hb4.2) k1.1 k2.1 (fun w3 E3 => ?_) fun w3 p' len E3 hA => ?_).mono ?_
  ·refine (read_co hM2' E3 (r := q.2) ha2).mono fun u w4 E4 h => ?_
   obtain ⟨p', rfl, hT, hsm⟩ := h
   exact ⟨p', _, rfl, hT, hsm⟩
  ·obtain ⟨hT, n, m, hok, hn1, hin⟩ := hA
   have hT' : TrM (fun i => ¬ G2 i = 0 ∧ i < w2.heap.size) w3 (St.readT q.2 s2) (.pointer p') := (hT.sub (M' := fun i => ¬ G2 i = 0 ∧ i < w2.heap.size) (fun i hi _ => hi.1)).ext E3 (fun _ h => h.elim)
   have hm := tmatchM_ok w3 (St.readT q.2 s2) len o.text hnt [1, 2, 3, 4, 5, 6, 7, 8] (by decide) hok hn1 hin (fun i => ¬ G2 i = 0 ∧ i < w2.heap.size) (fun i hi => Zlt hi.2 E3.size) hT'
   have hm' : FnM Tryz.prog Non 78 #[.agg #[.pointer p', .int .i64 len], Sv o.text] w3 _ := hm
   refine (hm'.mono ?_).sub (fun _ h => h.elim)
   rintro u w4 E4 hR
   obtain ⟨v1, v2, us, rfl, hMp⟩ := id hR
   obtain ⟨a1, l1, c1, rfl⟩ := hMp.keys.shape; obtain ⟨a2, l2, c2, rfl⟩ := hMp.vals.shape
   have hsr : Xi ltI (Js (St.readT q.2 s2) o.text) ∧ ∀ x ∈ Js (St.readT q.2 s2) o.text, x ∈ ([1, 2, 3, 4, 5, 6, 7, 8] : List Int) := by
    unfold Js; split
    ·exact mt_in _ _ true _ [] hok hin JI (by simp)
    ·exact ⟨JI, by simp⟩
   exact ⟨_, _, rfl, rfl, rfl, (hb4.1.ext (E3.trans E4) id), E3.trans E4, hR, hsr⟩
  ·rintro u w5 hX ⟨v1, v2, w4, ⟨E4, hset, hsr⟩, h12, h22, E5, B5, hz5⟩
   have S4 : ZV (MyT me) G2 w2 (Kx me G2 w2) w4 := ZA E4
   have hb44 := hb4.same S4 (.inr (.inr rfl))
   have hS5 : ZV (MyI me) (Kx me G2 w2) w4 (Kx me G2 w2) w5 := Q8 E5 hb44.2 myI_wr
   refine ⟨Kx me G2 w2, (ZW (w' := w4)).sized hz5, (coY L).same ((coY L).same hM2 (ZA (me := me) E4)) (Q8 E5 hb44.2 JP), (hJ2.1.same S4).write E5, ⟨v1, v2, ⟨B5, hb44.2⟩, h12, h22, ?_⟩, hsr.1, hsr.2⟩
   have h1 : Qa (fun i => ¬ MyI me (Kx me G2 w2 i)) w4 (.agg #[v1, v2]) (Js (St.readT q.2 s2) o.text) := hset.sub fun i hi _ => by
    by_cases hlt : i < w2.heap.size
    ·refine ⟨fun h0 => hi (.inl ?_), hlt⟩
     exact (Xf hlt).trans h0
    ·exact absurd (.inr (Xd (by omega))) hi
   exact h1.sameT hS5
 simpa using key
theorem n_look2 (hs : Stb me J) (hme : me ≤ 1000) (hk : o.keep = false) (hnt : o.text.length ≤ 1000000) (hn : X1 (coY L) Tryz.prog me (fun p : α × Xl => J p.1) (fun p => #[.agg p.2.enc.toArray]) ψ G w nv) (B1 : Bx (kpT me) G w b1 [pt wb]) :
  X5 (coY L) Tryz.prog me (PJ me L.c o nv wb J) (pLook2 me ψ o) G w (.func (.func 72) #[] #[pt b1]) := by
 refine ⟨_, #[], _, rfl, zE, fun p G' w' s hS hM ha hJ => ?_⟩
 rw [Q6]
 have hb1 := B1.same hS (.inr rfl)
 refine look2_w (Y := coY L) (r := pLook2 me ψ o p s) w' hJ.2.1 (Qo hM).core.1 hb1.1 fun w1 hE => ?_
 have SI : ZV (MyI me) G' w' (Kx me G' w') w1 := ZA hE
 exact stlR_mk (J := PJ me L.c o nv wb J) (x := p) (val := fun s : St => s.root) (ψ := pLook21 me ψ o) ((coY L).same hM (ZA hE)) load_co (n_look21 hs hme hk hnt ((hn.same hS).same SI) (hb1.same SI (.inr rfl))) (PJ.stb _ _ _ _ _ hJ (ZA hE)) PJ.stb
theorem look_mk {p : α × (Int × Int)} {s : St} (hs : Stb me J) (hme : me ≤ 1000) (hk : o.keep = false) (hnt : o.text.length ≤ 1000000) (hn : X1 (coY L) Tryz.prog me (fun p : α × Xl => J p.1) (fun p => #[.agg p.2.enc.toArray]) ψ G w nv) (hM : (coY L).SM G w s) (hJ : PJ me L.c o nv wb J p G w) :
  MkS (coY L) Tryz.prog me 34 #[pt wb] G w (pLook me ψ o p s) := by
 refine look_w (Y := coY L) (r := pLook me ψ o p s) w fun w1 b1 hE q1 B1 => ?_
 have SI : ZV (MyI me) G w (Kx me G w) w1 := ZA hE
 have k1 : Bx (kpT me) (Kx me G w) w1 b1 [pt wb] := ⟨B1, Xd q1⟩
 refine Jp (J := PJ me L.c o nv wb J) (J' := PJ me L.c o nv wb J) (F := fPin me) (ψ := pLook2 me ψ o) (x := p) ((coY L).same hM (ZA hE)) ⟨_, #[], _, rfl, zE, fun x G3 w3 s3 S3 M3 ha3 hJ3 => ?_⟩ (n_look2 hs hme hk hnt (hn.same SI) k1) (PJ.stb _ _ _ _ _ hJ (ZA hE)) PJ.stb
 have hM3' : CoM L G3 w3 s3 := M3
 rw [cap1]
 refine pinC_w w3 hJ3.2.1 hM3'.frz.core.1 (k1.same S3 (.inr rfl)).1 fun w4 E4 => ?_
 refine ((pin_co (me := me) ((coY L).same M3 (ZA (me := me) E4)) ha3).sub (fun i => wr_kx)).mono ?_
 rintro u w5 E5 ⟨G5, t1, t2, t3⟩
 exact ⟨G5, ZW.trans E4.size t1, t3, PJ.stb _ _ _ _ _ hJ3 ((ZA E4).trans t2)⟩
theorem publish_mk {x : α} {s : St} (hs : Stb me J) (hme : me ≤ 1000) (hk : o.keep = false) (hnt : o.text.length ≤ 1000000) (hnp : o.payload.length ≤ 1000000) (he : kErr o.text o.payload = 0) (hn : X1 (coY L) Tryz.prog me (fun p : α × Xl => J p.1) (fun p => #[.agg p.2.enc.toArray]) ψ G w nv) (hM : (coY L).SM G w s) (hJ : J x G w) :
  MkS (coY L) Tryz.prog me 9 #[pt L.c, .int .i64 (me : Nat), .agg o.enc.toArray, nv] G w (pPub me ψ o x s) := by
 obtain ⟨f, fi, cap, hnv, e, h⟩ := hn.call
 rw [hnv]
 refine publish_w (Y := coY L) (r := pPub me ψ o x s) w (me : Nat) o hk hnt hnp he (Qo hM).core.1 (by omega) fun w1 b36 hE q36 hB36 => ?_
 rw [← hnv] at hB36
 have SI : ZV (MyI me) G w (Kw me G w b36) w1 := XU hE
 have hM1 := (coY L).same hM (XU (me := me) (b := b36) hE)
 have hJ1 : PJ me L.c o nv b36 J (x, (0, 0)) (Kw me G w b36) w1 := ⟨Jx.here hJ (XU hE) q36, hB36, kw_b q36⟩
 have hkey := locks_mk (Y := coY L) (lvf := lvf L) (okf := St.lockB) (stf := St.lock ((me : Int) + 1)) (o := (me : Int) + 1) (gv := pt L.gp) (J := PJ me L.c o nv b36 J) (φ := pLook me ψ o) (nv := .func (.func 34) #[pt b36] #[]) PJ.stb [] (Kw me G w b36) w1 s (x, (0, 0)) none 0 hM1 ⟨rfl, rfl, fun i hi => absurd hi (by simp)⟩ (Sl.nil _ _ _)
  ⟨_, #[pt b36], #[], rfl, zE, fun p G2 w2 s2 hS2 hM2 ha2 hJ2 => by
   have := look_mk (G := G2) (w := w2) (p := p) (s := s2) hs hme hk hnt ((hn.same SI).same hS2) hM2 hJ2
   simpa using this⟩ hJ1 rfl
 exact hkey
end
end
abbrev wsC (c : Option Addr) (t sub : Int) (fl : Str) (nv ov : Value) : List Value := [.pointer c, .int .i64 t, .int .i64 sub, Sv fl, nv, ov, .int .i64 0, .int .i64 0, .int .i64 0, Sv [], Sv [], .bool false, .slice none 0 0]
theorem send_w (w : World) {S : Type} {Y : Sys S} {me : Nat} {G : Tg} {r : Out S} {b77 : Nat} (h : ∀ (w1 : World) (b1 : Nat) , Ext Non w w1 → w.heap.size ≤ b1 → Zj w1 b1 [(Zpt b77)] → MkS Y Tryz.prog me 62 #[.func (.func 174) #[] #[(Zpt b1)], .func (.func 176) #[] #[(Zpt b1)]] (Kx me G w) w1 r) : FnM Tryz.prog (Wr me G) 94 #[(Zpt b77)] w fun u w' => Xh Y Tryz.prog me G w r u w' := by
 have hXn := Ext.refl Non w
 have hX := Ext.refl (Wr me G) w
 refine Zfm (args := [_]) Tryz.func94 rfl rfl ?_
 refine Zs (ZP (by conv => lhs; whnf) rfl ?_); intro b1 w1 hb1 E1 B1
 have hq1 := Zq hX hb1
 replace hX := hX.tr E1
 replace hXn := hXn.tr E1
 refine Za ?_
 refine Zc (Zs (Zb (ZL rfl) (Zb (ZL rfl) ?_)))
 have hXc := hXn
 refine ZI zE rfl (h w1 b1 hXn hq1 B1) ?_; intro v5 w2 E2 hR
 replace hX := hX.wr ZW E2
 refine Za ?_
 refine Zc (ZB ?_)
 exact ⟨_, ZD (Zh rfl), hX, hR.pre ZW hXc.size⟩
theorem spin_w (w : World) {M : Nat → Prop} {R : World → Prop} {b0 : Nat} {b77 b78 : Nat} {t sub : Int} {fl : Str} {nv ov : Value} (B77 : Zj w b77 (wsC (some ⟨b78, 0, none⟩) t sub fl nv ov)) {ep pl gp rt : Nat} {q0 q1 q2 q3 : Option Addr} {rv : Value} (B78 : Zj w b78 [.pointer (some ⟨ep, 0, none⟩), .pointer (some ⟨pl, 0, none⟩), .pointer (some ⟨gp, 0, none⟩), .pointer (some ⟨rt, 0, none⟩), .pointer q0, .pointer q1, .pointer q2, .pointer q3, rv, .int .i64 0]) (hB0 : Zj w b0 [(Zpt b77)]) (h : ∀ w1, Ext Non w w1 → FnM Tryz.prog M 71 #[.pointer (some ⟨ep, 0, none⟩), .int .i64 t] w1 fun _ w2 => R w2) : FnM Tryz.prog M 155 #[(Zpt b0)] w fun u w' => R w' := by
 have hXn := Ext.refl Non w
 have hX := Ext.refl M w
 refine Zfm (args := [_]) Tryz.func155 rfl rfl ?_
 refine Z5 (fun j => j == 12) mixed ?_; intro w1 E1
 replace hX := hX.tr E1
 replace hB0 := Zx hB0 E1; replace B77 := Zx B77 E1; replace B78 := Zx B78 E1
 replace hXn := hXn.tr E1
 have hS := Ext.refl Non w1
 refine Zt 0 [1, 2, 3, 4, 5, 6, 7, 12] rfl hS (Zv XY rfl hB0 rfl) (Zt 1 [2, 3, 4, 5, 6, 7, 12] rfl hS (Zr (Zg rfl)) (Zt 2 [3, 4, 5, 6, 7, 12] rfl hS (Zr (Zf Jm rfl)) (Zt 3 [4, 5, 6, 7, 12] rfl hS (Zv Jw rfl B77 rfl) (Zt 4 [5, 6, 7, 12] rfl hS (Zr (Zg rfl)) (Zt 5 [6, 7, 12] rfl hS (Zr (Zf Qp rfl)) (Zt 6 [7, 12] rfl hS (Zr (Zf JV rfl)) (Zt 7 [12] rfl hS (Zv p_97 rfl B78 rfl) (Zt 8 [9, 10, 11, 12] rfl hS (Zv XY rfl hB0 rfl) ?_))))))))
 refine Zt 9 [10, 11, 12] rfl hS (Zr (Zg rfl)) (Zt 10 [11, 12] rfl hS (Zr (Zf f_162_1 rfl)) (Zt 11 [12] rfl hS (Zv p_3 rfl B77 rfl) ?_))
 replace hX := hX.tr hS
 replace hB0 := Zx hB0 hS; replace B77 := Zx B77 hS; replace B78 := Zx B78 hS
 replace hXn := hXn.tr hS
 refine Zo 12 rfl (ZK (ZI zE rfl (h w1 hXn) ?_)); intro v13 w2 E2 hR
 replace hX := hX.trans E2
 refine Zz ?_
 refine ZZ (by kernel_rfl) ?_ _
 exact ⟨_, rfl, hX, hR⟩
theorem sunp_w (w : World) {M : Nat → Prop} {R : World → Prop} {b0 : Nat} {b77 b78 : Nat} {t sub : Int} {fl : Str} {nv ov : Value} (B77 : Zj w b77 (wsC (some ⟨b78, 0, none⟩) t sub fl nv ov)) {ep pl gp rt : Nat} {q0 q1 q2 q3 : Option Addr} {rv : Value} (B78 : Zj w b78 [.pointer (some ⟨ep, 0, none⟩), .pointer (some ⟨pl, 0, none⟩), .pointer (some ⟨gp, 0, none⟩), .pointer (some ⟨rt, 0, none⟩), .pointer q0, .pointer q1, .pointer q2, .pointer q3, rv, .int .i64 0]) (hB0 : Zj w b0 [(Zpt b77)]) (h : ∀ w1, Ext Non w w1 → FnM Tryz.prog M 175 #[.pointer (some ⟨ep, 0, none⟩), .int .i64 t] w1 fun _ w2 => R w2) : FnM Tryz.prog M 174 #[(Zpt b0)] w fun u w' => R w' := by
 have hXn := Ext.refl Non w
 have hX := Ext.refl M w
 refine Zfm (args := [_]) Tryz.func174 rfl rfl ?_
 refine Z5 (fun j => j == 12) mixed ?_; intro w1 E1
 replace hX := hX.tr E1
 replace hB0 := Zx hB0 E1; replace B77 := Zx B77 E1; replace B78 := Zx B78 E1
 replace hXn := hXn.tr E1
 have hS := Ext.refl Non w1
 refine Zt 0 [1, 2, 3, 4, 5, 6, 7, 12] rfl hS (Zv XY rfl hB0 rfl) (Zt 1 [2, 3, 4, 5, 6, 7, 12] rfl hS (Zr (Zg rfl)) (Zt 2 [3, 4, 5, 6, 7, 12] rfl hS (Zr (Zf Jm rfl)) (Zt 3 [4, 5, 6, 7, 12] rfl hS (Zv Jw rfl B77 rfl) (Zt 4 [5, 6, 7, 12] rfl hS (Zr (Zg rfl)) (Zt 5 [6, 7, 12] rfl hS (Zr (Zf Qp rfl)) (Zt 6 [7, 12] rfl hS (Zr (Zf JV rfl)) (Zt 7 [12] rfl hS (Zv p_97 rfl B78 rfl) (Zt 8 [9, 10, 11, 12] rfl hS (Zv XY rfl hB0 rfl) ?_))))))))
 refine Zt 9 [10, 11, 12] rfl hS (Zr (Zg rfl)) (Zt 10 [11, 12] rfl hS (Zr (Zf f_162_1 rfl)) (Zt 11 [12] rfl hS (Zv p_3 rfl B77 rfl) ?_))
 replace hX := hX.tr hS
 replace hB0 := Zx hB0 hS; replace B77 := Zx B77 hS; replace B78 := Zx B78 hS
 replace hXn := hXn.tr hS
 refine Zo 12 rfl (ZK (ZI zE rfl (h w1 hXn) ?_)); intro v13 w2 E2 hR
 replace hX := hX.trans E2
 refine Zz ?_
 refine ZZ (by kernel_rfl) ?_ _
 exact ⟨_, rfl, hX, hR⟩
theorem send2_w (w : World) {S : Type} {Y : Sys S} {me : Nat} {G : Tg} {r : Out S} {b0 : Nat} {b77 b78 : Nat} {t sub : Int} {fl : Str} {nv ov : Value} (B77 : Zj w b77 (wsC (some ⟨b78, 0, none⟩) t sub fl nv ov)) (hB0 : Zj w b0 [(Zpt b77)]) (h : ∀ w1, Ext Non w w1 → MkS Y Tryz.prog me 62 #[.func (.func 177) #[(Zpt b78)] #[], .func (.func 178) #[] #[(Zpt b0)]] (Kx me G w) w1 r) : FnM Tryz.prog (Wr me G) 176 #[(Zpt b0)] w fun u w' => Xh Y Tryz.prog me G w r u w' := by
 have hXn := Ext.refl Non w
 have hX := Ext.refl (Wr me G) w
 refine Zfm (args := [_]) Tryz.func176 rfl rfl ?_
 refine Zs (Za ?_)
 refine Zc (Zs (Zb (Zi XY rfl hB0 rfl) (Zb (Zg rfl) (Zb (Zf Jm rfl) (Zb (Zi Jw rfl B77 rfl) (Zb (rn_makeFuncF rfl) (Zb (ZL rfl) ?_)))))))
 have hXc := hXn
 refine ZI zE rfl (h w hXn) ?_; intro v8 w1 E1 hR
 replace hX := hX.wr ZW E1
 refine Za ?_
 refine Zc (ZB ?_)
 exact ⟨_, ZD (Zh rfl), hX, hR.pre ZW hXc.size⟩
theorem send21_w (w : World) {S : Type} {Y : Sys S} {me : Nat} {G : Tg} {r : Out S} {b0 : Nat} {b77 b78 : Nat} {t sub : Int} {fl : Str} {nv ov : Value} (B77 : Zj w b77 (wsC (some ⟨b78, 0, none⟩) t sub fl nv ov)) {ep pl gp rt : Nat} {q0 q1 q2 q3 : Option Addr} {rv : Value} (B78 : Zj w b78 [.pointer (some ⟨ep, 0, none⟩), .pointer (some ⟨pl, 0, none⟩), .pointer (some ⟨gp, 0, none⟩), .pointer (some ⟨rt, 0, none⟩), .pointer q0, .pointer q1, .pointer q2, .pointer q3, rv, .int .i64 0]) (hov : ov.oneCell' = true) (ht : 0 ≤ t ∧ t ≤ 1000) (hB0 : Zj w b0 [(Zpt b77)]) (h : ∀ w1, Ext Non w w1 → MkS Y Tryz.prog me 179 #[.pointer (some ⟨gp, 0, none⟩), ov, .int .i64 (t + 1), .func (.func 180) #[] #[(Zpt b0)]] (Kx me G w) w1 r) : FnM Tryz.prog (Wr me G) 178 #[(Zpt b0)] w fun u w' => Xh Y Tryz.prog me G w r u w' := by
 have hXn := Ext.refl Non w
 have hX := Ext.refl (Wr me G) w
 refine Zfm (args := [_]) Tryz.func178 rfl rfl ?_
 refine Zs (Za ?_)
 refine Zc (ZC (Z5 (fun j => j == 15 || j == 16) mixed ?_)); intro w1 E1
 replace hX := hX.tr E1
 replace hB0 := Zx hB0 E1; replace B77 := Zx B77 E1; replace B78 := Zx B78 E1
 replace hXn := hXn.tr E1
 have hS := Ext.refl Non w1
 refine Zt 0 [1, 2, 3, 4, 15, 16] rfl hS (Zv XY rfl hB0 rfl) (Zt 1 [2, 3, 4, 15, 16] rfl hS (Zr (Zg rfl)) (Zt 2 [3, 4, 15, 16] rfl hS (Zr (Zf Jm rfl)) (Zt 3 [4, 15, 16] rfl hS (Zv Jw rfl B77 rfl) (Zt 5 [6, 7, 8, 15, 16] rfl hS (Zv XY rfl hB0 rfl) (Zt 6 [7, 8, 15, 16] rfl hS (Zr (Zg rfl)) (Zt 7 [8, 15, 16] rfl hS (Zr (Zf f_162_5 rfl)) (Zt 8 [15, 16] rfl hS (Zv XT rfl B77 rfl) (Zt 9 [10, 11, 12, 13, 15, 16] rfl hS (Zv XY rfl hB0 rfl) ?_))))))))
 refine Zt 10 [11, 12, 13, 15, 16] rfl hS (Zr (Zg rfl)) (Zt 11 [12, 13, 15, 16] rfl hS (Zr (Zf f_162_1 rfl)) (Zt 12 [13, 15, 16] rfl hS (Zv p_3 rfl B77 rfl) (Zt 13 [15, 16] rfl hS (Zr (ZX rfl rfl (by omega))) (Zt 14 [15, 16] rfl hS (Zr (ZL rfl)) (Zo 4 rfl (ZK (Zw zE rfl (Yh w1 (B78.ext hS id)) ?_))))))); intro v6 w2 E2 R2
 replace hS := hS.tr E2
 subst R2
 refine Zc ⟨fun _ => hS, ?_⟩
 replace hX := hX.tr hS
 replace hB0 := Zx hB0 hS; replace B77 := Zx B77 hS; replace B78 := Zx B78 hS
 replace hXn := hXn.tr hS
 refine Zo 15 rfl (ZK ?_)
 have hXc := hXn
 refine ZI zE rfl (h w2 hXn) ?_; intro v17 w3 E3 hR
 replace hX := hX.wr ZW E3
 refine Zz ?_
 refine Zo 16 rfl (ZK (Za ?_))
 refine Zz ?_
 refine ZZ (by kernel_rfl) ?_ _
 refine ZB ?_
 exact ⟨_, ZD (Zh rfl), hX, hR.pre ZW hXc.size⟩
theorem send211_w (w : World) {S : Type} {Y : Sys S} {me : Nat} {G : Tg} {r : Out S} {b0 : Nat} {b77 b78 : Nat} {t sub : Int} {fl : Str} {nv ov : Value} (B77 : Zj w b77 (wsC (some ⟨b78, 0, none⟩) t sub fl nv ov)) (hn : nv.oneCell' = true) (hB0 : Zj w b0 [(Zpt b77)]) (h : ∀ w1, Ext Non w w1 → MkS Y Tryz.prog me 30 #[.agg (Jq (0, 0)).enc.toArray, nv] (Kx me G w) w1 r) : FnM Tryz.prog (Wr me G) 180 #[(Zpt b0)] w fun u w' => Xh Y Tryz.prog me G w r u w' := by
 have hXn := Ext.refl Non w
 have hX := Ext.refl (Wr me G) w
 refine Zfm (args := [_]) Tryz.func180 rfl rfl ?_
 refine Zs (Za ?_)
 refine Zc (ZC (Z5 (fun j => j == 8 || j == 9) mixed ?_)); intro w1 E1
 replace hX := hX.tr E1
 replace hB0 := Zx hB0 E1; replace B77 := Zx B77 E1
 replace hXn := hXn.tr E1
 have hS := Ext.refl Non w1
 refine Zt 0 [1, 2, 3, 8, 9] rfl hS (Zv XY rfl hB0 rfl) (Zt 1 [2, 3, 8, 9] rfl hS (Zr (Zg rfl)) (Zt 2 [3, 8, 9] rfl hS (Zr (Zf f_162_6 rfl)) (Zt 3 [8, 9] rfl hS (ZG fun A hA => XC s_37 (vs := [_, _, _, _, _, _]) rfl rfl ((B77.ext hA id).part rfl Zbl)) ?_)))
 refine Zt 4 [5, 6, 7, 8, 9] rfl hS (Zv XY rfl hB0 rfl) (Zt 5 [6, 7, 8, 9] rfl hS (Zr (Zg rfl)) (Zt 6 [7, 8, 9] rfl hS (Zr (Zf f_162_4 rfl)) (Zt 7 [8, 9] rfl hS (Zv p_49 rfl B77 rfl) ?_)))
 replace hX := hX.tr hS
 replace hB0 := Zx hB0 hS; replace B77 := Zx B77 hS
 replace hXn := hXn.tr hS
 refine Zo 8 rfl (ZK ?_)
 have hXc := hXn
 refine ZI zE rfl (h w1 hXn) ?_; intro v10 w2 E2 hR
 replace hX := hX.wr ZW E2
 refine Zz ?_
 refine Zo 9 rfl (ZK (Za ?_))
 refine Zz ?_
 refine ZZ (by kernel_rfl) ?_ _
 refine ZB ?_
 exact ⟨_, ZD (Zh rfl), hX, hR.pre ZW hXc.size⟩
theorem soffer_w (w : World) {S : Type} {Y : Sys S} {me : Nat} {G : Tg} {r : Out S} {b77 : Nat} (h : ∀ w1, Ext Non w w1 → MkS Y Tryz.prog me 94 #[(Zpt b77)] (Kx me G w) w1 r) : FnM Tryz.prog (Wr me G) 166 #[(Zpt b77), .slice none 0 0] w fun u w' => Xh Y Tryz.prog me G w r u w' := by
 have hXn := Ext.refl Non w
 have hX := Ext.refl (Wr me G) w
 refine Zfm (args := [_, _]) Tryz.func166 rfl rfl ?_
 refine Zs (ZP (by conv => lhs; whnf) rfl ?_); intro b2 w1 hb2 E1 B2
 have hq2 := Zq hX hb2
 replace hX := hX.tr E1
 replace hXn := hXn.tr E1
 refine ZP (by conv => lhs; whnf) rfl ?_; intro b3 w2 hb3 E2 B3
 have hn2_3 := Zn B2 hb3
 have hq3 := Zq hX hb3
 replace hX := hX.tr E2
 replace B2 := Zx B2 E2
 replace hXn := hXn.tr E2
 refine Za ?_
 refine Zc (ZC (Zs (Zb (Zi p_68 rfl B3 rfl) (Zb (Z1 sl_68 rfl) (Zb (Xc rfl rfl) (Zc ?_))))))
 refine ZE rfl (fun hc0 => ?_) (fun hc0 => ?_)
 ·refine Zs (Zb (Zi XY rfl B2 rfl) ?_)
  have hXc := hXn
  refine ZI zE rfl (h w2 hXn) ?_; intro v9 w3 E3 hR
  replace hX := hX.wr ZW E3
  refine Za ?_
  refine Zc (ZB ?_)
  exact ⟨_, ZD (Zh rfl), hX, hR.pre ZW hXc.size⟩
 ·exact absurd hc0 (by decide)
theorem scan_nil (w : World) {S : Type} {Y : Sys S} {me : Nat} {G : Tg} {r : Out S} {b77 b78 : Nat} {t sub : Int} {fl : Str} {nv ov : Value} (B77 : Zj w b77 (wsC (some ⟨b78, 0, none⟩) t sub fl nv ov)) {a : Option Addr} {c : Nat} (hSort : ∀ w1, Ext Non w w1 → Fn Tryz.prog 163 #[.slice none 0 0, .func (.func 164) #[] #[]] w1 fun _ _ => True) (h : ∀ w1, Ext Non w w1 → MkS Y Tryz.prog me 166 #[(Zpt b77), .slice none 0 0] (Kx me G w) w1 r) : FnM Tryz.prog (Wr me G) 91 #[(Zpt b77), .slice a 0 c] w fun u w' => Xh Y Tryz.prog me G w r u w' := by
 have hXn := Ext.refl Non w
 have hX := Ext.refl (Wr me G) w
 refine Zfm (args := [_, _]) Tryz.func91 rfl rfl ?_
 refine Zs (ZP (by conv => lhs; whnf) rfl ?_); intro b2 w1 hb2 E1 B2
 have hn77_2 := Zn B77 hb2
 have hq2 := Zq hX hb2
 replace hX := hX.tr E1
 replace B77 := Zx B77 E1
 replace hXn := hXn.tr E1
 refine ZP (by conv => lhs; whnf) rfl ?_; intro b3 w2 hb3 E2 B3
 have hn77_3 := Zn B77 hb3
 have hn2_3 := Zn B2 hb3
 have hq3 := Zq hX hb3
 replace hX := hX.tr E2
 replace B77 := Zx B77 E2; replace B2 := Zx B2 E2
 replace hXn := hXn.tr E2
 refine Za ?_
 refine Zc (ZC (Zs (Zb (Zi XT rfl B3 rfl) (Zb (Z1 Xe rfl) (Zb (Xc rfl rfl) (Zc ?_))))))
 refine ZE rfl (fun hc0 => ?_) (fun hc0 => ?_)
 ·refine Zs (Zb (Zi XY rfl B2 rfl) (Zb (Zg rfl) (Zb (Zf f_162_7 rfl) (Zb (Zi p_68 rfl B77 rfl) (Zw zE rfl (hSort w2 hXn) ?_))))); intro v12 w3 E3 R3
  replace hX := hX.tr E3
  replace B77 := Zx B77 E3; replace B2 := Zx B2 E3; replace B3 := Zx B3 E3
  replace hXn := hXn.tr E3
  refine Zc (ZC (Z5 (fun j => j == 5 || j == 6) mixed ?_)); intro w4 E4
  replace hX := hX.tr E4
  replace B77 := Zx B77 E4; replace B2 := Zx B2 E4; replace B3 := Zx B3 E4
  replace hXn := hXn.tr E4
  have hS := Ext.refl Non w4
  refine Zt 0 [5, 6] rfl hS (Zv XY rfl B2 rfl) (Zt 1 [2, 3, 4, 5, 6] rfl hS (Zv XY rfl B2 rfl) (Zt 2 [3, 4, 5, 6] rfl hS (Zr (Zg rfl)) (Zt 3 [4, 5, 6] rfl hS (Zr (Zf f_162_7 rfl)) (Zt 4 [5, 6] rfl hS (Zv p_68 rfl B77 rfl) ?_))))
  replace hX := hX.tr hS
  replace B77 := Zx B77 hS; replace B2 := Zx B2 hS; replace B3 := Zx B3 hS
  replace hXn := hXn.tr hS
  refine Zo 5 rfl (ZK ?_)
  have hXc := hXn
  refine ZI zE rfl (h w4 hXn) ?_; intro v18 w5 E5 hR
  replace hX := hX.wr ZW E5
  refine Zz ?_
  refine Zo 6 rfl (ZK (Za ?_))
  refine Zz ?_
  refine ZZ (by kernel_rfl) ?_ _
  refine ZB ?_
  exact ⟨_, ZD (Zh rfl), hX, hR.pre ZW hXc.size⟩
 ·exact absurd hc0 (by decide)
theorem scan_cons (w : World) {S : Type} {Y : Sys S} {me : Nat} {G : Tg} {r : Out S} {b77 b78 : Nat} {t sub : Int} {fl : Str} {nv ov : Value} (B77 : Zj w b77 (wsC (some ⟨b78, 0, none⟩) t sub fl nv ov)) {ep pl gp rt : Nat} {q0 q1 q2 q3 : Option Addr} {rv : Value} (B78 : Zj w b78 [.pointer (some ⟨ep, 0, none⟩), .pointer (some ⟨pl, 0, none⟩), .pointer (some ⟨gp, 0, none⟩), .pointer (some ⟨rt, 0, none⟩), .pointer q0, .pointer q1, .pointer q2, .pointer q3, rv, .int .i64 0]) {a : Addr} {c i : Nat} {q : Option Addr} {l : List Int} {M2 : Nat → Prop} (hi : i < 4) (hq : ([.pointer q0, .pointer q1, .pointer q2, .pointer q3] : List Value)[i]? = some (.pointer q)) (hL : Sl M2 w (.slice (some a) (l.length + 1) c) 1 (((i : Nat) :: l : List Int).map eI)) (h : ∀ (w1 : World) (b2 : Nat) (b3 : Nat) , Ext Non w w1 → w.heap.size ≤ b2 → Zj w1 b2 [(Zpt b77)] → w.heap.size ≤ b3 → Zj w1 b3 [.slice (some a) (l.length + 1) c] → MkS Y Tryz.prog me 167 #[.pointer q, .func (.func 169) #[] #[(Zpt b2), (Zpt b3)]] (Kx me G w) w1 r) : FnM Tryz.prog (Wr me G) 91 #[(Zpt b77), .slice (some a) (l.length + 1) c] w fun u w' => Xh Y Tryz.prog me G w r u w' := by
 have hXn := Ext.refl Non w
 have hX := Ext.refl (Wr me G) w
 refine Zfm (args := [_, _]) Tryz.func91 rfl rfl ?_
 refine Zs (ZP (by conv => lhs; whnf) rfl ?_); intro b2 w1 hb2 E1 B2
 have hn77_2 := Zn B77 hb2
 have hn78_2 := Zn B78 hb2
 have hq2 := Zq hX hb2
 replace hX := hX.tr E1
 replace B77 := Zx B77 E1; replace B78 := Zx B78 E1
 replace hXn := hXn.tr E1
 refine ZP (by conv => lhs; whnf) rfl ?_; intro b3 w2 hb3 E2 B3
 have hn77_3 := Zn B77 hb3
 have hn78_3 := Zn B78 hb3
 have hn2_3 := Zn B2 hb3
 have hq3 := Zq hX hb3
 replace hX := hX.tr E2
 replace B77 := Zx B77 E2; replace B78 := Zx B78 E2; replace B2 := Zx B2 E2
 replace hXn := hXn.tr E2
 refine Za ?_
 refine Zc (ZC (Zs (Zb (Zi XT rfl B3 rfl) (Zb (Z1 Xe rfl) (Zb (Xc rfl rfl) (Zc ?_))))))
 refine ZE rfl (fun hc0 => ?_) (fun hc0 => ?_)
 ·exact absurd (of_decide_eq_true hc0) (by omega)
 ·refine ZF (ZC (Z5 (fun j => j == 9 || j == 10) mixed ?_)); intro w3 E3
  replace hX := hX.tr E3
  replace B77 := Zx B77 E3; replace B78 := Zx B78 E3; replace B2 := Zx B2 E3; replace B3 := Zx B3 E3
  replace hXn := hXn.tr E3
  have hS := Ext.refl Non w3
  refine Zt 0 [1, 2, 3, 7, 9, 10] rfl hS (Zv XY rfl B2 rfl) (Zt 1 [2, 3, 7, 9, 10] rfl hS (Zr (Zg rfl)) (Zt 2 [3, 7, 9, 10] rfl hS (Zr (Zf Jm rfl)) (Zt 3 [7, 9, 10] rfl hS (Zv Jw rfl B77 rfl) (Zt 4 [5, 6, 7, 9, 10] rfl hS (Zv XT rfl B3 rfl) (Zt 5 [6, 7, 9, 10] rfl hS (ZG fun A hA => ZH Xe rfl rfl (by omega)) (Zt 6 [7, 9, 10] rfl hS (ZG fun A hA => Xb p_3 rfl (((hL.ext hXn (fun _ h => h.elim)).ext hA (fun _ h => h.elim)).at0 (show (((i : Nat) :: l : List Int).map eI)[0]? = some (eI (i : Nat)) from rfl) rfl)) ?_))))))
  refine Zt 8 [9, 10] rfl hS (Zr (ZL rfl)) (Zo 7 rfl (ZK (Zw zE rfl (ckept_ok w3 (B78.ext hS id) i hi hq) ?_))); intro v26 w4 E4 R4
  replace hS := hS.tr E4
  subst R4
  refine Zc ⟨fun _ => hS, ?_⟩
  replace hX := hX.tr hS
  replace B77 := Zx B77 hS; replace B78 := Zx B78 hS; replace B2 := Zx B2 hS; replace B3 := Zx B3 hS
  replace hXn := hXn.tr hS
  refine Zo 9 rfl (ZK ?_)
  have hXc := hXn
  refine ZI zE rfl (h w4 b2 b3 hXn hq2 B2 hq3 B3) ?_; intro v28 w5 E5 hR
  replace hX := hX.wr ZW E5
  refine Zz ?_
  refine Zo 10 rfl (ZK (Za ?_))
  refine Zz ?_
  refine ZZ (by kernel_rfl) ?_ _
  refine ZB ?_
  exact ⟨_, ZD (Zh rfl), hX, hR.pre ZW hXc.size⟩
theorem TellsM.ext {M : Nat → Prop} {fk : FuncId} {cap : Array Value} {w w' : World} {p : Str → Bool} (h : TellsM M fk cap w p) (hE : Ext Non w w') : TellsM M fk cap w' p := ⟨h.1, fun A x hx hA => h.2 A x hx ((hE.mono fun _ h => h.elim).trans hA)⟩
theorem ksome_ok (w : World) (ks : List Str) (ys : List (Str × Int)) (ver : Int) {u1 u2 : Value} (M : Nat → Prop) (hM : ∀ i, M i → i < w.heap.size) (hmM : Qs M w eS1 2 u1 u2 ks (ys.map eE1)) (hn : ks.length ≤ 100000) (hkl : ∀ y ∈ ks, y.length ≤ 1000000) (fk : FuncId) (cap : Array Value) (p : Str → Bool) (hp : TellsM M fk cap w p) : Fn Tryz.prog 239 #[.agg #[u1, u2, .int .i64 ver], .func (.func fk) #[] cap] w fun u w' => J2 Tryz.prog M w' u (fun p : Str × (Str × Int) => #[.agg (eM1 p).toArray]) ((ks.zip ys).filter fun q => p q.1) := by
 obtain ⟨q1, n1, c1, rfl⟩ := hmM.keys.shape; obtain ⟨q2, n2, c2, rfl⟩ := hmM.vals.shape
 have hX := Ext.refl Non w
 refine Zfw (args := [_, _]) Tryz.func239 rfl rfl ?_
 refine Zs (ZY rfl ?_); intro b2 w1 hb2 E1 B2
 have hq2 := Zq hX hb2
 replace hX := hX.tr E1
 refine ZP (by conv => lhs; whnf) rfl ?_; intro b3 w2 hb3 E2 B3
 have hn2_3 := Zn B2 hb3
 have hq3 := Zq hX hb3
 replace hX := hX.tr E2
 replace B2 := Zx B2 E2
 refine Za ?_
 refine Zc (Zs (Zb (ZL rfl) (Za ?_)))
 refine Zc (ZB ?_)
 exact ⟨_, ZD (Zh rfl), hX, some_iter ks ys ver fk cap p M _ b2 b3 (hmM.ext hX (fun _ h => h.elim)) hn hkl B2 B3 (fun h => by have := hM _ h; omega) (fun h => by have := hM _ h; omega) (hp.ext hX)⟩
theorem kscan1_ok (w : World) (f t : Str) (b : Nat) (hC1 : Zj w b [Sv f]) (hnf : f.length ≤ 1000000) (hnt : t.length ≤ 1000000) : Fn Tryz.prog 240 #[Sv t, .pointer (some ⟨b, 0, none⟩)] w fun u w' => u = .bool (Q1 f t) := by
 have hX := Ext.refl Non w
 refine Zfw (args := [_, _]) Tryz.func240 rfl rfl ?_
 refine Zs (Za ?_)
 refine Zc (Zs (Zb (Zi p_9 rfl (hC1.ext hX id) rfl) (Zm ?_)))
 refine Zw zE rfl (tmatch_ok w f t hnf hnt) ?_; intro v6 w1 E1 R1
 replace hX := hX.tr E1
 subst R1
 refine Za ?_
 refine Zc (ZB ?_)
 exact ⟨_, ZD (Zh rfl), hX, rfl⟩
theorem kscan_ok (w : World) (ks : List Str) (ys : List (Str × Int)) (ver : Int) {u1 u2 : Value} (M : Nat → Prop) (hM : ∀ i, M i → i < w.heap.size) (hmM : Qs M w eS1 2 u1 u2 ks (ys.map eE1)) (hn : ks.length ≤ 100000) (hkl : ∀ y ∈ ks, y.length ≤ 1000000) (f : Str) (hnf : f.length ≤ 1000000) : Fn Tryz.prog 171 #[.agg #[u1, u2, .int .i64 ver], Sv f] w fun u w' => J2 Tryz.prog M w' u (fun p : Str × (Str × Int) => #[.agg (eM1 p).toArray]) ((ks.zip ys).filter fun q => Q1 f q.1) := by
 obtain ⟨q1, n1, c1, rfl⟩ := hmM.keys.shape; obtain ⟨q2, n2, c2, rfl⟩ := hmM.vals.shape
 have hX := Ext.refl Non w
 refine Zfw (args := [_, _]) Tryz.func171 rfl rfl ?_
 refine Zs (ZY rfl ?_); intro b2 w1 hb2 E1 B2
 have hq2 := Zq hX hb2
 replace hX := hX.tr E1
 refine ZP (by conv => lhs; whnf) rfl ?_; intro b3 w2 hb3 E2 B3
 have hn2_3 := Zn B2 hb3
 have hq3 := Zq hX hb3
 replace hX := hX.tr E2
 replace B2 := Zx B2 E2
 refine Za ?_
 refine Zc (Zs (Zb (ZR s_84 rfl rfl B2) (Zb (ZL rfl) (Zw zE rfl (ksome_ok w2 ks ys ver M (fun i h => Zlt (hM i h) hX.size) (hmM.ext hX (fun _ h => h.elim)) hn hkl 240 #[(Zpt b3)] (Q1 f) ⟨zE, fun A x hx hA => kscan1_ok A f x b3 (B3.ext hA (fun h => by have := hM _ h; omega)) hnf hx⟩) ?_)))); intro v7 w3 E3 R3
 replace hX := hX.tr E3
 replace B2 := Zx B2 E3; replace B3 := Zx B3 E3
 have It := R3; obtain ⟨fi, ci, hfi, _⟩ := id It; subst hfi
 refine Za ?_
 refine Zc (ZB ?_)
 exact ⟨_, ZD (Zh rfl), hX, It⟩
theorem appNone_ok (w : World) {fv : Value} (hit : J2 Tryz.prog Non w fv (fun p : Str × (Str × Int) => #[.agg (eM1 p).toArray]) []) : Fn Tryz.prog 170 #[.slice none 0 0, fv] w fun u w' => u = .slice none 0 0 := by
 have hX := Ext.refl Non w
 refine Zfw (args := [_, _]) Tryz.func170 rfl rfl ?_
 refine Zs (ZP (by conv => lhs; whnf) rfl ?_); intro b2 w1 hb2 E1 B2
 have hq2 := Zq hX hb2
 have hl2 := Zl hX hb2
 replace hX := hX.tr E1
 refine Za ?_
 refine Zc (ZC (Zs (Zm ?_)))
 refine Zc (ZO ?_)
 have hszr := hX.size
 have ho2 : w.heap.size ≤ b2 := by rcases hl2 with h | h; exact h.elim; exact h
 refine Qb (M := Non) (w0 := w) (I := fun pre N A => Box N A b2 [.slice none 0 0] ∧ Ext Non w A ∧ MkN w [] N A ∧ (True)) (X := fun c N A => False) (encs := fun p : Str × (Str × Int) => [.agg (eM1 p).toArray]) (xs := []) rfl (hit) (hX) (fun _ => rfl) (fun pre => (Z6.box _ _).and ((Z6.old hX.size).and ((Z6.mk _ _).and ((Z6.pure _))))) (fun c => Z6.false) ⟨⟨B2, id⟩, hX, (Mk.nil : Mk w [] _).toN, trivial⟩ ?_ ?_ ?_
 ·rintro l N pre x A hl hN hA hst ⟨hK2, hXo, Dk, Ir⟩ ⟨post, hpre⟩
  have B2 := hK2.1; have hl2 : Xo (Yc (Non) w N) A b2 := .inl ⟨hK2.2, .inr hq2⟩
  have hX := Ext.refl (Yc (Non) w N) A
  exact absurd hpre (by simp)
 ·rintro N rk w' ⟨hK2, hXo, Dk, Ir⟩ hN hA hr hrd
  have B2 := hK2.1
  have hX := hXo; have hD := Dk.add hrd (Zle hszr (hN rk hr).1) hr
  refine Zs (Zb (Zi p_68 rfl B2 rfl) (Za ?_))
  refine Zc (ZB (hD.leave fun B hB => ?_))
  have B2 := B2.ext hB (hD.ne B2)
  have hX := hD.out hX hB
  exact ⟨_, ZD (Zh rfl), hX, rfl⟩
 ·intro c N rk w' h; exact h.elim
theorem len64_0 (w : World)  : Fn Tryz.prog 287 #[.int .u64 0] w fun u w' => u = .int .i64 0 := by
 have hX := Ext.refl Non w
 refine Zfw (args := [_]) Tryz.func287 rfl rfl ?_
 refine Zs (Za ?_)
 refine Zc (ZC (Zs (Zm ?_)))
 refine Zb (X8 rfl rfl) (Zc ?_)
 refine ZE rfl (fun hc0 => ?_) (fun hc0 => ?_)
 ·exact absurd (of_decide_eq_true hc0) (by decide)
 ·refine ZF (ZC (Zs (Zm ?_)))
  refine Zb (X8 rfl rfl) (Zc ?_)
  refine ZE rfl (fun hc1 => ?_) (fun hc1 => ?_)
  ·exact absurd (of_decide_eq_true hc1) (by decide)
  ·refine ZF (ZC (Zs (Zm ?_)))
   refine Zb (X8 rfl rfl) (Zc ?_)
   refine ZE rfl (fun hc2 => ?_) (fun hc2 => ?_)
   ·exact absurd (of_decide_eq_true hc2) (by decide)
   ·refine ZF (Zs (Zm (Zm ?_)))
    refine Zb (XH ui_323 ui_5 rfl (by decide)) (Zb (Qh Qj rfl rfl (by omega) (c := 0) rfl) (Zb (XH ui_5 JF rfl (by decide)) (Zb (ZX rfl rfl (by decide)) (Za ?_))))
    refine Zc (ZB ?_)
    exact ⟨_, ZD (Zh rfl), hX, rfl⟩
theorem blen_0 (w : World)  : Fn Tryz.prog 232 #[.int .u64 0] w fun u w' => u = .int .i64 0 := by
 have hX := Ext.refl Non w
 refine Zfw (args := [_]) Tryz.func232 rfl rfl ?_
 refine Zs (Za ?_)
 refine Zc (ZC ?_)
 refine ZE rfl (fun hc0 => ?_) (fun hc0 => ?_)
 ·cases hc0
 ·refine ZF (Zs (Zm ?_))
  refine Zw zE rfl (len64_0 w) ?_; intro v7 w1 E1 R1
  replace hX := hX.tr E1
  subst R1
  refine Za ?_
  refine Zc (ZB ?_)
  exact ⟨_, ZD (Zh rfl), hX, rfl⟩
theorem isort_0 (w : World) {fv : Value} : Fn Tryz.prog 278 #[.slice none 0 0, .int .i64 0, .int .i64 0, fv] w fun u w' => True := by
 have hX := Ext.refl Non w
 refine Zfw (args := [_, _, _, _]) Tryz.func278 rfl rfl ?_
 refine Zs (Zm ?_)
 refine Zb (ZX rfl rfl (by omega)) (Za ?_)
 refine Zc (ZO (Xt (S := Unit) [0, 1, 2, 3, 8] (fun _ => [.slice none 0 0, .int .i64 0, .int .i64 0, fv, .int .i64 1]) (fun _ A => (Ext Non w A) ∧ (True)) (fun _ => 0) () ⟨rfl, rfl, rfl, rfl, rfl, trivial⟩ ⟨hX, trivial⟩ ?_))
 rintro τ0 _ A0 ⟨hX, I0⟩
 refine ZC (Zs (Zm (Zm ?_)))
 refine Zb (Xj rfl rfl) (Zc ?_)
 refine ZE rfl (fun hc0 => ?_) (fun hc0 => ?_)
 ·exact absurd (of_decide_eq_true hc0) (by decide)
 ·refine XL ?_
  exact ⟨_, rfl, hX, trivial⟩
theorem pdq_0 (w : World) {fv : Value} : Fn Tryz.prog 231 #[.slice none 0 0, .int .i64 0, .int .i64 0, .int .i64 0, fv] w fun u w' => True := by
 have hX := Ext.refl Non w
 refine Zfw (args := [_, _, _, _, _]) Tryz.func231 rfl rfl ?_
 refine Zs (Za ?_)
 refine Zc (Zs (Za ?_))
 refine Zc (ZO (Xt (S := Unit) [0, 1, 2, 3, 4, 10, 11] (fun _ => [.slice none 0 0, .int .i64 0, .int .i64 0, .int .i64 0, fv, .bool true, .bool true]) (fun _ A => (Ext Non w A) ∧ (True)) (fun _ => 0) () ⟨rfl, rfl, rfl, rfl, rfl, rfl, rfl, trivial⟩ ⟨hX, trivial⟩ ?_))
 rintro τ0 _ A0 ⟨hX, I0⟩
 refine ZO ?_
 refine Zs (Zm (Zm ?_))
 refine Zb (QS rfl rfl (by omega)) (Za ?_)
 refine Zc (ZC (Zs (Zm ?_)))
 refine Zb (rn_leq rfl rfl) (Zc ?_)
 refine ZE rfl (fun hc0 => ?_) (fun hc0 => ?_)
 ·refine Zs (Zm (Zm (Zm (Zm ?_))))
  refine Zw zE rfl (isort_0 A0) ?_; intro v30 w1 E1 R1
  replace hX := hX.tr E1
  refine Zc (ZB ?_)
  exact ⟨_, rfl, hX, trivial⟩
 ·exact absurd (of_decide_eq_false hc0) (by decide)
theorem sort_0 (w : World) {fv : Value} : Fn Tryz.prog 163 #[.slice none 0 0, fv] w fun u w' => True := by
 have hX := Ext.refl Non w
 refine Zfw (args := [_, _]) Tryz.func163 rfl rfl ?_
 refine Zs (Zm ?_)
 refine Zb (Z1 sl_68 rfl) (Za ?_)
 refine Zc (ZJ (Zm (Zm (Zm ?_))))
 refine Zb (XH JF ui_253 rfl (by decide)) (Zw zE rfl (blen_0 w) ?_); intro v11 w1 E1 R1
 replace hX := hX.tr E1
 subst R1
 refine Zm ?_
 refine Zw zE rfl (pdq_0 w1) ?_; intro v13 w2 E2 R2
 replace hX := hX.tr E2
 refine Zc ?_
 exact ⟨_, rfl, hX, trivial⟩
abbrev K2 (me : Nat) (G : Tg) (w : World) (nn b : Nat) : Tg := gx G w.heap.size fun i => if i < nn then 0 else if i = b then wrT me else kpT me
theorem k2_tgs {me : Nat} {G : Tg} {w w' : World} {nn b : Nat} : Tgs me G w (K2 me G w nn b) w' := Tgs.non fun i _ _ => by
 by_cases h : i < nn
 ·exact .inl (by simp [h, Cor])
 ·by_cases h2 : i = b
  ·exact .inr (.inr (by simp only [if_neg h, if_pos h2]))
  ·exact .inr (.inl (by simp only [if_neg h, if_neg h2]))
theorem scan2_w (w : World) {S : Type} {Y : Sys S} {me : Nat} {G : Tg} {r : Out S} {b1 b2 sb n c : Nat} {a : Addr} {b77 b78 : Nat} {t sub : Int} {fl : Str} {nv ov : Value} (B77 : Zj w b77 (wsC (some ⟨b78, 0, none⟩) t sub fl nv ov)) (hk77 : G b77 = wrT me) (hnv : nv.oneCell' = true) (hov : ov.oneCell' = true) (hfl : fl.length ≤ 1000000) (hnc : n + 1 ≤ c) (hSb : Zj w sb [XV, XV, .int .i64 0]) (B1 : Zj w b1 [(Zpt b77)]) (B2 : Zj w b2 [.slice (some a) (n + 1) c]) (h17 : b1 ≠ b77) (h27 : b2 ≠ b77) (h : ∀ w1, Ext (fun i => i = b77) w w1 → Zj w1 b77 (wsC (some ⟨b78, 0, none⟩) t sub fl nv ov) → MkS Y Tryz.prog me 91 #[(Zpt b77), .slice (if c = 1 then some a else (some a).map (·.add (1 * 1))) n (c - 1)] (Kx me G w) w1 r) : FnM Tryz.prog (Wr me G) 169 #[.pointer (some ⟨sb, 0, none⟩), (Zpt b1), (Zpt b2)] w fun u w' => Xh Y Tryz.prog me G w r u w' := by
 have hXn := Ext.refl (fun i => i = b77) w
 have hl77 : Xo (Wr me G) w b77 := .inl (.inr hk77)
 have hX := Ext.refl (Wr me G) w
 refine Zfm (args := [_, _, _]) Tryz.func169 rfl rfl ?_
 refine Zs (Za ?_)
 refine Zc (ZC (Z5 (fun j => j == 14 || j == 15 || j == 16) mixed ?_)); intro w1 E1
 replace hX := hX.tr E1
 replace B1 := Zx B1 E1; replace B2 := Zx B2 E1; replace B77 := Zx B77 E1
 replace hXn := hXn.tr E1
 have hS := Ext.refl Non w1
 have hXs : Ext Non w w1 := E1
 refine Zt 0 [14, 15, 16] rfl hS (Zv XY rfl B1 rfl) (Zt 1 [2, 3, 4, 13, 14, 15, 16] rfl hS (Zv XY rfl B1 rfl) (Zt 2 [3, 4, 13, 14, 15, 16] rfl hS (Zr (Zg rfl)) (Zt 3 [4, 13, 14, 15, 16] rfl hS (Zr (Zf f_162_7 rfl)) (Zt 4 [13, 14, 15, 16] rfl hS (Zv p_68 rfl B77 rfl) (Zt 5 [6, 7, 12, 13, 14, 15, 16] rfl hS Zy ?_)))))
 refine Zt 6 [7, 12, 13, 14, 15, 16] rfl hS (Zr (Zg rfl)) (Zt 7 [12, 13, 14, 15, 16] rfl hS (ZG fun A hA => ZR s_84 rfl rfl ((hSb.ext hXs id).ext hA id)) (Zt 8 [9, 10, 11, 12, 13, 14, 15, 16] rfl hS (Zv XY rfl B1 rfl) (Zt 9 [10, 11, 12, 13, 14, 15, 16] rfl hS (Zr (Zg rfl)) (Zt 10 [11, 12, 13, 14, 15, 16] rfl hS (Zr (Zf f_162_3 rfl)) (Zt 11 [12, 13, 14, 15, 16] rfl hS (Zv p_9 rfl B77 rfl) (Zo 12 rfl (ZK (Zw zE rfl (kscan_ok w1 [] [] 0 Non (fun _ h => h.elim) ⟨Sl.nil _ _ _, Sl.nil _ _ _, rfl⟩ (by decide) (by simp) fl hfl) ?_)))))))); intro v17 w2 E2 R2
 replace hS := hS.tr E2
 have hI17 := R2
 refine Zc ⟨fun _ => hS, ?_⟩
 refine Zo 13 rfl (ZK (Zw zE rfl (appNone_ok w2 hI17) ?_)); intro v18 w3 E3 R3
 replace hS := hS.tr E3
 subst R3
 refine Zc ⟨fun _ => hS, ?_⟩
 refine XK 14 _ _ rfl rfl (by kernel_rfl) (ZG fun A _ => Zg rfl) ?_
 refine XK 15 _ _ rfl rfl (by kernel_rfl) (ZG fun A _ => Zf f_162_7 rfl) ?_
 replace hX := hX.tr hS
 replace B1 := Zx B1 hS; replace B2 := Zx B2 hS; replace B77 := Zx B77 hS
 replace hXn := hXn.tr hS
 refine Zo 16 rfl (ZK ?_)
 have Bo := B77
 refine ZN (b := b77) p_68 rfl (by conv => lhs; whnf) rfl rfl B77 Zbl ?_; intro w4 E4 B77 hz4
 replace hX := hX.mine E4 hl77
 replace B1 := B1.ext E4 (fun h => by omega); replace B2 := B2.ext E4 (fun h => by omega)
 replace hXn := hXn.mine E4 (.inl rfl)
 refine Zz ?_
 refine ZZ (by kernel_rfl) ?_ _
 refine ZC (Z5 (fun j => j == 3 || j == 4) mixed ?_); intro w5 E5
 replace hX := hX.tr E5
 replace B1 := Zx B1 E5; replace B2 := Zx B2 E5; replace B77 := Zx B77 E5
 replace hXn := hXn.tr E5
 have hS := Ext.refl Non w5
 refine Zt 0 [3, 4] rfl hS (Zv XY rfl B1 rfl) (Zt 1 [2, 3, 4] rfl hS (Zv XT rfl B2 rfl) (Zt 2 [3, 4] rfl hS (ZG fun A hA => Xs Xe (l := 1) (h := n + 1) (m := c) rfl ⟨_, rfl⟩ rfl rfl (by simp) (by omega) (by omega) (by omega)) ?_))
 replace hX := hX.tr hS
 replace B1 := Zx B1 hS; replace B2 := Zx B2 hS; replace B77 := Zx B77 hS
 replace hXn := hXn.tr hS
 refine Zo 3 rfl (ZK ?_)
 have hXc := hXn
 refine ZI zE rfl (h w5 hXn B77) ?_; intro v24 w6 E6 hR
 replace hX := hX.wr ZW E6
 refine Zz ?_
 refine Zo 4 rfl (ZK (Za ?_))
 refine Zz ?_
 refine ZZ (by kernel_rfl) ?_ _
 refine ZB ?_
 exact ⟨_, ZD (Zh rfl), hX, hR.pre ZW hXc.size⟩
theorem swap_w (w : World) {S : Type} {Y : Sys S} {me : Nat} {G : Tg} {r : Out S} {b77 : Nat} {cv fv : Value} (hc1 : cv.cells = #[cv]) (hc2 : cv.oneCell' = true) (hf1 : fv.cells = #[fv]) (hf2 : fv.oneCell' = true) (h : ∀ (w1 : World) (b3 : Nat) (b4 : Nat) (b5 : Nat) , Ext Non w w1 → w.heap.size ≤ b3 → Zj w1 b3 [(Zpt b77)] → w.heap.size ≤ b4 → Zj w1 b4 [cv] → w.heap.size ≤ b5 → Zj w1 b5 [fv] → MkS Y Tryz.prog me 62 #[.func (.func 155) #[] #[(Zpt b3)], .func (.func 156) #[] #[(Zpt b3), (Zpt b4), (Zpt b5)]] (Kx me G w) w1 r) : FnM Tryz.prog (Wr me G) 87 #[(Zpt b77), cv, fv] w fun u w' => Xh Y Tryz.prog me G w r u w' := by
 have hXn := Ext.refl Non w
 have hX := Ext.refl (Wr me G) w
 refine Zfm (args := [_, _, _]) Tryz.func87 rfl rfl ?_
 refine Zs (ZP (by conv => lhs; whnf) rfl ?_); intro b3 w1 hb3 E1 B3
 have hq3 := Zq hX hb3
 replace hX := hX.tr E1
 replace hXn := hXn.tr E1
 refine ZP (by conv => lhs; whnf) hc1 ?_; intro b4 w2 hb4 E2 B4
 have hn3_4 := Zn B3 hb4
 have hq4 := Zq hX hb4
 replace hX := hX.tr E2
 replace B3 := Zx B3 E2
 replace hXn := hXn.tr E2
 refine ZP (by conv => lhs; whnf) hf1 ?_; intro b5 w3 hb5 E3 B5
 have hn3_5 := Zn B3 hb5
 have hn4_5 := Zn B4 hb5
 have hq5 := Zq hX hb5
 replace hX := hX.tr E3
 replace B3 := Zx B3 E3; replace B4 := Zx B4 E3
 replace hXn := hXn.tr E3
 refine Za ?_
 refine Zc (Zs (Zb (ZL rfl) (Zb (ZL rfl) ?_)))
 have hXc := hXn
 refine ZI zE rfl (h w3 b3 b4 b5 hXn hq3 B3 hq4 B4 hq5 B5) ?_; intro v9 w4 E4 hR
 replace hX := hX.wr ZW E4
 refine Za ?_
 refine Zc (ZB ?_)
 exact ⟨_, ZD (Zh rfl), hX, hR.pre ZW hXc.size⟩
theorem swap2_w (w : World) {S : Type} {Y : Sys S} {me : Nat} {G : Tg} {r : Out S} {b0 b1 b2 : Nat} {b77 b78 : Nat} {t sub : Int} {fl : Str} {nv ov : Value} (B77 : Zj w b77 (wsC (some ⟨b78, 0, none⟩) t sub fl nv ov)) {ep pl gp rt : Nat} {q0 q1 q2 q3 : Option Addr} {rv : Value} (B78 : Zj w b78 [.pointer (some ⟨ep, 0, none⟩), .pointer (some ⟨pl, 0, none⟩), .pointer (some ⟨gp, 0, none⟩), .pointer (some ⟨rt, 0, none⟩), .pointer q0, .pointer q1, .pointer q2, .pointer q3, rv, .int .i64 0]) (hB0 : Zj w b0 [(Zpt b77)]) (h : ∀ w1, Ext Non w w1 → MkS Y Tryz.prog me 73 #[.pointer (some ⟨rt, 0, none⟩), .func (.func 157) #[] #[(Zpt b0), (Zpt b1), (Zpt b2)]] (Kx me G w) w1 r) : FnM Tryz.prog (Wr me G) 156 #[(Zpt b0), (Zpt b1), (Zpt b2)] w fun u w' => Xh Y Tryz.prog me G w r u w' := by
 have hXn := Ext.refl Non w
 have hX := Ext.refl (Wr me G) w
 refine Zfm (args := [_, _, _]) Tryz.func156 rfl rfl ?_
 refine Zs (Za ?_)
 refine Zc (Zs (Zb (Zi XY rfl hB0 rfl) (Zb (Zg rfl) (Zb (Zf Jm rfl) (Zb (Zi Jw rfl B77 rfl) (Zw zE rfl (croot_ok w B78) ?_)))))); intro v8 w1 E1 R1
 replace hX := hX.tr E1
 replace hB0 := Zx hB0 E1; replace B77 := Zx B77 E1; replace B78 := Zx B78 E1
 replace hXn := hXn.tr E1
 subst R1
 refine Zb (ZL rfl) ?_
 have hXc := hXn
 refine ZI zE rfl (h w1 hXn) ?_; intro v10 w2 E2 hR
 replace hX := hX.wr ZW E2
 refine Za ?_
 refine Zc (ZB ?_)
 exact ⟨_, ZD (Zh rfl), hX, hR.pre ZW hXc.size⟩
theorem swap21_w (w : World) {S : Type} {Y : Sys S} {me : Nat} {G : Tg} {r : Out S} {b1 b2 b3 b77 : Nat} {old : Int × Int} {cv fv : Value} (hc1 : cv.cells = #[cv]) (hc2 : cv.oneCell' = true) (hf1 : fv.cells = #[fv]) (hf2 : fv.oneCell' = true) (B1 : Zj w b1 [(Zpt b77)]) (B2 : Zj w b2 [cv]) (B3 : Zj w b3 [fv]) (h : ∀ w1, Ext Non w w1 → MkS Y Tryz.prog me 158 #[(Zpt b77), .agg #[.int .i64 old.1, .int .i64 old.2], cv, fv] (Kx me G w) w1 r) : FnM Tryz.prog (Wr me G) 157 #[.agg #[.int .i64 old.1, .int .i64 old.2], (Zpt b1), (Zpt b2), (Zpt b3)] w fun u w' => Xh Y Tryz.prog me G w r u w' := by
 have hXn := Ext.refl Non w
 have hX := Ext.refl (Wr me G) w
 refine Zfm (args := [_, _, _, _]) Tryz.func157 rfl rfl ?_
 refine Zs (ZY rfl ?_); intro b4 w1 hb4 E1 B4
 have hn1_4 := Zn B1 hb4
 have hn2_4 := Zn B2 hb4
 have hn3_4 := Zn B3 hb4
 have hq4 := Zq hX hb4
 replace hX := hX.tr E1
 replace B1 := Zx B1 E1; replace B2 := Zx B2 E1; replace B3 := Zx B3 E1
 replace hXn := hXn.tr E1
 refine Za ?_
 refine Zc (Zs (Zb (Zi XY rfl B1 rfl) (Zb (ZR Qv rfl rfl B4) (Zb (Zi p_166 rfl B2 rfl) (Zb (Zi p_94 rfl B3 rfl) ?_)))))
 have hXc := hXn
 refine ZI zE rfl (h w1 hXn) ?_; intro v10 w2 E2 hR
 replace hX := hX.wr ZW E2
 refine Za ?_
 refine Zc (ZB ?_)
 exact ⟨_, ZD (Zh rfl), hX, hR.pre ZW hXc.size⟩
theorem from_w (w : World) {S : Type} {Y : Sys S} {me : Nat} {G : Tg} {r : Out S} {b77 : Nat} {old : Int × Int} {cv fv : Value} (hc1 : cv.cells = #[cv]) (hc2 : cv.oneCell' = true) (hf1 : fv.cells = #[fv]) (hf2 : fv.oneCell' = true) (h : ∀ (w1 : World) (b4 b5 b6 b7 b9 : Nat), Ext Non w w1 → b4 ≠ b9 → b5 ≠ b9 → b6 ≠ b9 → b7 ≠ b9 → w.heap.size ≤ b4 → Zj w1 b4 [(Zpt b77)] → w.heap.size ≤ b5 → Zj w1 b5 [.int .i64 old.1, .int .i64 old.2] → w.heap.size ≤ b6 → Zj w1 b6 [cv] → w.heap.size ≤ b7 → Zj w1 b7 [fv] → w.heap.size ≤ b9 → Zj w1 b9 [.pointer none, .int .i64 0] → MkS Y Tryz.prog me 62 #[.func (.func 214) #[] #[(Zpt b4), (Zpt b5), (Zpt b9)], .func (.func 215) #[] #[(Zpt b6), (Zpt b9), (Zpt b4), (Zpt b5), (Zpt b7)]] (Kw me G w b9) w1 r) : FnM Tryz.prog (Wr me G) 158 #[(Zpt b77), .agg #[.int .i64 old.1, .int .i64 old.2], cv, fv] w fun u w' => Xh Y Tryz.prog me G w r u w' := by
 have hXn := Ext.refl Non w
 have hX := Ext.refl (Wr me G) w
 refine Zfm (args := [_, _, _, _]) Tryz.func158 rfl rfl ?_
 refine Zs (ZP (by conv => lhs; whnf) rfl ?_); intro b4 w1 hb4 E1 B4
 have hq4 := Zq hX hb4
 replace hX := hX.tr E1
 replace hXn := hXn.tr E1
 refine ZY rfl ?_; intro b5 w2 hb5 E2 B5
 have hn4_5 := Zn B4 hb5
 have hq5 := Zq hX hb5
 replace hX := hX.tr E2
 replace B4 := Zx B4 E2
 replace hXn := hXn.tr E2
 refine ZP (by conv => lhs; whnf) hc1 ?_; intro b6 w3 hb6 E3 B6
 have hn4_6 := Zn B4 hb6
 have hn5_6 := Zn B5 hb6
 have hq6 := Zq hX hb6
 replace hX := hX.tr E3
 replace B4 := Zx B4 E3; replace B5 := Zx B5 E3
 replace hXn := hXn.tr E3
 refine ZP (by conv => lhs; whnf) hf1 ?_; intro b7 w4 hb7 E4 B7
 have hn4_7 := Zn B4 hb7
 have hn5_7 := Zn B5 hb7
 have hn6_7 := Zn B6 hb7
 have hq7 := Zq hX hb7
 replace hX := hX.tr E4
 replace B4 := Zx B4 E4; replace B5 := Zx B5 E4; replace B6 := Zx B6 E4
 replace hXn := hXn.tr E4
 refine Za ?_
 refine Zc (Zs (ZT z_103 ?_)); intro b9 w5 hb9 E5 B9
 have hn4_9 := Zn B4 hb9
 have hn5_9 := Zn B5 hb9
 have hn6_9 := Zn B6 hb9
 have hn7_9 := Zn B7 hb9
 have hq9 := Zq hX hb9
 replace hX := hX.tr E5
 replace B4 := Zx B4 E5; replace B5 := Zx B5 E5; replace B6 := Zx B6 E5; replace B7 := Zx B7 E5
 replace hXn := hXn.tr E5
 refine Zc (Zs (Zb (ZL rfl) (Zb (ZL rfl) ?_)))
 have hXc := hXn
 refine ZI zE rfl (h w5 b4 b5 b6 b7 b9 hXn (by omega) (by omega) (by omega) (by omega) hq4 B4 hq5 B5 hq6 B6 hq7 B7 hq9 B9) ?_; intro v12 w6 E6 hR
 replace hX := hX.wr (QD (b := b9)) E6
 refine Za ?_
 refine Zc (ZB ?_)
 exact ⟨_, ZD (Zh rfl), hX, hR.pre (QD (b := b9)) hXc.size⟩
theorem fromF_w (w : World) {M : Nat → Prop} {A : Option Addr → Int → Prop} {b0 b1 b2 : Nat} {old : Int × Int} {b77 b78 : Nat} {t sub : Int} {fl : Str} {nv ov : Value} (B77 : Zj w b77 (wsC (some ⟨b78, 0, none⟩) t sub fl nv ov)) (hM2 : M b2) (hB0 : Zj w b0 [(Zpt b77)]) (B1 : Zj w b1 [.int .i64 old.1, .int .i64 old.2]) (B2 : Zj w b2 [.pointer none, .int .i64 0]) (hRd : ∀ w1, Ext Non w w1 → Fn Tryz.prog 77 #[(Zpt b78), .agg #[.int .i64 old.1, .int .i64 old.2]] w1 fun u _ => ∃ p len, u = .agg #[.pointer p, .int .i64 len] ∧ A p len) : FnM Tryz.prog M 214 #[(Zpt b0), (Zpt b1), (Zpt b2)] w fun u w' => ∃ p len w1, A p len ∧ Ext Non w w1 ∧ Ext (fun i => i = b2) w1 w' ∧ Zj w' b2 [.pointer p, .int .i64 len] ∧ w'.heap.size = w1.heap.size := by
 have hXn := Ext.refl Non w
 have hX := Ext.refl M w
 refine Zfm (args := [_, _, _]) Tryz.func214 rfl rfl ?_
 refine Z5 (fun j => j == 6) mixed ?_; intro w1 E1
 replace hX := hX.tr E1
 replace hB0 := Zx hB0 E1; replace B1 := Zx B1 E1; replace B2 := Zx B2 E1; replace B77 := Zx B77 E1
 replace hXn := hXn.tr E1
 have hS := Ext.refl Non w1
 refine Zt 0 [1, 2, 3, 5, 6] rfl hS (Zv XY rfl hB0 rfl) (Zt 1 [2, 3, 5, 6] rfl hS (Zr (Zg rfl)) (Zt 2 [3, 5, 6] rfl hS (Zr (Zf Jm rfl)) (Zt 3 [5, 6] rfl hS (Zv Jw rfl B77 rfl) (Zt 4 [5, 6] rfl hS (ZG fun A hA => ZR Qv rfl rfl (B1.ext hA id)) (Zo 5 rfl (ZK (Zw zE rfl (hRd w1 (hXn.tr hS)) ?_))))))); intro v8 w2 E2 R2
 replace hS := hS.tr E2
 obtain ⟨p, len, rfl, hA⟩ := R2
 refine Zc ⟨fun _ => hS, ?_⟩
 replace hX := hX.tr hS
 replace hB0 := Zx hB0 hS; replace B1 := Zx B1 hS; replace B2 := Zx B2 hS; replace B77 := Zx B77 hS
 replace hXn := hXn.tr hS
 refine Zo 6 rfl (ZK (ZS QF rfl rfl rfl (Qc rfl rfl) B2 rfl ?_)); intro w3 E3 B2 hz3
 replace hX := hX.mine E3 (.inl hM2)
 have hzz := hz3; have EE := E3
 refine Zz ?_
 refine ZZ (by kernel_rfl) ?_ _
 exact ⟨_, rfl, hX, ⟨_, _, _, hA, hXn, EE, B2, hzz⟩⟩
set_option maxHeartbeats 800000 in
theorem from2_w (w : World) {S : Type} {Y : Sys S} {me : Nat} {G : Tg} {r : Out S} {b0 b1 b2 b3 b4 : Nat} {f2 : FuncId} {cap2 : Array Value} {p0 : Option Addr} {len0 : Int} {T : Tr} {lenT : Int} {M0 : Nat → Prop} {b77 b78 : Nat} {t sub : Int} {fl : Str} {nv ov : Value} (B77 : Zj w b77 (wsC (some ⟨b78, 0, none⟩) t sub fl nv ov)) (e2 : Xa Tryz.prog f2 = true) (hnv : nv.oneCell' = true) (hov : ov.oneCell' = true) (hk77 : G b77 = wrT me) (hk1 : G b1 = wrT me) (h17 : b1 ≠ b77) (n0 : b0 ≠ b1 ∧ b0 ≠ b77) (n2 : b2 ≠ b1 ∧ b2 ≠ b77) (hB0 : Zj w b0 [.func (.func f2) #[] cap2]) (B1 : Zj w b1 [.pointer p0, .int .i64 len0]) (B2 : Zj w b2 [(Zpt b77)]) (hMw : ∀ i, M0 i → i < w.heap.size) (hM1 : M0 b1) (hM7 : M0 b77) (hCh : ∀ w1, Ext Non w w1 → FnM Tryz.prog Non f2 (#[.agg #[.pointer p0, .int .i64 len0]] ++ cap2) w1 fun u w2 => ∃ p, u = .tuple #[.agg #[.pointer p, .int .i64 lenT], .int .i64 0] ∧ TrM M0 w2 T (.pointer p)) (h : ∀ (nn : Nat) (w1 : World) (b6 : Nat) (p : Option Addr), w.heap.size ≤ nn → nn ≤ b6 → Ext (fun i => i = b1 ∨ i = b77) w w1 → TrM (fun i => M0 i ∨ nn ≤ i) w1 T (.pointer p) → Zj w1 b1 [.pointer p, .int .i64 lenT] → Zj w1 b77 (wsC (some ⟨b78, 0, none⟩) t sub fl nv ov) → Zj w1 b6 [.int .i64 0, .int .i64 0] → MkS Y Tryz.prog me 62 #[.func (.func 216) #[] #[(Zpt b2), (Zpt b1), (Zpt b6)], .func (.func 218) #[] #[(Zpt b2), (Zpt b3), (Zpt b6), (Zpt b4), (Zpt b0)]] (K2 me G w nn b6) w1 r) : FnM Tryz.prog (Wr me G) 215 #[(Zpt b0), (Zpt b1), (Zpt b2), (Zpt b3), (Zpt b4)] w fun u w' => Xh Y Tryz.prog me G w r u w' := by
 have hXn := Ext.refl (fun i => i = b1 ∨ i = b77) w
 have hl77 : Xo (Wr me G) w b77 := .inl (.inr hk77)
 have hl1 : Xo (Wr me G) w b1 := .inl (.inr hk1)
 have hlt1 := B1.lt; have hlt7 := B77.lt
 have hX := Ext.refl (Wr me G) w
 refine Zfm (args := [_, _, _, _, _]) Tryz.func215 rfl rfl ?_
 refine Zs (Za ?_)
 refine Zc (ZC (W_drawXF (fun i => i = b1) (fun j => j == 8 || j == 9 || j == 10 || j == 11) mixed ?_)); intro w1 E1
 replace hX := hX.tr E1
 replace hB0 := Zx hB0 E1; replace B1 := Zx B1 E1; replace B2 := Zx B2 E1; replace B77 := Zx B77 E1
 replace hXn := hXn.tr E1
 have hS := Ext.refl (fun i => i = b1) w1
 have hF0 : ¬ b0 = b1 := n0.1
 have hF2 : ¬ b2 = b1 := n2.1
 have hF77 : ¬ b77 = b1 := fun e => h17 e.symm
 have hXnon : Ext Non w w1 := E1
 refine Zt 0 [8, 9, 10, 11] rfl hS (ZG fun A hA => Zi XY rfl (B2.ext hA hF2) rfl) (Zt 1 [3, 4, 5, 6, 7, 8, 9, 10, 11] rfl hS (ZG fun A hA => Zi p_166 rfl (hB0.ext hA hF0) rfl) (Zo 2 rfl (ZK (Zb (ZR QF rfl rfl B1) ?_))))
 refine Zc ⟨fun _ => hS, ?_⟩
 refine Zo 3 rfl (ZK (XW (args := [.agg #[.pointer p0, .int .i64 len0]]) rfl e2 rfl (by have := hCh w1 hXnon; simpa using this) ?_)); intro v11 w2 E2 R2
 obtain ⟨p, rfl, hT⟩ := R2
 replace hS := hS.tr E2; replace B1 := Zx B1 E2
 obtain ⟨nn, hnn⟩ : ∃ k, k = (World.heap w2).size := ⟨_, rfl⟩
 replace hT : TrM (fun i => M0 i ∨ nn ≤ i) w2 T (.pointer p) := hT.sub (fun i hi hlt => by rcases hi with hi | hi; exact hi; omega)
 have hnw : w.heap.size ≤ nn := by rw [hnn]; exact Zle hXnon.size hS.size
 refine Zc ⟨fun _ => hS, ?_⟩
 refine Zt 4 [5, 6, 7, 8, 9, 10, 11] rfl hS Zy ?_
 refine Zt 5 [7, 8, 9, 10, 11] rfl hS (Zr (ZM rfl rfl)) (Zt 6 [8, 9, 10, 11] rfl hS (Zr (ZM rfl rfl)) (Zo 7 rfl (ZK (ZS QF rfl rfl rfl (Qc rfl rfl) B1 rfl ?_)))); intro w3 E3 B1 hz3
 replace hS := hS.mine E3 (.inl rfl)
 replace hT := hT.ext E3 (fun i hi => .inl (by rw [hi]; exact hM1)); have E3 := E3
 refine Zc ⟨fun _ => hS, ?_⟩
 refine XK 8 _ _ rfl rfl (by kernel_rfl) (ZG fun A _ => Zg rfl) ?_
 refine XK 9 _ _ rfl rfl (by kernel_rfl) (ZG fun A _ => Zf f_162_6 rfl) ?_
 refine XK 10 _ _ rfl rfl (by kernel_rfl) (ZG fun A _ => Zf f_37_0 rfl) ?_
 replace hX := hX.own2 hS (fun i hi => by rw [hi]; exact hl1)
 replace hXn := hXn.own2 hS (fun i hi => .inl (.inl hi))
 replace hB0 := hB0.ext hS hF0; replace B2 := B2.ext hS hF2; replace B77 := B77.ext hS hF77
 refine Zo 11 rfl (ZK ?_)
 have Bo := B77
 refine ZN (b := b77) p_33 rfl (by conv => lhs; whnf) rfl rfl B77 Zbl ?_; intro w4 E4 B77 hz4
 replace hX := hX.mine E4 hl77
 replace hB0 := hB0.ext E4 (fun h => by omega); replace B1 := B1.ext E4 (fun h => by omega); replace B2 := B2.ext E4 (fun h => by omega)
 replace hXn := hXn.mine E4 (.inl (.inr rfl))
 refine Zz ?_
 refine ZZ (by kernel_rfl) ?_ _
 refine ZC (Zs (Zb (Zi XY rfl B2 rfl) (Zb (Zg rfl) (Zb (Zf f_162_6 rfl) (Zb (Zf f_37_0 rfl) (Zb (Zi p_33 rfl B77 rfl) (Zb (X2 rfl rfl) (Zc ?_))))))))
 refine ZE rfl (fun hc0 => ?_) (fun hc0 => ?_)
 ·exact absurd (of_decide_eq_true hc0) (by simp)
 ·refine ZF (Zs (ZT z_117 ?_)); intro b6 w5 hb6 E5 B6
  have hn0_6 := Zn hB0 hb6
  have hn1_6 := Zn B1 hb6
  have hn2_6 := Zn B2 hb6
  have hn77_6 := Zn B77 hb6
  have hq6 := Zq hX hb6
  replace hX := hX.tr E5
  replace hB0 := Zx hB0 E5; replace B1 := Zx B1 E5; replace B2 := Zx B2 E5; replace B77 := Zx B77 E5
  replace hXn := hXn.tr E5
  refine Zc (Zs (Zb (ZL rfl) (Zb (ZL rfl) ?_)))
  have hXc := hX
  have hT' := (hT.ext E4 (fun i hi => .inl (by rw [hi]; exact hM7))).ext E5 (fun _ h => h.elim)
  have hnb : nn ≤ b6 := Zle (by rw [hnn]; exact Zle E3.size E4.size) hb6
  refine ZI zE rfl (h nn w5 b6 p hnw hnb hXn hT' B1 B77 B6) ?_; intro v27 w6 E6 hR
  replace hX := hX.wr k2_tgs E6
  refine Za ?_
  refine Zc (ZB ?_)
  exact ⟨_, ZD (Zh rfl), hX, hR.pre k2_tgs hXc.size⟩
end Go.Proofs.YtjklgohpminefaaGreatDoorC
