/- Layer 20: a script's text, cut: the law. -/
import Derived.Test.YthcclgoidchkdaaDoorBunT10
import Derived.Test.YthcclgoidchkdaaDoorBunT2
import Derived.LaidMore
import Derived.Lay
import Derived.OpenShut
import Derived.Stop.Joined
import Derived.Test.YthcclgoidchkdaaDoorBunT5
import Derived.Test.YthcclgoidchkdaaDoorRows
import Derived.Test.YthcclgoidchkdaaDoorBunT3
import Derived.Test.YthcclgoidchkdaaDoorBunT6
import Derived.LaidLaws
set_option linter.unusedVariables false
set_option linter.unusedSimpArgs false
set_option maxRecDepth 100000
namespace Go.Proofs.YthcclgoidchkdaaDoorC
open Go.RowKit
theorem lines_len {s : ScD} {ps : List (Value × List OpD)} (hr : RightP s) (hs : SmallP s) (h : s.threads = ps.map (·.2)) : (linesC (cmdsOf s)).length ≤ 10000000 := by
  have e := textR_join h
  change linesC (cmdsOf s) = _ at e
  have h0 := join_len _ (lines_le hr hs h)
  have hso := sc_ops h; have hsl := sc_len h
  have h1 := hs.th; have h2 := hs.ops
  have hll : (([l0 s, l1 s] ++ lnsUp ps) ++ (if s.picks = [] then [] else [picksL s.picks])).length ≤ 111 := by
    have hpl : (if s.picks = [] then ([] : List Str) else [picksL s.picks]).length ≤ 1 := by split <;> simp
    rw [hso] at h2
    simp only [List.length_append, List.length_cons, List.length_nil, lnsUp_len]; omega
  have := Nat.mul_le_mul_right (30000 + 1) hll
  rw [e, List.length_append, List.length_singleton]; omega
-- bellman/bellmanlaw20.ScriptCuts
set_option maxHeartbeats 3200000 in
theorem scriptCuts_ok (w : World) (s : ScD) {cs : List Value} (hsc : ScM Non w cs s) (hb : ∀ t ∈ s.threads, t.length ≤ 140737488355328) (a : Int) (ha0 : 0 ≤ a) (ha1 : a ≤ 255) (hTb : Tab w) (hR : ErrS w) : Fn Tryd.prog 13 #[.agg cs.toArray, .int .u8 a] w fun u w' => u = .bool true := by
  obtain ⟨an, rfl⟩ : ∃ an : Nat, a = (an : Int) := ⟨a.toNat, by omega⟩
  obtain ⟨vT, vP, ps, rfl, hts, ⟨hT, hin⟩, hP⟩ := hsc
  obtain ⟨aT, cT, rfl, hbgT⟩ := id hT.len
  obtain ⟨aP, cP, rfl, hbgP⟩ := id hP.len
  simp only [List.length_map] at hT hP hbgT hbgP ⊢
  have hX := Ext.refl Non w
  refine fn_of_W (args := [_, _]) Tryd.func13 rfl (by kernel_rfl) rfl ?_
  refine W_seq ?_
  refine W_region ?_
  refine wl_boxS rfl ?_; intro b2 w1 hb2 hE1 hB2
  have hq2 : w.heap.size ≤ b2 := Nat.le_trans hX.size hb2
  have hl2 : Mine Non w b2 := .inr hq2
  replace hX := hX.tr hE1
  refine wl_val (rn_assign (by conv => lhs; whnf)) ?_
  refine wl_nil ?_
  refine W_seq ?_
  refine W_seq ?_
  refine W_region ?_
  refine wl_call e_58 rfl (awake20_ok w1 (hTb.non hX) (hR.non hX)) ?_; intro v13 w2 hE2 hR2
  replace hX := hX.tr hE2
  replace hB2 := hB2.ext hE2 id
  subst hR2
  refine wl_val (rn_not rfl) ?_
  refine wl_nil ?_
  refine W_cond rfl (fun hc0 => ?_) (fun hc0 => ?_)
  · exact absurd hc0 (by decide)
  · refine W_skip ?_
    refine W_seq ?_
    refine W_seq ?_
    refine W_region ?_
    refine wl_val (rn_loadB s_107 rfl rfl hB2) ?_
    refine wl_call e_59 rfl (great20_ok w2 s ⟨_, _, ps, rfl, hts, ⟨hT.ext hX (fun _ h => h), fun p hp => (hin p hp).ext hX (fun _ h => h)⟩, hP.ext hX (fun _ h => h)⟩ hb) ?_; intro v16 w3 hE3 hR3
    replace hX := hX.tr hE3
    replace hB2 := hB2.ext hE3 id
    obtain ⟨bg, rfl, hbg⟩ := hR3
    refine wl_nil ?_
    refine W_cond rfl (fun hc1 => ?_) (fun hc1 => ?_)
    · refine W_seq ?_
      refine W_region ?_
      refine wl_val (rn_assign (by conv => lhs; whnf)) ?_
      refine wl_nil ?_
      refine W_ret ?_
      exact ⟨_, resR1 (res1_tmp rfl), hX, rfl⟩
    · have hsm := hbg hc1
      obtain ⟨s1, hs1e⟩ : ∃ s1 : ScD, s1 = ⟨s.subs, s.cap, s.threads, []⟩ := ⟨_, rfl⟩
      have hs1 : SmallP s1 := by rw [hs1e]; exact ⟨hsm.th, hsm.ops, by simp, hsm.txt⟩
      replace hts : s1.threads = ps.map (·.2) := by rw [hs1e]; exact hts
      have e1 : s.subs = s1.subs := by rw [hs1e]
      have e2 : s.cap = s1.cap := by rw [hs1e]
      have e3 : s1.picks = [] := by rw [hs1e]
      rw [e1, e2] at hB2 ⊢
      refine W_skip ?_
      refine W_seq ?_
      refine W_region ?_
      refine wl_val (rn_fieldAddr f_107_3 (by decide) rfl) ?_
      refine wl_store1 (b := b2) p_39 rfl (by conv => lhs; whnf) rfl rfl hB2 (Nat.le_of_ble_eq_true rfl) ?_; intro w4 hE4 hB2 hz4
      replace hX := hX.mine hE4 hl2
      refine wl_nil ?_
      refine W_seq ?_
      refine W_region ?_
      refine wl_val (rn_loadB s_107 rfl rfl hB2) ?_
      refine wl_call e_60 rfl (text_ok w4 s1 ⟨_, _, ps, rfl, hts, ⟨hT.ext hX (fun _ h => h), fun p hp => (hin p hp).ext hX (fun _ h => h)⟩, (by rw [e3]; exact Sl.nil _ _ _)⟩ hs1 (hTb.non hX)) ?_; intro v20 w5 hE5 hR5
      replace hX := hX.tr hE5
      replace hB2 := hB2.ext hE5 id
      subst hR5
      refine wl_val (rn_move (by conv => lhs; whnf)) ?_
      refine wl_val (rn_extract rfl rfl) ?_
      refine wl_val (rn_extract rfl rfl) ?_
      refine wl_val (rn_assign (by conv => lhs; whnf)) ?_
      refine wl_val (rn_assign (by conv => lhs; whnf)) ?_
      refine wl_nil ?_
      refine W_seq ?_
      refine W_seq ?_
      refine W_region ?_
      refine wl_val (rn_move (by conv => lhs; whnf)) ?_
      refine wl_val (rn_neq rfl rfl) ?_
      refine wl_nil ?_
      refine W_cond rfl (fun hc2 => ?_) (fun hc2 => ?_)
      · have hr : ¬ rightR s1 = true := fun h => by rw [if_pos h] at hc2; exact absurd hc2 (by decide)
        refine W_seq ?_
        refine W_region ?_
        refine wl_val (rn_move (by conv => lhs; whnf)) ?_
        refine wl_val (rn_seql rfl rfl) ?_
        refine wl_val (rn_assign (by conv => lhs; whnf)) ?_
        refine wl_nil ?_
        refine W_ret ?_
        exact ⟨_, resR1 (res1_tmp rfl), hX, congrArg Value.bool (decide_eq_true (if_neg hr))⟩
      · have hr : rightR s1 = true := by apply Classical.byContradiction; intro h; rw [if_neg h] at hc2; exact absurd hc2 (by decide)
        rw [if_pos hr]
        have hrp := (right_iff s1).1 hr
        have hruns := Runs_cmds hrp hs1
        have hrc := runs_cmds s1
        have hcl := cmds_len hs1
        obtain ⟨T, hTe⟩ : ∃ T, T = linesC (cmdsOf s1) := ⟨_, rfl⟩
        have htl : (linesC (cmdsOf s1)).length ≤ 10000000 := lines_len hrp hs1 hts
        skip
        obtain ⟨K, hKe⟩ : ∃ K, K = 2 + an % 80 := ⟨_, rfl⟩
        have hK2 : 2 ≤ K := by omega
        have hK3 : K ≤ 100 := by omega
        refine W_skip ?_
        refine W_seq ?_
        refine W_region ?_
        refine wl_val (rn_move (by conv => lhs; whnf)) ?_
        refine wl_val (rn_convert ui_5 ui_3 rfl (wrap_id (by omega))) ?_
        refine wl_val (rn_remN (b := 80) rfl rfl (by decide)) ?_
        refine wl_val (Rn.cast (rn_add rfl rfl (by omega)) (v' := .int .i64 ((2 + an % 80 : Nat) : Int)) (congrArg (Value.int .i64) (by omega))) ?_
        refine wl_val (rn_assign (by conv => lhs; whnf)) ?_
        refine wl_nil ?_
        refine W_seq ?_
        refine W_region ?_
        refine wl_val (rn_assign (by conv => lhs; whnf)) ?_
        refine wl_nil ?_
        refine W_seq ?_
        refine W_seq ?_
        refine W_region ?_
        refine wl_val (rn_assign (by conv => lhs; whnf)) ?_
        refine wl_nil ?_
        refine W_block ?_   -- block 0
        refine W_loopS (S := Nat) [2, 5, 7, 8, 9] (fun i => [.pointer (some ⟨b2, 0, none⟩), Sv (linesC (cmdsOf s1)), .int .i64 ((K : Int) - (((linesC (cmdsOf s1)).take i).count 10 : Nat)), Sv ((linesC (cmdsOf s1)).take i), .int .i64 (i : Nat)]) (fun i A => (Ext Non w A) ∧ (IsBox A b2 [.int .i64 s1.subs, .int .i64 s1.cap, .slice aT ps.length cT, .slice none 0 0]) ∧ (Mine Non w b2) ∧ (i ≤ (linesC (cmdsOf s1)).length ∧ ((linesC (cmdsOf s1)).take i).count 10 ≤ K ∧ (((linesC (cmdsOf s1)).take i).count 10 = K → ((linesC (cmdsOf s1)).take i).getLast? = some 10))) (fun i => (linesC (cmdsOf s1)).length - i) 0 ⟨rfl, rfl, by rw [hKe]; rfl, rfl, rfl, trivial⟩ ⟨hX, hB2, hl2, ⟨Nat.zero_le _, Nat.zero_le _, fun h => absurd h (by show ¬ 0 = K; omega)⟩⟩ ?_
        rintro τ0 i A0 ⟨hX, hB2, hl2, hI0⟩
        obtain ⟨hil, hck, hcn⟩ := hI0
        refine W_seq ?_
        refine W_seq ?_
        refine W_region ?_
        skip
        refine wl_val (rn_move (by conv => lhs; whnf)) ?_
        refine wl_val (rn_move (by conv => lhs; whnf)) ?_
        refine wl_val (rn_slen us_9 rfl) ?_
        refine wl_val (rn_lss rfl rfl) ?_
        refine wl_val (rn_move (by conv => lhs; whnf)) ?_
        refine wl_split (d := 35) rfl (fun hg35 => ?_) (fun hg35 => ?_)
        · have hlt := of_decide_eq_true hg35; simp only [Int.ofNat_lt] at hlt
          obtain ⟨c, hcc⟩ : ∃ c, (linesC (cmdsOf s1))[i]? = some c := ⟨_, List.getElem?_eq_getElem hlt⟩
          have hcs := count_step hcc
          have hx8 := c.toNat_lt
          refine wl_yes rfl (congrArg Value.bool hg35) ?_
          refine wl_val (rn_move (by conv => lhs; whnf)) ?_
          refine wl_yes rfl (congrArg Value.bool hg35) ?_
          refine wl_val (rn_gtr rfl rfl) ?_
          refine wl_val (rn_pickT (congrArg Value.bool hg35) (by conv => lhs; whnf)) ?_
          refine wl_nil ?_
          refine W_cond rfl (fun hc3 => ?_) (fun hc3 => ?_)
          · have hk0 := of_decide_eq_true hc3
            have hk1 : ((linesC (cmdsOf s1)).take i).count 10 < K := by omega
            refine W_skip ?_
            refine W_seq ?_
            refine W_block ?_   -- block 1
            refine W_seq ?_
            refine W_region ?_
            refine wl_val (rn_move (by conv => lhs; whnf)) ?_
            refine wl_val (rn_move (by conv => lhs; whnf)) ?_
            refine wl_val (rn_move (by conv => lhs; whnf)) ?_
            refine wl_val (rn_move (by conv => lhs; whnf)) ?_
            refine wl_val (rn_add rfl rfl (by omega)) ?_
            refine wl_val (Rn.cast (rn_sslice us_9 (l := i) (h := i + 1) rfl ⟨_, rfl⟩ ⟨_, rfl⟩ (by omega) (by omega)) (v' := Sv [c]) (congrArg Sv (one_at hcc))) ?_
            refine wl_val (rn_sadd rfl rfl (by simp only [List.length_take, List.length_cons, List.length_nil]; omega)) ?_
            refine wl_val (rn_assign (by conv => lhs; whnf)) ?_
            refine wl_nil ?_
            refine W_seq ?_
            refine W_region ?_
            refine wl_val (rn_move (by conv => lhs; whnf)) ?_
            refine wl_val (rn_move (by conv => lhs; whnf)) ?_
            refine wl_val (rn_sindex us_9 rfl rfl (by omega) hcc) ?_
            refine wl_val (rn_eql rfl rfl) ?_
            refine wl_nil ?_
            refine W_cond rfl (fun hc4 => ?_) (fun hc4 => ?_)
            · have hc10 := u8_eq (d := 10) (of_decide_eq_true hc4)
              rw [if_pos hc10] at hcs
              refine W_region ?_
              refine wl_val (rn_move (by conv => lhs; whnf)) ?_
              refine wl_val (rn_sub rfl rfl (by omega)) ?_
              refine wl_val (rn_assign (by conv => lhs; whnf)) ?_
              refine wl_nil ?_
              refine W_region ?_
              refine wl_val (rn_move (by conv => lhs; whnf)) ?_
              refine wl_val (rn_add rfl rfl (by omega)) ?_
              refine wl_val (rn_assign (by conv => lhs; whnf)) ?_
              refine wl_nil ?_
              
              exact ⟨rfl, i + 1, ⟨rfl, rfl, congrArg (Value.int .i64) (by rw [hcs]; omega), by rw [List.take_add_one, hcc]; rfl, rfl, trivial⟩, ⟨hX, hB2, hl2, ⟨hlt, by omega, fun _ => by rw [List.take_add_one, hcc, hc10]; simp⟩⟩, by show (linesC (cmdsOf s1)).length - (i + 1) < (linesC (cmdsOf s1)).length - i; omega⟩
            · have hc10 : ¬ c = 10 := fun h => of_decide_eq_false hc4 (by rw [h]; rfl)
              rw [if_neg hc10] at hcs
              refine W_skip ?_
              refine W_region ?_
              refine wl_val (rn_move (by conv => lhs; whnf)) ?_
              refine wl_val (rn_add rfl rfl (by omega)) ?_
              refine wl_val (rn_assign (by conv => lhs; whnf)) ?_
              refine wl_nil ?_
              
              exact ⟨rfl, i + 1, ⟨rfl, rfl, congrArg (Value.int .i64) (by rw [hcs]; omega), by rw [List.take_add_one, hcc]; rfl, rfl, trivial⟩, ⟨hX, hB2, hl2, ⟨hlt, by omega, fun h => absurd h (by omega)⟩⟩, by show (linesC (cmdsOf s1)).length - (i + 1) < (linesC (cmdsOf s1)).length - i; omega⟩
          · have hk0 := of_decide_eq_false hc3
            obtain ⟨m, hm2, hcut⟩ := cut_some (K := K) hK2 hcl.2 hcn (.inr (by omega))
            rw [hcut]
            have hrm := hruns.take m
            have hml : 2 ≤ ((cmdsOf s1).take m).length := by rw [List.length_take]; omega
            refine W_exit ?_   -- exit 0
            refine W_seq ?_
            refine W_region ?_
            refine wl_val (rn_move (by conv => lhs; whnf)) ?_
            refine wl_call e_61 rfl (sparse_ok A0 ((cmdsOf s1).take m) hrm hml (by rw [List.length_take]; omega) (Nat.le_trans (lines_take_le _ _) htl) (hTb.non hX) (hR.non hX)) ?_; intro v56 w6 hE6 hR6
            replace hX := hX.tr hE6
            replace hB2 := hB2.ext hE6 id
            obtain ⟨q, rfl, hq⟩ := hR6
            obtain ⟨vT2, vP2, ps2, rfl, hts2, hTh2, hP2⟩ := id hq
            obtain ⟨aT2, cT2, rfl, _⟩ := id hTh2.1.len; obtain ⟨aP2, cP2, rfl, _⟩ := id hP2.len
            obtain ⟨nq, hnq⟩ : ∃ n, n = (World.heap w6).size := ⟨_, rfl⟩
            replace hq := hq.sub (M' := fun i => nq ≤ i) (fun i hi hlt => by have hi : nq ≤ i := hi; omega)
            have hzq : nq ≤ (World.heap w6).size := Nat.le_of_eq hnq
            refine wl_val (rn_move (by conv => lhs; whnf)) ?_
            refine wl_val (rn_extract rfl rfl) ?_
            refine wl_val (rn_extract rfl rfl) ?_
            refine wl_val (rn_extract rfl rfl) ?_
            refine wl_alloc z_107 ?_; intro b10 w7 hb10 hE7 hB10
            have hn2_10 : b2 < b10 := Nat.lt_of_lt_of_le hB2.lt hb10
            have hq10 : w.heap.size ≤ b10 := Nat.le_trans hX.size hb10
            have hl10 : Mine Non w b10 := .inr hq10
            have hnb10 : nq ≤ b10 := Nat.le_trans hzq hb10
            replace hX := hX.tr hE7
            replace hB2 := hB2.ext hE7 id
            replace hq := hq.ext hE7 (fun _ h => h.elim)
            replace hzq := Nat.le_trans hzq hE7.size
            have hBo := hB10
            refine wl_storeB s_107 rfl rfl rfl (fun v hv => by have hv2 : v ∈ [Value.int .i64 _, Value.int .i64 _, Value.slice _ _ _, Value.slice _ _ _] := hv; simp only [List.mem_cons, List.not_mem_nil, or_false] at hv2; rcases hv2 with rfl | rfl | rfl | rfl <;> rfl) hB10 rfl ?_; intro w8 hE8 hB10 hz8
            replace hX := hX.mine hE8 hl10
            replace hB2 := hB2.ext hE8 (fun h => by omega)
            replace hq := hq.ext hE8 (fun i e => by subst e; exact hnb10)
            replace hzq := Nat.le_trans hzq hE8.size
            refine wl_val (rn_assign (by conv => lhs; whnf)) ?_
            refine wl_val (rn_assign (by conv => lhs; whnf)) ?_
            refine wl_nil ?_
            refine W_seq ?_
            refine W_drawE mixed ?_; intro w9 hE9
            replace hX := hX.tr hE9
            replace hB2 := hB2.ext hE9 id; replace hB10 := hB10.ext hE9 id
            replace hq := hq.ext hE9 (fun _ h => h.elim)
            replace hzq := Nat.le_trans hzq hE9.size
            have hS := Ext.refl Non w9
            have hok2 := okS_runs _ _ okZ hrm
            have hrp2 := hok2.right (by rw [at_runs]; show 2 ≤ 0 + _; omega)
            have hright2 := (right_iff _).2 hrp2
            have hot := ops_take hruns m
            rw [hrc.1] at hot
            refine wd_take 0 _ _ rfl (by kernel_rfl) hS (yd_do fun A hA => rn_move (by conv => lhs; whnf)) ?_
            refine wd_take 1 _ _ rfl (by kernel_rfl) hS (yd_do fun A hA => rn_eql rfl rfl) ?_
            refine wd_take 2 _ _ rfl (by kernel_rfl) hS (yd_do fun A hA => rn_move (by conv => lhs; whnf)) ?_
            refine wd_take 3 _ _ rfl (by kernel_rfl) hS (yd_yes rfl rfl fun A hA => rn_move (by conv => lhs; whnf)) ?_
            refine wd_take 4 _ _ rfl (by kernel_rfl) hS (yd_yes rfl rfl fun A hA => rn_eql rfl rfl) ?_
            refine wd_take 5 _ _ rfl (by kernel_rfl) hS (yd_do fun A hA => rn_pickT rfl (by conv => lhs; whnf)) ?_
            refine wd_take 6 _ _ rfl (by kernel_rfl) hS (yd_do fun A hA => rn_move (by conv => lhs; whnf)) ?_
            refine wd_take 7 _ _ rfl (by kernel_rfl) hS (yd_yes rfl rfl fun A hA => rn_loadB s_107 rfl rfl (hB10.ext hA id)) ?_
            refine wd_only 8 _ rfl (by kernel_rfl) ?_
            refine s1_yes rfl rfl ?_
            refine wl_call e_62 rfl (right_ok w9 _ ((hq.ext hS (fun _ h => h.elim)).sub (fun i hi _ => hi.elim)) (by have := hrp2.ops; omega)) ?_; intro v68 w10 hE10 hR10
            replace hS := hS.tr hE10
            subst hR10; rw [hright2]
            refine wl_nil ⟨hS, ?_⟩
            refine wd_take 9 _ _ rfl (by kernel_rfl) hS (yd_do fun A hA => rn_pickT rfl (by conv => lhs; whnf)) ?_
            refine wd_take 10 _ _ rfl (by kernel_rfl) hS (yd_do fun A hA => rn_move (by conv => lhs; whnf)) ?_
            refine wd_take 11 _ _ rfl (by kernel_rfl) hS (yd_yes rfl rfl fun A hA => rn_loadB s_107 rfl rfl (hB10.ext hA id)) ?_
            refine wd_take 13 _ _ rfl (by kernel_rfl) hS (yd_yes rfl rfl fun A hA => rn_loadB s_107 rfl rfl (hB2.ext hA id)) ?_
            refine wd_only 12 _ rfl (by kernel_rfl) ?_
            refine s1_yes rfl rfl ?_
            refine wl_call e_63 rfl (count_ok w10 _ ((hq.ext hS (fun _ h => h.elim)).sub (fun i hi _ => hi.elim)) (by have := hrp2.th; omega) (by have := hrp2.ops; omega)) ?_; intro v72 w11 hE11 hR11
            replace hS := hS.tr hE11
            subst hR11
            refine wl_nil ⟨hS, ?_⟩
            refine wd_only 14 _ rfl (by kernel_rfl) ?_
            refine s1_yes rfl rfl ?_
            refine wl_call e_63 rfl (count_ok w11 s1 ⟨_, _, ps, rfl, hts, ⟨(hT.ext hX (fun _ h => h)).ext hS (fun _ h => h.elim), fun p hp => ((hin p hp).ext hX (fun _ h => h)).ext hS (fun _ h => h.elim)⟩, (by rw [e3]; exact Sl.nil _ _ _)⟩ (by have := hs1.th; omega) (by have := hs1.ops; omega)) ?_; intro v74 w12 hE12 hR12
            replace hS := hS.tr hE12
            subst hR12
            refine wl_nil ⟨hS, ?_⟩
            refine wd_take 15 _ _ rfl (by kernel_rfl) hS (yd_yes rfl rfl fun A hA => rn_leq rfl rfl) ?_
            refine wd_take 16 _ _ rfl (by kernel_rfl) hS (yd_do fun A hA => rn_pickT rfl (by conv => lhs; whnf)) ?_
            refine wd_take 17 _ _ rfl (by kernel_rfl) hS (yd_do fun A hA => rn_assign (by conv => lhs; whnf)) ?_
            refine wd_done (by kernel_rfl) ?_ _
            replace hX := hX.tr hS
            replace hB2 := hB2.ext hS id; replace hB10 := hB10.ext hS id
            replace hq := hq.ext hS (fun _ h => h.elim)
            replace hzq := Nat.le_trans hzq hS.size
            refine W_ret ?_
            first | exact ⟨_, resR1 (res1_tmp rfl), hX, congrArg Value.bool (decide_eq_true (Int.ofNat_le.2 hot))⟩
        · have hge := of_decide_eq_false hg35; simp only [Int.ofNat_lt, Nat.not_lt] at hge
          obtain ⟨m, hm2, hcut⟩ := cut_some (K := K) hK2 hcl.2 hcn (.inl hge)
          rw [hcut]
          have hrm := hruns.take m
          have hml : 2 ≤ ((cmdsOf s1).take m).length := by rw [List.length_take]; omega
          refine wl_no rfl (congrArg Value.bool hg35) ?_
          refine wl_no rfl (congrArg Value.bool hg35) ?_
          refine wl_val (rn_pickF (congrArg Value.bool hg35) (by conv => lhs; whnf)) ?_
          refine wl_nil ?_
          refine W_condF rfl ?_
          refine W_exit ?_   -- exit 0
          refine W_seq ?_
          refine W_region ?_
          refine wl_val (rn_move (by conv => lhs; whnf)) ?_
          refine wl_call e_61 rfl (sparse_ok A0 ((cmdsOf s1).take m) hrm hml (by rw [List.length_take]; omega) (Nat.le_trans (lines_take_le _ _) htl) (hTb.non hX) (hR.non hX)) ?_; intro v56 w13 hE13 hR13
          replace hX := hX.tr hE13
          replace hB2 := hB2.ext hE13 id
          obtain ⟨q, rfl, hq⟩ := hR13
          obtain ⟨vT2, vP2, ps2, rfl, hts2, hTh2, hP2⟩ := id hq
          obtain ⟨aT2, cT2, rfl, _⟩ := id hTh2.1.len; obtain ⟨aP2, cP2, rfl, _⟩ := id hP2.len
          obtain ⟨nq, hnq⟩ : ∃ n, n = (World.heap w13).size := ⟨_, rfl⟩
          replace hq := hq.sub (M' := fun i => nq ≤ i) (fun i hi hlt => by have hi : nq ≤ i := hi; omega)
          have hzq : nq ≤ (World.heap w13).size := Nat.le_of_eq hnq
          refine wl_val (rn_move (by conv => lhs; whnf)) ?_
          refine wl_val (rn_extract rfl rfl) ?_
          refine wl_val (rn_extract rfl rfl) ?_
          refine wl_val (rn_extract rfl rfl) ?_
          refine wl_alloc z_107 ?_; intro b10 w14 hb10 hE14 hB10
          have hn2_10 : b2 < b10 := Nat.lt_of_lt_of_le hB2.lt hb10
          have hq10 : w.heap.size ≤ b10 := Nat.le_trans hX.size hb10
          have hl10 : Mine Non w b10 := .inr hq10
          have hnb10 : nq ≤ b10 := Nat.le_trans hzq hb10
          replace hX := hX.tr hE14
          replace hB2 := hB2.ext hE14 id
          replace hq := hq.ext hE14 (fun _ h => h.elim)
          replace hzq := Nat.le_trans hzq hE14.size
          have hBo := hB10
          refine wl_storeB s_107 rfl rfl rfl (fun v hv => by have hv2 : v ∈ [Value.int .i64 _, Value.int .i64 _, Value.slice _ _ _, Value.slice _ _ _] := hv; simp only [List.mem_cons, List.not_mem_nil, or_false] at hv2; rcases hv2 with rfl | rfl | rfl | rfl <;> rfl) hB10 rfl ?_; intro w15 hE15 hB10 hz15
          replace hX := hX.mine hE15 hl10
          replace hB2 := hB2.ext hE15 (fun h => by omega)
          replace hq := hq.ext hE15 (fun i e => by subst e; exact hnb10)
          replace hzq := Nat.le_trans hzq hE15.size
          refine wl_val (rn_assign (by conv => lhs; whnf)) ?_
          refine wl_val (rn_assign (by conv => lhs; whnf)) ?_
          refine wl_nil ?_
          refine W_seq ?_
          refine W_drawE mixed ?_; intro w16 hE16
          replace hX := hX.tr hE16
          replace hB2 := hB2.ext hE16 id; replace hB10 := hB10.ext hE16 id
          replace hq := hq.ext hE16 (fun _ h => h.elim)
          replace hzq := Nat.le_trans hzq hE16.size
          have hS := Ext.refl Non w16
          have hok2 := okS_runs _ _ okZ hrm
          have hrp2 := hok2.right (by rw [at_runs]; show 2 ≤ 0 + _; omega)
          have hright2 := (right_iff _).2 hrp2
          have hot := ops_take hruns m
          rw [hrc.1] at hot
          refine wd_take 0 _ _ rfl (by kernel_rfl) hS (yd_do fun A hA => rn_move (by conv => lhs; whnf)) ?_
          refine wd_take 1 _ _ rfl (by kernel_rfl) hS (yd_do fun A hA => rn_eql rfl rfl) ?_
          refine wd_take 2 _ _ rfl (by kernel_rfl) hS (yd_do fun A hA => rn_move (by conv => lhs; whnf)) ?_
          refine wd_take 3 _ _ rfl (by kernel_rfl) hS (yd_yes rfl rfl fun A hA => rn_move (by conv => lhs; whnf)) ?_
          refine wd_take 4 _ _ rfl (by kernel_rfl) hS (yd_yes rfl rfl fun A hA => rn_eql rfl rfl) ?_
          refine wd_take 5 _ _ rfl (by kernel_rfl) hS (yd_do fun A hA => rn_pickT rfl (by conv => lhs; whnf)) ?_
          refine wd_take 6 _ _ rfl (by kernel_rfl) hS (yd_do fun A hA => rn_move (by conv => lhs; whnf)) ?_
          refine wd_take 7 _ _ rfl (by kernel_rfl) hS (yd_yes rfl rfl fun A hA => rn_loadB s_107 rfl rfl (hB10.ext hA id)) ?_
          refine wd_only 8 _ rfl (by kernel_rfl) ?_
          refine s1_yes rfl rfl ?_
          refine wl_call e_62 rfl (right_ok w16 _ ((hq.ext hS (fun _ h => h.elim)).sub (fun i hi _ => hi.elim)) (by have := hrp2.ops; omega)) ?_; intro v68 w17 hE17 hR17
          replace hS := hS.tr hE17
          subst hR17; rw [hright2]
          refine wl_nil ⟨hS, ?_⟩
          refine wd_take 9 _ _ rfl (by kernel_rfl) hS (yd_do fun A hA => rn_pickT rfl (by conv => lhs; whnf)) ?_
          refine wd_take 10 _ _ rfl (by kernel_rfl) hS (yd_do fun A hA => rn_move (by conv => lhs; whnf)) ?_
          refine wd_take 11 _ _ rfl (by kernel_rfl) hS (yd_yes rfl rfl fun A hA => rn_loadB s_107 rfl rfl (hB10.ext hA id)) ?_
          refine wd_take 13 _ _ rfl (by kernel_rfl) hS (yd_yes rfl rfl fun A hA => rn_loadB s_107 rfl rfl (hB2.ext hA id)) ?_
          refine wd_only 12 _ rfl (by kernel_rfl) ?_
          refine s1_yes rfl rfl ?_
          refine wl_call e_63 rfl (count_ok w17 _ ((hq.ext hS (fun _ h => h.elim)).sub (fun i hi _ => hi.elim)) (by have := hrp2.th; omega) (by have := hrp2.ops; omega)) ?_; intro v72 w18 hE18 hR18
          replace hS := hS.tr hE18
          subst hR18
          refine wl_nil ⟨hS, ?_⟩
          refine wd_only 14 _ rfl (by kernel_rfl) ?_
          refine s1_yes rfl rfl ?_
          refine wl_call e_63 rfl (count_ok w18 s1 ⟨_, _, ps, rfl, hts, ⟨(hT.ext hX (fun _ h => h)).ext hS (fun _ h => h.elim), fun p hp => ((hin p hp).ext hX (fun _ h => h)).ext hS (fun _ h => h.elim)⟩, (by rw [e3]; exact Sl.nil _ _ _)⟩ (by have := hs1.th; omega) (by have := hs1.ops; omega)) ?_; intro v74 w19 hE19 hR19
          replace hS := hS.tr hE19
          subst hR19
          refine wl_nil ⟨hS, ?_⟩
          refine wd_take 15 _ _ rfl (by kernel_rfl) hS (yd_yes rfl rfl fun A hA => rn_leq rfl rfl) ?_
          refine wd_take 16 _ _ rfl (by kernel_rfl) hS (yd_do fun A hA => rn_pickT rfl (by conv => lhs; whnf)) ?_
          refine wd_take 17 _ _ rfl (by kernel_rfl) hS (yd_do fun A hA => rn_assign (by conv => lhs; whnf)) ?_
          refine wd_done (by kernel_rfl) ?_ _
          replace hX := hX.tr hS
          replace hB2 := hB2.ext hS id; replace hB10 := hB10.ext hS id
          replace hq := hq.ext hS (fun _ h => h.elim)
          replace hzq := Nat.le_trans hzq hS.size
          refine W_ret ?_
          first | exact ⟨_, resR1 (res1_tmp rfl), hX, congrArg Value.bool (decide_eq_true (Int.ofNat_le.2 hot))⟩
end Go.Proofs.YthcclgoidchkdaaDoorC

/- The row of a law that lists variables; each rule holds of whatever program. -/
set_option linter.unusedVariables false
set_option linter.unusedSimpArgs false
namespace Go.Proofs.YthcclgoidchkdaaDoorC
open Go.ChangeShapes Go.WideShapes Go.ChangeAt Go.RowKit
/-- A law that returns true, and leaves what was as it was: its row, where variables are laid. -/
theorem law_liftedL {laidL : List (String × DataW Unit)} {a : Assume} {C : Checked} {os : Os} {f : FuncId} {fn : Func} {s : ChangeSpec} {conds : List PathCond} {apart fresh handsOn : Bool} {H : Type} {enc : TypeId × Value → H} {tb : TypeId}
    (own : ownKnob C.prog.godebug = none) (started : os.Started) (noInit : C.prog.inits.idxOf? f = none) (hfn : C.prog.funcs[f]? = some fn)
    (witness : ∃ (w : World) (tape : Tape) (i : Input), w.os = os ∧ (w.forCall tape i).Shaped C.prog ∧ i.vars = [] ∧ Input.okWide C.prog (w.forCall tape i) .any w.heap.size f i ∧
      ((s.pre enc C.prog fn conds apart (w.forCall tape i).memory i.args ∧ laidMetH C.prog laidL (w.forCall tape i).memory) ∧ sizedMet enc C.prog fn (OpenSpec.ofChange s) apart (w.forCall tape i).memory i.args) ∧ a.holds C.prog (lone (Frame.enter C.prog f i.args .normal) [] (w.forCall tape i)))
    (laid : laidOutB C.prog = true) (hts : (fn.params.toList.all fun t => C.prog.readableRec t && decide (t < C.prog.types.size)) = true) (hres : fn.resultTypes.toList = [tb]) (htb : C.prog.underlying tb = some .bool) (hvars : s.vars = [])
    (hs : ∀ ds : List (DataW H), ds.length = fn.params.toList.length → s.fn H ds = { results := [.lit (.bool true)], args := ds })
    (contract : ∀ (W : World) (base : Nat) (args : Array Value) (ds : List (DataW H)) (ps : List MemPlace), (∀ (j : Nat) t v, fn.params[j]? = some t → args[j]? = some v → Value.okWide C.prog W .any base t v) →
      DataW.TrodAll enc C.prog W 0 (fun _ => true) true fn.params.toList args.toList ds ps → laidMetH C.prog laidL W → Fn C.prog f args W fun v _ => v = .bool true) :
    ReturnsInHanded a C os f .any (fun w args => (s.pre enc C.prog fn conds apart w args ∧ laidMetH C.prog laidL w) ∧ sizedMet enc C.prog fn (OpenSpec.ofChange s) apart w args) (s.post enc C.prog fn apart fresh handsOn false) := by
  refine returnsInHanded_of_change_and (X := fun w _ => laidMetH C.prog laidL w) (fun _ _ _ hh h => h.of_heap hh) own started noInit hfn witness ?_
  intro W base args ds gs before hval hW _ _ hL _
  have hW' := hW
  obtain ⟨p, q, hA, hV, rfl, _, _⟩ := hW
  rw [hvars] at hV
  obtain ⟨rfl, rfl⟩ := trodVars_none hV
  refine Calls.mono (contract W base args ds p hval hA hL) fun e W' ⟨v, he, hE, hv⟩ => ?_
  subst hv
  refine ⟨_, he, ?_⟩
  have hlen : ∀ (ts : List TypeId) (vs : List Value) (ds : List (DataW H)) (ps : List MemPlace), DataW.TrodAll enc C.prog W 0 (fun _ => true) true ts vs ds ps → ds.length = ts.length := by
    intro ts
    induction ts with
    | nil => intro vs ds ps h; cases vs <;> cases ds <;> first | rfl | exact h.elim
    | cons t ts ih =>
      intro vs ds ps h
      cases vs with
      | nil => exact h.elim
      | cons v vs =>
        cases ds with
        | nil => exact h.elim
        | cons d ds => obtain ⟨p, q, _, h2, _⟩ := h; simp [ih _ _ _ h2]
  have hfn' : s.fn H (ds ++ []) = { results := [.lit (.bool true)], args := ds } := by rw [List.append_nil]; exact hs ds (hlen _ _ _ _ hA)
  refine ⟨ds, [], p ++ [], [], p, [], hW', ?_, ?_, ?_, hE.below.frame _, fun h => by cases h⟩
  · rw [hfn', hres]
    have : fn.resultTypes.size = 1 := by rw [← Array.length_toList, hres]; rfl
    rw [this]
    exact trodAll_mk1 (shut_bool htb true)
  · rw [hfn']
    exact trodAll_stays laid hE.below _ _ _ _ hts hA (fun x hx => by simpa using hW'.lt x (by simp [hx]))
  · rw [hfn', hvars]; rfl
end Go.Proofs.YthcclgoidchkdaaDoorC

/- What the rows of the laws on texts share: how their arguments read. -/
set_option linter.unusedVariables false
set_option linter.unusedSimpArgs false
namespace Go.Proofs.YthcclgoidchkdaaDoor
open Go.RowKit Go.Proofs.YthcclgoidchkdaaDoorC Go.ChangeShapes
theorem own3 : ownKnob Tryd.prog.godebug = none := by kernel_rfl
theorem laidOut3 : laidOutB Tryd.prog = true := by kernel_rfl
theorem u8_rng {n : Int} (h : (Lit.int .u8 n).wf = true) : 0 ≤ n ∧ n ≤ 255 := by
  have h1 : IntKind.u8.min = 0 := rfl
  have h2 : IntKind.u8.max = 255 := rfl
  have h : (decide (IntKind.u8.min ≤ n) && decide (n ≤ IntKind.u8.max)) = true := h
  rw [h1, h2, Bool.and_eq_true] at h
  exact ⟨of_decide_eq_true h.1, of_decide_eq_true h.2⟩
end Go.Proofs.YthcclgoidchkdaaDoor

/- How arguments of calls, operations, numbers read; the library's table of powers, off the row. -/
set_option linter.unusedVariables false
set_option linter.unusedSimpArgs false
namespace Go.Proofs.YthcclgoidchkdaaDoor
open Go.RowKit Go.Proofs.YthcclgoidchkdaaDoorC Go.ChangeShapes
theorem op_flat : flatT Tryd.prog 5 29 = some [.int .i64, .int .i64, .str, .str, .bool] := by kernel_rfl
theorem ops_of : ∀ (rows : List (List Value)), (∀ r ∈ rows, flatOk [.int .i64, .int .i64, .str, .str, .bool] r) → ∃ cs : List OpD, rows = cs.map OpD.enc
  | [], _ => ⟨[], rfl⟩
  | r :: rows, h => by
    obtain ⟨cs, hcs⟩ := ops_of rows (fun x hx => h x (by simp [hx]))
    have hr := h r (by simp)
    obtain ⟨_, r1, e1, ⟨a1, rfl, _⟩, h1⟩ := hr.cons
    obtain ⟨_, r2, e2, ⟨a2, rfl, _⟩, h2⟩ := h1.cons
    obtain ⟨_, r3, e3, ⟨a3, rfl, _⟩, h3⟩ := h2.cons
    obtain ⟨_, r4, e4, ⟨a4, rfl, _⟩, h4⟩ := h3.cons
    obtain ⟨_, r5, e5, ⟨a5, rfl⟩, h5⟩ := h4.cons
    have e6 := h5.nil
    exact ⟨⟨a1, a2, a3, a4, a5⟩ :: cs, by rw [hcs, e1, e2, e3, e4, e5, e6]; rfl⟩
theorem int_flat : flatT Tryd.prog 1 3 = some [.int .i64] := by kernel_rfl
theorem ints_of : ∀ (rows : List (List Value)), (∀ r ∈ rows, flatOk [.int .i64] r) → ∃ l : List Int, rows = l.map eI1
  | [], _ => ⟨[], rfl⟩
  | r :: rows, h => by
    obtain ⟨l, hl⟩ := ints_of rows (fun x hx => h x (by simp [hx]))
    obtain ⟨_, r1, e1, ⟨a1, rfl, _⟩, h1⟩ := (h r (by simp)).cons
    have e2 := h1.nil
    exact ⟨a1 :: l, by rw [hl, e1, e2]; rfl⟩
theorem laidMet_tail {P : Program} {W : World} {x : String × DataW Unit} {r : List (String × DataW Unit)} (h : laidMet P (x :: r) W) : laidMet P r W := by
  obtain ⟨ps, ⟨g, t, cs, fuel, p, q, _, _, _, _, hq, rfl⟩, hn, hp⟩ := h
  exact ⟨q, hq, (List.nodup_append.1 hn).2.1, fun b off hb => hp b off (by simp [hb])⟩
theorem laidMet_mem {P : Program} {W : World} : ∀ {L : List (String × DataW Unit)}, laidMet P L W → ∀ x ∈ L, ∃ r, laidMet P (x :: r) W
  | [], _, x, hx => by cases hx
  | y :: r, h, x, hx => by
    rcases List.mem_cons.1 hx with rfl | hx
    · exact ⟨r, h⟩
    · exact laidMet_mem (laidMet_tail h) x hx
theorem tab_ty : (Tryd.prog.globalNamed "internal/strconv.uint64pow10").bind (fun g => (Tryd.prog.globals[g]?).map (·.type)) = some 262 := by kernel_rfl
theorem tab_data : (Rows.laid_internal_strconv_uint64pow10 : DataW Unit) = Lib.tabData .u64 Lib.pow10Tab := by kernel_rfl
/-- The table stands, where the row's list names it. -/
theorem tab_of {L : List (String × DataW Unit)} {W : World} (hp : (L.all fun x => x.2.handleName?.isNone) = true) (h : laidMetH Tryd.prog L W) (hm : ("internal/strconv.uint64pow10", Rows.laid_internal_strconv_uint64pow10) ∈ L) : Tab W := by
  rw [MakeChecks.laidMetH_plain _ _ _ hp] at h
  obtain ⟨r, h⟩ := laidMet_mem h _ hm
  rw [tab_data] at h
  cases hg : Tryd.prog.globalNamed "internal/strconv.uint64pow10" with
  | none => have := tab_ty; rw [hg] at this; cases this
  | some g =>
    have hty := tab_ty
    rw [hg] at hty
    exact Lib.tabIs_of_head hg hty (n := 20) (e := 150) (by kernel_rfl) (by kernel_rfl) (by kernel_rfl) (by kernel_rfl) h
end Go.Proofs.YthcclgoidchkdaaDoor

/- The library's two errors, off the row. -/
set_option linter.unusedVariables false
set_option linter.unusedSimpArgs false
namespace Go.Proofs.YthcclgoidchkdaaDoor
open Go.RowKit Go.Proofs.YthcclgoidchkdaaDoorC Go.ChangeShapes
theorem err_at {P : Program} {n name : String} {d : DataW Unit} {r : List (String × DataW Unit)} {W : World} {g : Nat} {ti : TypeId} {ms : Array (String × TypeId)} (hg : P.globalNamed n = some g) (hty : (P.globals[g]?).map (·.type) = some ti) (hi : P.underlying ti = some (.interface ms))
    (h : laidMet P ((n, .iface name d) :: r) W) : ∃ t p, W.cell? ⟨g, 0, none⟩ = some (.iface t p) := by
  obtain ⟨ps, ⟨g', t, cs, fuel, p, q, h1, h2, h3, h4, h5, h6⟩, _, _⟩ := h
  rw [hg] at h1; cases h1
  rw [hty] at h2; cases h2
  obtain ⟨f', u, v, hc, _⟩ := iface_of_trod hi h4
  refine ⟨u, v, ?_⟩
  unfold World.var? at h3
  rw [hg] at h3
  simp only [Option.bind_some] at h3
  cases hh : W.heap[g]? with
  | none => rw [hh] at h3; cases h3
  | some o =>
    rw [hh] at h3
    cases o with
    | cells c a b =>
      simp only [Option.some.injEq] at h3
      subst h3
      have : c = #[.iface u v] := by rw [← Array.toList_inj]; simpa using hc
      simp [World.cell?, hh, this]
    | _ => cases h3
theorem errs_of {L : List (String × DataW Unit)} {W : World} (hp : (L.all fun x => x.2.handleName?.isNone) = true) (h : laidMetH Tryd.prog L W) (h1 : ("strconv.ErrSyntax", Rows.laid_strconv_ErrSyntax) ∈ L) (h2 : ("strconv.ErrRange", Rows.laid_strconv_ErrRange) ∈ L) : ErrS W := by
  rw [MakeChecks.laidMetH_plain _ _ _ hp] at h
  obtain ⟨r1, k1⟩ := laidMet_mem h _ h1
  obtain ⟨r2, k2⟩ := laidMet_mem h _ h2
  exact ⟨err_at (n := "strconv.ErrSyntax") (ti := 146) (by kernel_rfl) (by kernel_rfl) Tryd.underlying146 k1, err_at (n := "strconv.ErrRange") (ti := 146) (by kernel_rfl) (by kernel_rfl) Tryd.underlying146 k2⟩
/-- A struct of flat fields reads as its cells. -/
theorem open_agg {H : Type} {enc : TypeId × Value → H} {P : Program} {w : World} {base : Nat} {spare : Nat → Bool} {held : Bool} {t : TypeId} {n : Nat} {ks : List FK} (hf : flatT P n t = some ks) {fs : Array Field} (ht : P.underlying t = some (.struct fs)) {v : Value} {d : DataW H} {p : List MemPlace} {W : World} {r : Reach} {b0 : Nat} (h : DataW.Trod enc P w base spare held t v d p) (hv : Value.okWide P W r b0 t v) :
    ∃ cs : List Value, v = .agg cs.toArray ∧ flatOk ks cs := by
  obtain ⟨cs, rfl, _⟩ := WideShapes.okWide_struct ht hv
  obtain ⟨fuel, h⟩ := h
  have := flat_of_trod n t ks fuel _ _ hf h
  exact ⟨cs.toList, by simp, this⟩
theorem op_of (cs : List Value) (h : flatOk [.int .i64, .int .i64, .str, .str, .bool] cs) : ∃ x : OpD, cs = x.enc := by
  obtain ⟨l, hl⟩ := ops_of [cs] (fun r hr => by simp only [List.mem_singleton] at hr; rw [hr]; exact h)
  match l, hl with
  | [x], hl => exact ⟨x, by simpa using hl⟩
end Go.Proofs.YthcclgoidchkdaaDoor

/- The row of a law that lists variables, its input's weights handed on; each rule holds of whatever program. -/
set_option linter.unusedVariables false
set_option linter.unusedSimpArgs false
namespace Go.Proofs.YthcclgoidchkdaaDoorC
open Go.ChangeShapes Go.WideShapes Go.ChangeAt Go.RowKit
/-- A law that returns true, and leaves what was as it was: its row, where variables are laid. -/
theorem law_liftedW {laidL : List (String × DataW Unit)} {a : Assume} {C : Checked} {os : Os} {f : FuncId} {fn : Func} {s : ChangeSpec} {conds : List PathCond} {apart fresh handsOn : Bool} {H : Type} {enc : TypeId × Value → H} {tb : TypeId}
    (own : ownKnob C.prog.godebug = none) (started : os.Started) (noInit : C.prog.inits.idxOf? f = none) (hfn : C.prog.funcs[f]? = some fn)
    (witness : ∃ (w : World) (tape : Tape) (i : Input), w.os = os ∧ (w.forCall tape i).Shaped C.prog ∧ i.vars = [] ∧ Input.okWide C.prog (w.forCall tape i) .any w.heap.size f i ∧
      ((s.pre enc C.prog fn conds apart (w.forCall tape i).memory i.args ∧ laidMetH C.prog laidL (w.forCall tape i).memory) ∧ sizedMet enc C.prog fn (OpenSpec.ofChange s) apart (w.forCall tape i).memory i.args) ∧ a.holds C.prog (lone (Frame.enter C.prog f i.args .normal) [] (w.forCall tape i)))
    (laid : laidOutB C.prog = true) (hts : (fn.params.toList.all fun t => C.prog.readableRec t && decide (t < C.prog.types.size)) = true) (hres : fn.resultTypes.toList = [tb]) (htb : C.prog.underlying tb = some .bool) (hvars : s.vars = [])
    (hs : ∀ ds : List (DataW H), ds.length = fn.params.toList.length → s.fn H ds = { results := [.lit (.bool true)], args := ds })
    (contract : ∀ (W : World) (base : Nat) (args : Array Value) (ds : List (DataW H)) (ps : List MemPlace), (∀ (j : Nat) t v, fn.params[j]? = some t → args[j]? = some v → Value.okWide C.prog W .any base t v) →
      DataW.TrodAll enc C.prog W 0 (fun _ => true) true fn.params.toList args.toList ds ps → (DataW.weightsEach C.prog fn.params.toList ds).all (· ≤ reachBytes) = true → laidMetH C.prog laidL W → Fn C.prog f args W fun v _ => v = .bool true) :
    ReturnsInHanded a C os f .any (fun w args => (s.pre enc C.prog fn conds apart w args ∧ laidMetH C.prog laidL w) ∧ sizedMet enc C.prog fn (OpenSpec.ofChange s) apart w args) (s.post enc C.prog fn apart fresh handsOn false) := by
  refine returnsInHanded_of_change_and (X := fun w _ => laidMetH C.prog laidL w) (fun _ _ _ hh h => h.of_heap hh) own started noInit hfn witness ?_
  intro W base args ds gs before hval hW _ hwt hL _
  have hW' := hW
  obtain ⟨p, q, hA, hV, rfl, _, _⟩ := hW
  rw [hvars] at hV
  obtain ⟨rfl, rfl⟩ := trodVars_none hV
  have hvt : s.plain.varTypes C.prog = [] := by simp [ChangeSpec.plain, DataSpec.varTypes, hvars]
  rw [hvt, List.append_nil, List.append_nil] at hwt
  refine Calls.mono (contract W base args ds p hval hA hwt hL) fun e W' ⟨v, he, hE, hv⟩ => ?_
  subst hv
  refine ⟨_, he, ?_⟩
  have hlen : ∀ (ts : List TypeId) (vs : List Value) (ds : List (DataW H)) (ps : List MemPlace), DataW.TrodAll enc C.prog W 0 (fun _ => true) true ts vs ds ps → ds.length = ts.length := by
    intro ts
    induction ts with
    | nil => intro vs ds ps h; cases vs <;> cases ds <;> first | rfl | exact h.elim
    | cons t ts ih =>
      intro vs ds ps h
      cases vs with
      | nil => exact h.elim
      | cons v vs =>
        cases ds with
        | nil => exact h.elim
        | cons d ds => obtain ⟨p, q, _, h2, _⟩ := h; simp [ih _ _ _ h2]
  have hfn' : s.fn H (ds ++ []) = { results := [.lit (.bool true)], args := ds } := by rw [List.append_nil]; exact hs ds (hlen _ _ _ _ hA)
  refine ⟨ds, [], p ++ [], [], p, [], hW', ?_, ?_, ?_, hE.below.frame _, fun h => by cases h⟩
  · rw [hfn', hres]
    have : fn.resultTypes.size = 1 := by rw [← Array.length_toList, hres]; rfl
    rw [this]
    exact trodAll_mk1 (shut_bool htb true)
  · rw [hfn']
    exact trodAll_stays laid hE.below _ _ _ _ hts hA (fun x hx => by simpa using hW'.lt x (by simp [hx]))
  · rw [hfn', hvars]; rfl
end Go.Proofs.YthcclgoidchkdaaDoorC

/- Rows of rows, as an argument reads; a script. -/
set_option linter.unusedVariables false
set_option linter.unusedSimpArgs false
namespace Go.Proofs.YthcclgoidchkdaaDoorC
open Go.RowKit Go.ChangeShapes Go.Deep
section
variable {P : Program} {H : Type} {enc : TypeId × Value → H} {w : World} {base : Nat} {spare : Nat → Bool} {held : Bool}
/-- A slice reads as rows, each with its datum. -/
theorem rows_trod {t e : TypeId} {k bytes : Nat} {z : List Value} (hT : SliceT P t e k bytes z) (hk0 : 0 < k) {fuel : Nat} {cs : List Value} {x : DataW H × List MemPlace} (h : DataW.trod enc P w base spare held fuel t cs = some x) :
    ∃ (v : Value) (rows : List (List Value)), cs = [v] ∧ Sl Non w v k rows ∧ (rows = [] ∨ ∃ (D rest : List (DataW H)), x.1 = .slice D rest ∧ D.length = rows.length ∧ ∀ r ∈ rows, ∃ n d p, d ∈ D ∧ DataW.trod enc P w base spare held n e r = some (d, p)) := by
  rcases open_slice hT.under h with ⟨h1, h2⟩ | ⟨a', len, cap, m, n', D, Pl, h1, h2, h3, h4, h5, h6, h7⟩
  · exact ⟨_, [], h1, Sl.nil _ _ _, .inl rfl⟩
  · subst h1
    obtain ⟨inf, v0, i1, i2, i3, i4, i5⟩ := hT.inf
    have hce : P.cellsOf e = k := by simp [Program.cellsOf, i1, i2]
    obtain ⟨l, rfl⟩ : ∃ l, len = l := ⟨_, rfl⟩
    have hm : len ≤ m := by rw [h5]; split <;> omega
    have hx : ∀ i, i < len → ∃ cs', w.cells? base (a'.add (i * k)) k = some cs' ∧ DataW.trod enc P w base spare held n' e cs' = some (D i, Pl i) := fun i hi => by
      obtain ⟨cs', g1, g2⟩ := h7 i (by omega)
      rw [hce] at g1
      exact ⟨cs', g1, g2⟩
    have hrows : ∀ m, m ≤ len → ∃ rows : List (List Value), rows.length = m ∧ (∀ i (hi : i < m), ∃ r, rows[i]? = some r ∧ w.cells? base (a'.add (i * k)) k = some r) ∧ (∀ r ∈ rows, ∃ i, i < len ∧ r.length = k ∧ DataW.trod enc P w base spare held n' e r = some (D i, Pl i)) := by
      intro m
      induction m with
      | zero => intro _; exact ⟨[], rfl, by omega, by simp⟩
      | succ m ih =>
        intro hm
        obtain ⟨rows, r1, r2, r3⟩ := ih (by omega)
        obtain ⟨r, g1, g2⟩ := hx m (by omega)
        refine ⟨rows ++ [r], by simp [r1], fun i hi => ?_, ?_⟩
        · by_cases hlt : i < m
          · obtain ⟨r', q1, q2⟩ := r2 i hlt
            exact ⟨r', by rw [List.getElem?_append_left (by omega)]; exact q1, q2⟩
          · have : i = m := by omega
            subst this
            exact ⟨r, by rw [List.getElem?_append_right (by omega), r1]; simp, g1⟩
        · intro r' hr'
          rcases List.mem_append.1 hr' with hr' | hr'
          · exact r3 r' hr'
          · simp only [List.mem_singleton] at hr'; rw [hr']
            obtain ⟨_, q3, _⟩ := World.cells?_some g1
            exact ⟨m, by omega, q3, g2⟩
    obtain ⟨rows, r1, r2, r3⟩ := hrows len (Nat.le_refl _)
    have heach : ∀ r ∈ rows, r.length = k := fun r hr => by obtain ⟨_, _, h, _⟩ := r3 r hr; exact h
    refine ⟨_, rows, rfl, ⟨⟨some a', cap, by rw [r1], by omega, by simp only [maxLen, big] at *; omega, ?_⟩, heach⟩, .inr ⟨_, _, by rw [h6], by simp [r1], fun r hr => ?_⟩⟩
    rotate_left
    · obtain ⟨i, hi, _, hi2⟩ := r3 r hr
      exact ⟨n', D i, Pl i, List.mem_map.2 ⟨i, List.mem_range.2 hi, rfl⟩, hi2⟩
    by_cases hl0 : len = 0
    · exact .inl (List.length_eq_zero_iff.1 (by omega))
    · have hcell : ∀ i, i < len → ∀ j, j < k → w.cell? ((a'.add (i * k)).add j) = (rows[i]?.getD [])[j]? ∧ ((rows[i]?.getD []).length = k) := fun i hi j hj => by
        obtain ⟨r, q1, q2⟩ := r2 i hi
        obtain ⟨_, q3, q4⟩ := World.cells?_some q2
        rw [q1]; exact ⟨q4 j hj, q3⟩
      have hspot : a'.spot = none := by
        obtain ⟨q1, q2⟩ := hcell 0 (by omega) 0 hk0
        rw [List.getElem?_eq_getElem (by omega)] at q1
        rw [Nat.zero_mul] at q1
        have e : (a'.add 0).add 0 = a' := by simp [Addr.add]
        rw [e] at q1
        unfold World.cell? at q1
        split at q1
        · cases hs : a'.spot with
          | none => rfl
          | some _ => simp [hs] at q1
        · cases q1
      obtain ⟨b, o, sp⟩ := a'
      simp only at hspot; subst hspot
      have hb : b < w.heap.size := by
        obtain ⟨q1, q2⟩ := hcell 0 (by omega) 0 hk0
        rw [List.getElem?_eq_getElem (by omega), add_at, add_at] at q1
        exact World.block_lt_of_cell? w _ q1
      refine .inr ⟨b, o, rfl, hb, id, fun j hj => ?_⟩
      rw [flat_len heach] at hj
      have hi : j / k < len := by rw [← r1]; exact Nat.div_lt_of_lt_mul (by rw [Nat.mul_comm]; exact hj)
      have hjm : j % k < k := Nat.mod_lt _ hk0
      have q := (hcell (j / k) hi (j % k) hjm).1
      rw [add_at, add_at] at q
      have e : o + j / k * k + j % k = o + j := by rw [Nat.add_assoc, Nat.div_add_mod']
      rw [e] at q
      rw [q]
      have e2 := flat_at heach (j / k) (j % k) (by omega) hjm
      rw [Nat.div_add_mod'] at e2
      rw [e2, List.getElem?_eq_getElem (by omega : j / k < rows.length)]; rfl
theorem weights_mem {e : TypeId} : ∀ {L : List (DataW H)}, (DataW.weightsAll P e L).all (· ≤ reachBytes) = true → ∀ d ∈ L, (d.weights P e).all (· ≤ reachBytes) = true
  | [], _, d, hd => by cases hd
  | x :: L, h, d, hd => by
    simp only [DataW.weightsAll, List.all_append, Bool.and_eq_true] at h
    rcases List.mem_cons.1 hd with rfl | hd
    · exact h.1
    · exact weights_mem h.2 d hd
theorem weights_slice {t e : TypeId} (ht : P.underlying t = some (.slice e)) {D rest : List (DataW H)} (h : ((DataW.slice D rest).weights P t).all (· ≤ reachBytes) = true) : (D.length + rest.length) * P.bytesOf e ≤ reachBytes ∧ (DataW.weightsAll P e D).all (· ≤ reachBytes) = true := by
  simp only [DataW.weights, ht, List.all_cons, List.all_append, Bool.and_eq_true, decide_eq_true_eq] at h
  exact ⟨h.1, h.2.1⟩
theorem ps_of {B : Nat} : ∀ (rows : List (List Value)), (∀ r ∈ rows, ∃ (v : Value) (l : List OpD), r = [v] ∧ Sl Non w v 5 (l.map OpD.enc) ∧ l.length ≤ B) → ∃ ps : List (Value × List OpD), rows = ps.map (fun p => [p.1]) ∧ ∀ p ∈ ps, Sl Non w p.1 5 (p.2.map OpD.enc) ∧ p.2.length ≤ B
  | [], _ => ⟨[], rfl, fun p hp => by cases hp⟩
  | r :: rows, h => by
    obtain ⟨ps, h1, h2⟩ := ps_of rows (fun x hx => h x (by simp [hx]))
    obtain ⟨v, l, rfl, hs, hl⟩ := h r (by simp)
    exact ⟨(v, l) :: ps, by rw [h1]; rfl, fun p hp => by rcases List.mem_cons.1 hp with rfl | hp; exact ⟨hs, hl⟩; exact h2 p hp⟩
end
end Go.Proofs.YthcclgoidchkdaaDoorC
namespace Go.Proofs.YthcclgoidchkdaaDoor
open Go.RowKit Go.Proofs.YthcclgoidchkdaaDoorC Go.ChangeShapes
set_option maxHeartbeats 1600000 in
set_option maxRecDepth 100000 in
theorem script_of {H : Type} {enc : TypeId × Value → H} {W : World} {base : Nat} {spare : Nat → Bool} {held : Bool} {v : Value} {d : DataW H} {p : List MemPlace} {W2 : World} {r : Reach} {b0 : Nat} (h : DataW.Trod enc Tryd.prog W base spare held 107 v d p) (hv : Value.okWide Tryd.prog W2 r b0 107 v) (hw : (d.weights Tryd.prog 107).all (· ≤ reachBytes) = true) :
    ∃ (cs : List Value) (s : ScD), v = .agg cs.toArray ∧ ScM Non W cs s ∧ ∀ t ∈ s.threads, t.length ≤ 140737488355328 := by
  obtain ⟨cs, rfl, _⟩ := WideShapes.okWide_struct Tryd.underlying107 hv
  obtain ⟨fuel, h⟩ := h
  obtain ⟨xs, n, _, hx, hl, hlen, hf⟩ := DataW.trod_struct Tryd.underlying107 h
  have hc4 : Tryd.prog.cellsOf 107 = 4 := by kernel_rfl
  have hci : Tryd.prog.cellsOf 3 = 1 := by kernel_rfl
  have hcs : Tryd.prog.cellsOf 105 = 1 := by kernel_rfl
  have hcp : Tryd.prog.cellsOf 39 = 1 := by kernel_rfl
  have hb5 : Tryd.prog.bytesOf 29 = 56 := by kernel_rfl
  rw [hc4] at hl
  obtain ⟨c0, c1, c2, c3, hcl⟩ : ∃ c0 c1 c2 c3, cs.toList = [c0, c1, c2, c3] := by
    change cs.toList.length = 4 at hl
    match h : cs.toList, hl with
    | [c0, c1, c2, c3], _ => exact ⟨c0, c1, c2, c3, rfl⟩
  obtain ⟨x0, x1, x2, x3, rfl⟩ : ∃ x0 x1 x2 x3, xs = [x0, x1, x2, x3] := by
    match xs, hlen with
    | [x0, x1, x2, x3], _ => exact ⟨x0, x1, x2, x3, rfl⟩
  have hf0 := hf 0 _ rfl; have hf1 := hf 1 _ rfl; have hf2 := hf 2 _ rfl; have hf3 := hf 3 _ rfl
  change DataW.trod enc Tryd.prog W base spare held n 3 ((cs.toList.drop 0).take (Tryd.prog.cellsOf 3)) = some x0 at hf0
  change DataW.trod enc Tryd.prog W base spare held n 3 ((cs.toList.drop 1).take (Tryd.prog.cellsOf 3)) = some x1 at hf1
  change DataW.trod enc Tryd.prog W base spare held n 105 ((cs.toList.drop 2).take (Tryd.prog.cellsOf 105)) = some x2 at hf2
  change DataW.trod enc Tryd.prog W base spare held n 39 ((cs.toList.drop 3).take (Tryd.prog.cellsOf 39)) = some x3 at hf3
  rw [hci, hcl] at hf0 hf1; rw [hcs, hcl] at hf2; rw [hcp, hcl] at hf3
  have g0 := flat_of_trod 1 3 _ n _ _ int_flat hf0
  have g1 := flat_of_trod 1 3 _ n _ _ int_flat hf1
  obtain ⟨_, _, e0, ⟨a0, rfl, _⟩, _⟩ := g0.cons
  obtain ⟨_, _, e1, ⟨a1, rfl, _⟩, _⟩ := g1.cons
  simp at e0 e1
  obtain ⟨rfl, _⟩ := e0
  obtain ⟨rfl, _⟩ := e1
  have hd : d = .agg [x0.1, x1.1, x2.1, x3.1] := by have := congrArg Prod.fst hx; simpa using this
  have hw2 : (x2.1.weights Tryd.prog 105).all (· ≤ reachBytes) = true := by
    rw [hd] at hw
    simp only [DataW.weights, Tryd.underlying107] at hw
    simp only [List.map_cons, List.map_nil, DataW.weightsEach, List.all_append, Bool.and_eq_true] at hw
    exact hw.2.2.1
  obtain ⟨vT, rowsT, eT, hST, hrT⟩ := rows_trod sl_105 (by decide) hf2
  obtain ⟨vP, rowsP, eP, hSP, hrP⟩ := rows_trod sl_39 (by decide) hf3
  simp at eT eP
  subst eT; subst eP
  have hpi : ∀ r ∈ rowsP, flatOk [.int .i64] r := fun r hr => by
    rcases hrP with rfl | ⟨D, rest, _, _, h⟩
    · cases hr
    · obtain ⟨n2, d2, p2, _, h2⟩ := h r hr
      exact flat_of_trod 1 _ _ n2 _ _ int_flat h2
  obtain ⟨pk, rfl⟩ := ints_of rowsP hpi
  have hth : ∀ r ∈ rowsT, ∃ (v : Value) (l : List OpD), r = [v] ∧ Sl Non W v 5 (l.map OpD.enc) ∧ l.length ≤ 140737488355328 := fun r hr => by
    rcases hrT with rfl | ⟨D, rest, hD, _, h⟩
    · cases hr
    · rw [hD] at hw2
      have hwD := (weights_slice sl_105.under hw2).2
      obtain ⟨n2, d2, p2, hm, h2⟩ := h r hr
      have hwd := weights_mem hwD d2 hm
      obtain ⟨v2, rows2, e2, hS2, hr2⟩ := rows_trod sl_22 (by decide) h2
      have hfo : ∀ q ∈ rows2, flatOk [.int .i64, .int .i64, .str, .str, .bool] q := fun q hq => by
        rcases hr2 with rfl | ⟨D2, rest2, _, _, h3⟩
        · cases hq
        · obtain ⟨n3, d3, p3, _, h4⟩ := h3 q hq
          exact flat_of_trod 5 _ _ n3 _ _ op_flat h4
      obtain ⟨l, rfl⟩ := ops_of rows2 hfo
      refine ⟨v2, l, e2, hS2, ?_⟩
      rcases hr2 with h0 | ⟨D2, rest2, hD2, hlen2, _⟩
      · have := congrArg List.length h0; simp at this; rw [this]; simp
      · have hD2' : d2 = .slice D2 rest2 := hD2
        rw [hD2'] at hwd
        have hwb := (weights_slice sl_22.under hwd).1
        rw [hb5] at hwb
        rw [List.length_map] at hlen2
        have hrb : reachBytes = 140737488351232 := rfl
        rw [hrb] at hwb
        omega
  obtain ⟨ps, rfl, hps⟩ := ps_of rowsT hth
  refine ⟨[.int .i64 a0, .int .i64 a1, c2, c3], ⟨a0, a1, ps.map (·.2), pk⟩, congrArg Value.agg (by rw [← hcl]), ⟨c2, c3, ps, rfl, rfl, ⟨hST, fun p hp => (hps p hp).1⟩, hSP⟩, fun t ht => ?_⟩
  obtain ⟨p, hp, rfl⟩ := List.mem_map.1 ht
  exact (hps p hp).2
end Go.Proofs.YthcclgoidchkdaaDoor
