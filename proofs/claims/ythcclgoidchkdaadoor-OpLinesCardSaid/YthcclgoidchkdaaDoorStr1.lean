/- The library's functions on texts: a byte's place, cutting. -/
import Derived.Test.YthcclgoidchkdaaDoorStr
import Derived.Test.YthcclgoidchkdaaDoorTy
set_option linter.unusedVariables false
set_option linter.unusedSimpArgs false
set_option maxRecDepth 100000
namespace Go.Proofs.YthcclgoidchkdaaDoorC
open Go.RowKit
theorem ibs_name : (Tryd.f218.name == "runtime.NumGoroutine") = false := by kernel_rfl
theorem ibs_body : Tryd.f218.body.isNone = true := by kernel_rfl
theorem ibs_next : Extern.findNext Tryd.f218 = none := by kernel_rfl
theorem ibs_find : Extern.find Tryd.f218 = some Extern.BytealgIndexByte.indexByte := by kernel_rfl
theorem ibs : IB Tryd.prog 218 := ⟨_, Tryd.func218, ibs_name, ibs_body, ibs_next, ibs_find⟩
theorem fi_self (c : UInt8) : fi [c] c = 0 := by simp [fi, pre1]
theorem fi_ge (s : Str) (c : UInt8) : 0 ≤ fi s c ↔ c ∈ s := by
  unfold fi; split
  · rename_i h; exact ⟨fun _ => h, fun _ => by omega⟩
  · rename_i h; exact ⟨fun h' => absurd h' (by decide), fun h' => absurd h' h⟩
theorem fi_in {s : Str} {c : UInt8} (h : c ∈ s) : fi s c = ((pre1 c s).length : Nat) := by unfold fi; rw [if_pos h]
/-- What lies behind the first byte c. -/
def post1 (c : UInt8) (s : Str) : Str := s.drop ((pre1 c s).length + 1)
-- internal/stringslite.IndexByte
set_option maxHeartbeats 1600000 in
theorem indexByte_ok (w : World) (s : Str) (c : UInt8) : Fn Tryd.prog 189 #[Sv s, .int .u8 c.toNat] w fun u w' => u = .int .i64 (fi s c) := by
  have hX := Ext.refl Non w
  refine fn_of_W (args := [_, _]) Tryd.func189 rfl (by kernel_rfl) rfl ?_
  refine W_seq ?_
  refine W_region ?_
  refine wl_val (rn_assign (by conv => lhs; whnf)) ?_
  refine wl_nil ?_
  refine W_seq ?_
  refine W_region ?_
  refine wl_val (rn_move (by conv => lhs; whnf)) ?_
  refine wl_val (rn_move (by conv => lhs; whnf)) ?_
  refine wl_val (P := Tryd.prog) (op := .call ⟨.value (.func 218), #[.tmp 5, .tmp 6], #[9, 5]⟩) (rn_indexByte ibs rfl rfl) ?_
  refine wl_val (rn_assign (by conv => lhs; whnf)) ?_
  refine wl_nil ?_
  refine W_ret ?_
  exact ⟨_, resR1 (res1_tmp rfl), hX, rfl⟩
-- internal/stringslite.Index
set_option maxHeartbeats 800000 in
theorem index_ok (w : World) (s : Str) (c : UInt8) : Fn Tryd.prog 214 #[Sv s, Sv [c]] w fun u w' => u = .int .i64 (fi s c) := by
  have hX := Ext.refl Non w
  refine fn_of_W (args := [_, _]) Tryd.func214 rfl (by kernel_rfl) rfl ?_
  refine W_seq ?_
  refine W_region ?_
  refine wl_val (rn_assign (by conv => lhs; whnf)) ?_
  refine wl_nil ?_
  refine W_seq ?_
  refine W_region ?_
  refine wl_val (rn_move (by conv => lhs; whnf)) ?_
  refine wl_val (rn_slen us_9 rfl) ?_
  refine wl_val (rn_assign (by conv => lhs; whnf)) ?_
  refine wl_nil ?_
  refine W_seq ?_
  refine W_block ?_   -- block 0
  refine W_seq ?_
  refine W_region ?_
  refine wl_val (rn_move (by conv => lhs; whnf)) ?_
  refine wl_val (rn_eql rfl rfl) ?_
  refine wl_val (rn_move (by conv => lhs; whnf)) ?_
  refine wl_split (d := 19) rfl (fun hg19 => ?_) (fun hg19 => ?_)
  · exact absurd (of_decide_eq_true hg19) (by simp)
  · refine wl_yes rfl (congrArg Value.bool hg19) ?_
    refine wl_val (rn_move (by conv => lhs; whnf)) ?_
    refine wl_yes rfl (congrArg Value.bool hg19) ?_
    refine wl_val (rn_move (by conv => lhs; whnf)) ?_
    refine wl_yes rfl (congrArg Value.bool hg19) ?_
    refine wl_val (rn_seql rfl rfl) ?_
    refine wl_val (rn_pickF (congrArg Value.bool hg19) (by conv => lhs; whnf)) ?_
    refine wl_val (rn_assign (by conv => lhs; whnf)) ?_
    refine wl_nil ?_
    refine W_cond rfl (fun hc0 => ?_) (fun hc0 => ?_)
    · refine W_seq ?_
      refine W_region ?_
      refine wl_val (rn_assign (by conv => lhs; whnf)) ?_
      refine wl_nil ?_
      refine W_ret ?_
      exact ⟨_, resR1 (res1_tmp rfl), hX, by have e := of_decide_eq_true hc0; rw [← e, fi_self]; rfl⟩
    · refine W_seq ?_
      refine W_region ?_
      refine wl_val (rn_move (by conv => lhs; whnf)) ?_
      refine wl_val (rn_eql rfl rfl) ?_
      refine wl_val (rn_assign (by conv => lhs; whnf)) ?_
      refine wl_nil ?_
      refine W_cond rfl (fun hc1 => ?_) (fun hc1 => ?_)
      · refine W_seq ?_
        refine W_region ?_
        refine wl_val (rn_move (by conv => lhs; whnf)) ?_
        refine wl_val (rn_move (by conv => lhs; whnf)) ?_
        refine wl_val (rn_sindex us_9 rfl rfl (by omega) rfl) ?_
        refine wl_call e_189 rfl (indexByte_ok w s c) ?_; intro v30 w1 hE1 hR1
        replace hX := hX.tr hE1
        subst hR1
        refine wl_val (rn_assign (by conv => lhs; whnf)) ?_
        refine wl_nil ?_
        refine W_ret ?_
        exact ⟨_, resR1 (res1_tmp rfl), hX, rfl⟩
      · exact absurd (of_decide_eq_false hc1) (by simp)
-- internal/stringslite.Cut
set_option maxHeartbeats 800000 in
theorem scut_ok (w : World) (s : Str) (c : UInt8) (hn : s.length ≤ 1000000) : Fn Tryd.prog 217 #[Sv s, Sv [c]] w fun u w' => u = .tuple #[Sv (pre1 c s), Sv (post1 c s), .bool (decide (c ∈ s))] := by
  have hpl := pre1_le c s
  have hX := Ext.refl Non w
  refine fn_of_W (args := [_, _]) Tryd.func217 rfl (by kernel_rfl) rfl ?_
  refine W_seq ?_
  refine W_region ?_
  refine wl_val (rn_assign (by conv => lhs; whnf)) ?_
  refine wl_val (rn_assign (by conv => lhs; whnf)) ?_
  refine wl_val (rn_assign (by conv => lhs; whnf)) ?_
  refine wl_nil ?_
  refine W_seq ?_
  refine W_seq ?_
  refine W_region ?_
  refine wl_val (rn_move (by conv => lhs; whnf)) ?_
  refine wl_val (rn_move (by conv => lhs; whnf)) ?_
  refine wl_call e_214 rfl (index_ok w s c) ?_; intro v10 w1 hE1 hR1
  replace hX := hX.tr hE1
  subst hR1
  refine wl_val (rn_assign (by conv => lhs; whnf)) ?_
  refine wl_nil ?_
  refine W_seq ?_
  refine W_region ?_
  refine wl_val (rn_move (by conv => lhs; whnf)) ?_
  refine wl_val (rn_geq rfl rfl) ?_
  refine wl_nil ?_
  refine W_cond rfl (fun hc0 => ?_) (fun hc0 => ?_)
  · have hcm : c ∈ s := (fi_ge s c).1 (of_decide_eq_true hc0)
    have hfi := fi_in hcm
    have hlt : (pre1 c s).length < s.length := (List.getElem?_eq_some_iff.1 (pre1_mem hcm)).1
    refine W_seq ?_
    refine W_drawE mixed ?_; intro w2 hE2
    replace hX := hX.tr hE2
    have hS := Ext.refl Non w2
    refine wd_take 0 _ _ rfl (by kernel_rfl) hS (yd_do fun A hA => rn_move (by conv => lhs; whnf)) ?_
    refine wd_take 1 _ _ rfl (by kernel_rfl) hS (yd_do fun A hA => Rn.cast (rn_move rfl) (v' := .int .i64 ((pre1 c s).length : Nat)) (congrArg (Value.int .i64) hfi)) ?_
    refine wd_take 2 _ _ rfl (by kernel_rfl) hS (yd_do fun A hA => rn_sslice us_9 (l := 0) (h := (pre1 c s).length) rfl rfl ⟨_, rfl⟩ (by omega) (by first | omega | (simp only [List.length_cons, List.length_nil, List.length_append]; omega))) ?_
    refine wd_take 3 _ _ rfl (by kernel_rfl) hS (yd_do fun A hA => rn_move (by conv => lhs; whnf)) ?_
    refine wd_take 4 _ _ rfl (by kernel_rfl) hS (yd_do fun A hA => Rn.cast (rn_move rfl) (v' := .int .i64 ((pre1 c s).length : Nat)) (congrArg (Value.int .i64) hfi)) ?_
    refine wd_take 5 _ _ rfl (by kernel_rfl) hS (yd_do fun A hA => rn_move (by conv => lhs; whnf)) ?_
    refine wd_take 6 _ _ rfl (by kernel_rfl) hS (yd_do fun A hA => rn_slen us_9 rfl) ?_
    refine wd_take 7 _ _ rfl (by kernel_rfl) hS (yd_do fun A hA => rn_add rfl rfl (by simp only [List.length_singleton]; omega)) ?_
    refine wd_take 8 _ _ rfl (by kernel_rfl) hS (yd_do fun A hA => rn_sslice us_9 (l := ((pre1 c s).length + 1)) (h := s.length) rfl ⟨_, rfl⟩ rfl (by omega) (by first | omega | (simp only [List.length_cons, List.length_nil, List.length_append]; omega))) ?_
    refine wd_take 9 _ _ rfl (by kernel_rfl) hS (yd_do fun A hA => rn_assign (by conv => lhs; whnf)) ?_
    refine wd_take 10 _ _ rfl (by kernel_rfl) hS (yd_do fun A hA => rn_assign (by conv => lhs; whnf)) ?_
    refine wd_take 11 _ _ rfl (by kernel_rfl) hS (yd_do fun A hA => rn_assign (by conv => lhs; whnf)) ?_
    refine wd_done (by kernel_rfl) ?_ _
    replace hX := hX.tr hS
    refine W_ret ?_
    exact ⟨_, resR3 (res1_tmp rfl) (res1_tmp rfl) (res1_tmp rfl), hX, by rw [decide_eq_true hcm]; show Value.tuple #[Sv ((s.drop 0).take ((pre1 c s).length - 0)), Sv ((s.drop ((pre1 c s).length + 1)).take (s.length - ((pre1 c s).length + 1))), .bool true] = _; rw [List.drop_zero, Nat.sub_zero, pre1_take, List.take_of_length_le (by rw [List.length_drop]; exact Nat.le_refl _)]; rfl⟩
  · have hcm : ¬ c ∈ s := fun h => of_decide_eq_false hc0 ((fi_ge s c).2 h)
    refine W_skip ?_
    refine W_seq ?_
    refine W_region ?_
    refine wl_val (rn_move (by conv => lhs; whnf)) ?_
    refine wl_val (rn_assign (by conv => lhs; whnf)) ?_
    refine wl_val (rn_assign (by conv => lhs; whnf)) ?_
    refine wl_val (rn_assign (by conv => lhs; whnf)) ?_
    refine wl_nil ?_
    refine W_ret ?_
    exact ⟨_, resR3 (res1_tmp rfl) (res1_tmp rfl) (res1_tmp rfl), hX, by rw [decide_eq_false hcm, pre1_not hcm]; unfold post1; rw [pre1_not hcm, List.drop_of_length_le (by omega)]; rfl⟩
-- strings.Cut
theorem cut_ok (w : World) (s : Str) (c : UInt8) (hn : s.length ≤ 1000000) : Fn Tryd.prog 186 #[Sv s, Sv [c]] w fun u w' => u = .tuple #[Sv (pre1 c s), Sv (post1 c s), .bool (decide (c ∈ s))] := by
  have hX := Ext.refl Non w
  refine fn_of_W (args := [_, _]) Tryd.func186 rfl (by kernel_rfl) rfl ?_
  refine W_seq ?_
  refine W_region ?_
  refine wl_val (rn_assign (by conv => lhs; whnf)) ?_
  refine wl_val (rn_assign (by conv => lhs; whnf)) ?_
  refine wl_val (rn_assign (by conv => lhs; whnf)) ?_
  refine wl_nil ?_
  refine W_seq ?_
  refine W_region ?_
  refine wl_val (rn_move (by conv => lhs; whnf)) ?_
  refine wl_val (rn_move (by conv => lhs; whnf)) ?_
  refine wl_call e_217 rfl (scut_ok w s c hn) ?_; intro v9 w1 hE1 hR1
  replace hX := hX.tr hE1
  subst hR1
  refine wl_val (rn_extract rfl rfl) ?_
  refine wl_val (rn_extract rfl rfl) ?_
  refine wl_val (rn_extract rfl rfl) ?_
  refine wl_val (rn_assign (by conv => lhs; whnf)) ?_
  refine wl_val (rn_assign (by conv => lhs; whnf)) ?_
  refine wl_val (rn_assign (by conv => lhs; whnf)) ?_
  refine wl_nil ?_
  refine W_ret ?_
  exact ⟨_, resR3 (res1_tmp rfl) (res1_tmp rfl) (res1_tmp rfl), hX, rfl⟩
-- bellman/topic.Wild
theorem twild_ok (w : World) (s : Str) (hn : s.length ≤ 1000000) : Fn Tryd.prog 203 #[Sv s] w fun u w' => u = .bool (decide (pre1 47 s = [43]) || decide (pre1 47 s = [35])) := by
  have hX := Ext.refl Non w
  refine fn_of_W (args := [_]) Tryd.func203 rfl (by kernel_rfl) rfl ?_
  refine W_seq ?_
  refine W_region ?_
  refine wl_val (rn_assign (by conv => lhs; whnf)) ?_
  refine wl_nil ?_
  refine W_seq ?_
  refine W_region ?_
  refine wl_val (rn_move (by conv => lhs; whnf)) ?_
  refine wl_call e_186 rfl (cut_ok w s 47 hn) ?_; intro v8 w1 hE1 hR1
  replace hX := hX.tr hE1
  subst hR1
  refine wl_val (rn_move (by conv => lhs; whnf)) ?_
  refine wl_val (rn_extract rfl rfl) ?_
  refine wl_val (rn_extract rfl rfl) ?_
  refine wl_val (rn_extract rfl rfl) ?_
  refine wl_val (rn_assign (by conv => lhs; whnf)) ?_
  refine wl_val (rn_assign (by conv => lhs; whnf)) ?_
  refine wl_val (rn_assign (by conv => lhs; whnf)) ?_
  refine wl_nil ?_
  refine W_seq ?_
  refine W_region ?_
  refine wl_val (rn_move (by conv => lhs; whnf)) ?_
  refine wl_val (rn_seql rfl rfl) ?_
  refine wl_val (rn_move (by conv => lhs; whnf)) ?_
  refine wl_split (d := 14) rfl (fun hg14 => ?_) (fun hg14 => ?_)
  · refine wl_no rfl (congrArg Value.bool hg14) ?_
    refine wl_no rfl (congrArg Value.bool hg14) ?_
    refine wl_val (rn_pickT (congrArg Value.bool hg14) (by conv => lhs; whnf)) ?_
    refine wl_val (rn_assign (by conv => lhs; whnf)) ?_
    refine wl_nil ?_
    refine W_ret ?_
    exact ⟨_, resR1 (res1_tmp rfl), hX, by rw [hg14]; rfl⟩
  · refine wl_yes rfl (congrArg Value.bool hg14) ?_
    refine wl_val (rn_move (by conv => lhs; whnf)) ?_
    refine wl_yes rfl (congrArg Value.bool hg14) ?_
    refine wl_val (rn_seql rfl rfl) ?_
    refine wl_val (rn_pickF (congrArg Value.bool hg14) (by conv => lhs; whnf)) ?_
    refine wl_val (rn_assign (by conv => lhs; whnf)) ?_
    refine wl_nil ?_
    refine W_ret ?_
    exact ⟨_, resR1 (res1_tmp rfl), hX, by rw [hg14]; rfl⟩
-- bellman/bellmanref01.Long
theorem long_ok (w : World) (s : Str) : Fn Tryd.prog 32 #[Sv s] w fun u w' => u = .bool (decide ((s.length : Int) > 300)) := by
  have hX := Ext.refl Non w
  refine fn_of_W (args := [_]) Tryd.func32 rfl (by kernel_rfl) rfl ?_
  refine W_seq ?_
  refine W_region ?_
  refine wl_val (rn_assign (by conv => lhs; whnf)) ?_
  refine wl_nil ?_
  refine W_seq ?_
  refine W_region ?_
  refine wl_val (rn_move (by conv => lhs; whnf)) ?_
  refine wl_val (rn_slen us_9 rfl) ?_
  refine wl_val (rn_gtr rfl rfl) ?_
  refine wl_val (rn_assign (by conv => lhs; whnf)) ?_
  refine wl_nil ?_
  refine W_ret ?_
  exact ⟨_, resR1 (res1_tmp rfl), hX, rfl⟩
-- strings.Index
theorem sindex_ok (w : World) (s : Str) (c : UInt8) : Fn Tryd.prog 181 #[Sv s, Sv [c]] w fun u w' => u = .int .i64 (fi s c) := by
  have hX := Ext.refl Non w
  refine fn_of_W (args := [_, _]) Tryd.func181 rfl (by kernel_rfl) rfl ?_
  refine W_seq ?_
  refine W_region ?_
  refine wl_val (rn_assign (by conv => lhs; whnf)) ?_
  refine wl_nil ?_
  refine W_seq ?_
  refine W_region ?_
  refine wl_val (rn_move (by conv => lhs; whnf)) ?_
  refine wl_val (rn_move (by conv => lhs; whnf)) ?_
  refine wl_call e_214 rfl (index_ok w s c) ?_; intro v7 w1 hE1 hR1
  replace hX := hX.tr hE1
  subst hR1
  refine wl_val (rn_assign (by conv => lhs; whnf)) ?_
  refine wl_nil ?_
  refine W_ret ?_
  exact ⟨_, resR1 (res1_tmp rfl), hX, rfl⟩
-- strings.IndexByte
theorem sindexByte_ok (w : World) (s : Str) (c : UInt8) : Fn Tryd.prog 157 #[Sv s, .int .u8 c.toNat] w fun u w' => u = .int .i64 (fi s c) := by
  have hX := Ext.refl Non w
  refine fn_of_W (args := [_, _]) Tryd.func157 rfl (by kernel_rfl) rfl ?_
  refine W_seq ?_
  refine W_region ?_
  refine wl_val (rn_assign (by conv => lhs; whnf)) ?_
  refine wl_nil ?_
  refine W_seq ?_
  refine W_region ?_
  refine wl_val (rn_move (by conv => lhs; whnf)) ?_
  refine wl_val (rn_move (by conv => lhs; whnf)) ?_
  refine wl_call e_189 rfl (indexByte_ok w s c) ?_; intro v7 w1 hE1 hR1
  replace hX := hX.tr hE1
  subst hR1
  refine wl_val (rn_assign (by conv => lhs; whnf)) ?_
  refine wl_nil ?_
  refine W_ret ?_
  exact ⟨_, resR1 (res1_tmp rfl), hX, rfl⟩
-- strings.Contains
theorem scontains_ok (w : World) (s : Str) (c : UInt8) : Fn Tryd.prog 202 #[Sv s, Sv [c]] w fun u w' => u = .bool (decide (c ∈ s)) := by
  have hX := Ext.refl Non w
  refine fn_of_W (args := [_, _]) Tryd.func202 rfl (by kernel_rfl) rfl ?_
  refine W_seq ?_
  refine W_region ?_
  refine wl_val (rn_assign (by conv => lhs; whnf)) ?_
  refine wl_nil ?_
  refine W_seq ?_
  refine W_region ?_
  refine wl_val (rn_move (by conv => lhs; whnf)) ?_
  refine wl_val (rn_move (by conv => lhs; whnf)) ?_
  refine wl_call e_181 rfl (sindex_ok w s c) ?_; intro v7 w1 hE1 hR1
  replace hX := hX.tr hE1
  subst hR1
  refine wl_val (rn_geq rfl rfl) ?_
  refine wl_val (rn_assign (by conv => lhs; whnf)) ?_
  refine wl_nil ?_
  refine W_ret ?_
  exact ⟨_, resR1 (res1_tmp rfl), hX, by rw [show decide (c ∈ s) = decide (fi s c ≥ 0) from decide_eq_decide.2 (fi_ge s c).symm]; rfl⟩
end Go.Proofs.YthcclgoidchkdaaDoorC
