/- The library's functions on texts: a byte's place, cutting. -/
import Derived.Test.YthcclgoidchkdaaDoorStr
import Derived.Test.YthcclgoidchkdaaDoorTy
set_option linter.unusedVariables false
set_option linter.unusedSimpArgs false
set_option maxRecDepth 100000
namespace Go.Proofs.YthcclgoidchkdaaDoorC
open Go.RowKit
theorem ibs_name : (Tryd.f218.name == "runtime.NumGoroutine") = false := by kernel_rfl
theorem ibs_body : Tryd.f218.body.isNone = true := by kernel_rfl
theorem ibs_next : Extern.findNext Tryd.f218 = none := by kernel_rfl
theorem ibs_find : Extern.find Tryd.f218 = some Extern.BytealgIndexByte.indexByte := by kernel_rfl
theorem ibs : IB Tryd.prog 218 := ⟨_, Tryd.func218, ibs_name, ibs_body, ibs_next, ibs_find⟩
theorem fi_self (c : UInt8) : fi [c] c = 0 := by simp [fi, pre1]
theorem fi_ge (s : Str) (c : UInt8) : 0 ≤ fi s c ↔ c ∈ s := by
  unfold fi; split
  · rename_i h; exact ⟨fun _ => h, fun _ => by omega⟩
  · rename_i h; exact ⟨fun h' => absurd h' (by decide), fun h' => absurd h' h⟩
theorem fi_in {s : Str} {c : UInt8} (h : c ∈ s) : fi s c = ((pre1 c s).length : Nat) := by unfold fi; rw [if_pos h]
-- internal/stringslite.IndexByte
set_option maxHeartbeats 1600000 in
theorem indexByte_ok (w : World) (s : Str) (c : UInt8) : Fn Tryd.prog 189 #[Sv s, .int .u8 c.toNat] w fun u w' => u = .int .i64 (fi s c) := by
  have hX := Ext.refl Non w
  refine fn_of_W (args := [_, _]) Tryd.func189 rfl (by kernel_rfl) rfl ?_
  refine W_seq ?_
  refine W_region ?_
  refine wl_val (rn_assign (by conv => lhs; whnf)) ?_
  refine wl_nil ?_
  refine W_seq ?_
  refine W_region ?_
  refine wl_val (rn_move (by conv => lhs; whnf)) ?_
  refine wl_val (rn_move (by conv => lhs; whnf)) ?_
  refine wl_val (P := Tryd.prog) (op := .call ⟨.value (.func 218), #[.tmp 5, .tmp 6], #[9, 5]⟩) (rn_indexByte ibs rfl rfl) ?_
  refine wl_val (rn_assign (by conv => lhs; whnf)) ?_
  refine wl_nil ?_
  refine W_ret ?_
  exact ⟨_, resR1 (res1_tmp rfl), hX, rfl⟩
-- internal/stringslite.Index
set_option maxHeartbeats 800000 in
theorem index_ok (w : World) (s : Str) (c : UInt8) : Fn Tryd.prog 214 #[Sv s, Sv [c]] w fun u w' => u = .int .i64 (fi s c) := by
  have hX := Ext.refl Non w
  refine fn_of_W (args := [_, _]) Tryd.func214 rfl (by kernel_rfl) rfl ?_
  refine W_seq ?_
  refine W_region ?_
  refine wl_val (rn_assign (by conv => lhs; whnf)) ?_
  refine wl_nil ?_
  refine W_seq ?_
  refine W_region ?_
  refine wl_val (rn_move (by conv => lhs; whnf)) ?_
  refine wl_val (rn_slen us_9 rfl) ?_
  refine wl_val (rn_assign (by conv => lhs; whnf)) ?_
  refine wl_nil ?_
  refine W_seq ?_
  refine W_block ?_   -- block 0
  refine W_seq ?_
  refine W_region ?_
  refine wl_val (rn_move (by conv => lhs; whnf)) ?_
  refine wl_val (rn_eql rfl rfl) ?_
  refine wl_val (rn_move (by conv => lhs; whnf)) ?_
  refine wl_split (d := 19) rfl (fun hg19 => ?_) (fun hg19 => ?_)
  · exact absurd (of_decide_eq_true hg19) (by simp)
  · refine wl_yes rfl (congrArg Value.bool hg19) ?_
    refine wl_val (rn_move (by conv => lhs; whnf)) ?_
    refine wl_yes rfl (congrArg Value.bool hg19) ?_
    refine wl_val (rn_move (by conv => lhs; whnf)) ?_
    refine wl_yes rfl (congrArg Value.bool hg19) ?_
    refine wl_val (rn_seql rfl rfl) ?_
    refine wl_val (rn_pickF (congrArg Value.bool hg19) (by conv => lhs; whnf)) ?_
    refine wl_val (rn_assign (by conv => lhs; whnf)) ?_
    refine wl_nil ?_
    refine W_cond rfl (fun hc0 => ?_) (fun hc0 => ?_)
    · refine W_seq ?_
      refine W_region ?_
      refine wl_val (rn_assign (by conv => lhs; whnf)) ?_
      refine wl_nil ?_
      refine W_ret ?_
      exact ⟨_, resR1 (res1_tmp rfl), hX, by have e := of_decide_eq_true hc0; rw [← e, fi_self]; rfl⟩
    · refine W_seq ?_
      refine W_region ?_
      refine wl_val (rn_move (by conv => lhs; whnf)) ?_
      refine wl_val (rn_eql rfl rfl) ?_
      refine wl_val (rn_assign (by conv => lhs; whnf)) ?_
      refine wl_nil ?_
      refine W_cond rfl (fun hc1 => ?_) (fun hc1 => ?_)
      · refine W_seq ?_
        refine W_region ?_
        refine wl_val (rn_move (by conv => lhs; whnf)) ?_
        refine wl_val (rn_move (by conv => lhs; whnf)) ?_
        refine wl_val (rn_sindex us_9 rfl rfl (by omega) rfl) ?_
        refine wl_call e_189 rfl (indexByte_ok w s c) ?_; intro v30 w1 hE1 hR1
        replace hX := hX.tr hE1
        subst hR1
        refine wl_val (rn_assign (by conv => lhs; whnf)) ?_
        refine wl_nil ?_
        refine W_ret ?_
        exact ⟨_, resR1 (res1_tmp rfl), hX, rfl⟩
      · exact absurd (of_decide_eq_false hc1) (by simp)
-- bellman/bellmanref01.Long
theorem long_ok (w : World) (s : Str) : Fn Tryd.prog 32 #[Sv s] w fun u w' => u = .bool (decide ((s.length : Int) > 300)) := by
  have hX := Ext.refl Non w
  refine fn_of_W (args := [_]) Tryd.func32 rfl (by kernel_rfl) rfl ?_
  refine W_seq ?_
  refine W_region ?_
  refine wl_val (rn_assign (by conv => lhs; whnf)) ?_
  refine wl_nil ?_
  refine W_seq ?_
  refine W_region ?_
  refine wl_val (rn_move (by conv => lhs; whnf)) ?_
  refine wl_val (rn_slen us_9 rfl) ?_
  refine wl_val (rn_gtr rfl rfl) ?_
  refine wl_val (rn_assign (by conv => lhs; whnf)) ?_
  refine wl_nil ?_
  refine W_ret ?_
  exact ⟨_, resR1 (res1_tmp rfl), hX, rfl⟩
-- strings.Index
theorem sindex_ok (w : World) (s : Str) (c : UInt8) : Fn Tryd.prog 181 #[Sv s, Sv [c]] w fun u w' => u = .int .i64 (fi s c) := by
  have hX := Ext.refl Non w
  refine fn_of_W (args := [_, _]) Tryd.func181 rfl (by kernel_rfl) rfl ?_
  refine W_seq ?_
  refine W_region ?_
  refine wl_val (rn_assign (by conv => lhs; whnf)) ?_
  refine wl_nil ?_
  refine W_seq ?_
  refine W_region ?_
  refine wl_val (rn_move (by conv => lhs; whnf)) ?_
  refine wl_val (rn_move (by conv => lhs; whnf)) ?_
  refine wl_call e_214 rfl (index_ok w s c) ?_; intro v7 w1 hE1 hR1
  replace hX := hX.tr hE1
  subst hR1
  refine wl_val (rn_assign (by conv => lhs; whnf)) ?_
  refine wl_nil ?_
  refine W_ret ?_
  exact ⟨_, resR1 (res1_tmp rfl), hX, rfl⟩
end Go.Proofs.YthcclgoidchkdaaDoorC
