/- Filters of the program; the law TopicEach. -/
import Derived.Test.YthcclgoidchkdaaDoorTop1
set_option linter.unusedVariables false
set_option linter.unusedSimpArgs false
set_option maxRecDepth 100000
namespace Go.Proofs.YthcclgoidchkdaaDoorC
open Go.RowKit
theorem cs_name : (Tryd.f213.name == "runtime.NumGoroutine") = false := by kernel_rfl
theorem cs_body : Tryd.f213.body.isNone = true := by kernel_rfl
theorem cs_next : Extern.findNext Tryd.f213 = none := by kernel_rfl
theorem cs_find : Extern.find Tryd.f213 = some Extern.BytealgCount.count := by kernel_rfl
theorem cbs : CB Tryd.prog 213 := ⟨_, Tryd.func213, cs_name, cs_body, cs_next, cs_find⟩
-- strings.Count
set_option maxHeartbeats 1000000 in
theorem scount_ok (w : World) (s : Str) (c : UInt8) : Fn Tryd.prog 180 #[Sv s, Sv [c]] w fun u w' => u = .int .i64 (s.count c : Nat) := by
  have hX := Ext.refl Non w
  refine fn_of_W (args := [_, _]) Tryd.func180 rfl (by kernel_rfl) rfl ?_
  refine W_seq ?_
  refine W_region ?_
  refine wl_val (rn_assign (by conv => lhs; whnf)) ?_
  refine wl_nil ?_
  refine W_seq ?_
  refine W_seq ?_
  refine W_region ?_
  refine wl_val (rn_move (by conv => lhs; whnf)) ?_
  refine wl_val (rn_slen us_9 rfl) ?_
  refine wl_val (rn_eql rfl rfl) ?_
  refine wl_nil ?_
  refine W_cond rfl (fun hc0 => ?_) (fun hc0 => ?_)
  · exact absurd (of_decide_eq_true hc0) (by simp)
  · refine W_skip ?_
    refine W_seq ?_
    refine W_seq ?_
    refine W_region ?_
    refine wl_val (rn_move (by conv => lhs; whnf)) ?_
    refine wl_val (rn_slen us_9 rfl) ?_
    refine wl_val (rn_eql rfl rfl) ?_
    refine wl_nil ?_
    refine W_cond rfl (fun hc1 => ?_) (fun hc1 => ?_)
    · refine W_seq ?_
      refine W_region ?_
      refine wl_val (rn_move (by conv => lhs; whnf)) ?_
      refine wl_val (rn_move (by conv => lhs; whnf)) ?_
      refine wl_val (rn_sindex us_9 rfl rfl (by omega) rfl) ?_
      refine wl_val (P := Tryd.prog) (op := .call ⟨.value (.func 213), #[.tmp 16, .tmp 18], #[9, 5]⟩) (v := .int .i64 (s.count c : Nat)) (rn_countString (s := s) (c := c) cbs rfl rfl) ?_
      refine wl_val (rn_assign (by conv => lhs; whnf)) ?_
      refine wl_nil ?_
      refine W_ret ?_
      exact ⟨_, resR1 (res1_tmp rfl), hX, rfl⟩
    · exact absurd (of_decide_eq_false hc1) (by simp)
end Go.Proofs.YthcclgoidchkdaaDoorC
