/- Searching a rising list; a map's functions. -/
import Derived.Test.YthcclgoidchkdaaDoorSet1
import Derived.Test.YthcclgoidchkdaaDoorOrd
set_option linter.unusedVariables false
set_option linter.unusedSimpArgs false
set_option maxRecDepth 100000
namespace Go.Proofs.YthcclgoidchkdaaDoorC
open Go.RowKit
def eI1 (x : Int) : List Value := [.int .i64 x]
def eS1 (x : Str) : List Value := [Sv x]
theorem eI_at {ks : List Int} {i : Nat} {x : Int} (h : ks[i]? = some x) : (ks.map eI1)[i]? = some [.int .i64 x] := by simp [h, eI1]
theorem eS_at {ks : List Str} {i : Nat} {x : Str} (h : ks[i]? = some x) : (ks.map eS1)[i]? = some [Sv x] := by simp [h, eS1]
theorem eI_one (ks : List Int) : ∀ r ∈ ks.map eI1, ∀ u ∈ r, u.oneCell' = true := by
  intro r hr u hu; obtain ⟨x, _, rfl⟩ := List.mem_map.1 hr; simp only [eI1, List.mem_singleton] at hu; subst hu; rfl
theorem eS_one (ks : List Str) : ∀ r ∈ ks.map eS1, ∀ u ∈ r, u.oneCell' = true := by
  intro r hr u hu; obtain ⟨x, _, rfl⟩ := List.mem_map.1 hr; simp only [eS1, List.mem_singleton] at hu; subst hu; rfl
-- slices.isNaN[string]
theorem sNaN_s (w : World) (x : Str) : Fn Tryd.prog 160 #[Sv x] w fun u w' => u = .bool false := by
  have hX := Ext.refl Non w
  refine fn_of_W (args := [_]) Tryd.func160 rfl (by kernel_rfl) rfl ?_
  refine W_seq ?_
  refine W_region ?_
  refine wl_val (rn_assign (by conv => lhs; whnf)) ?_
  refine wl_nil ?_
  refine W_seq ?_
  refine W_region ?_
  refine wl_val (rn_move (by conv => lhs; whnf)) ?_
  refine wl_val (rn_move (by conv => lhs; whnf)) ?_
  refine wl_val (rn_sneq rfl rfl) ?_
  refine wl_val (rn_assign (by conv => lhs; whnf)) ?_
  refine wl_nil ?_
  refine W_ret ?_
  exact ⟨_, resR1 (res1_tmp rfl), hX, by show Value.bool (decide (x ≠ x)) = _; simp⟩
-- cmp.isNaN[string]
theorem cNaN_s (w : World) (x : Str) : Fn Tryd.prog 194 #[Sv x] w fun u w' => u = .bool false := by
  have hX := Ext.refl Non w
  refine fn_of_W (args := [_]) Tryd.func194 rfl (by kernel_rfl) rfl ?_
  refine W_seq ?_
  refine W_region ?_
  refine wl_val (rn_assign (by conv => lhs; whnf)) ?_
  refine wl_nil ?_
  refine W_seq ?_
  refine W_region ?_
  refine wl_val (rn_move (by conv => lhs; whnf)) ?_
  refine wl_val (rn_move (by conv => lhs; whnf)) ?_
  refine wl_val (rn_sneq rfl rfl) ?_
  refine wl_val (rn_assign (by conv => lhs; whnf)) ?_
  refine wl_nil ?_
  refine W_ret ?_
  exact ⟨_, resR1 (res1_tmp rfl), hX, by show Value.bool (decide (x ≠ x)) = _; simp⟩
-- cmp.Less[string]
theorem less_s (w : World) (x y : Str) : Fn Tryd.prog 159 #[Sv x, Sv y] w fun u w' => u = .bool (ltS x y) := by
  have hX := Ext.refl Non w
  refine fn_of_W (args := [_, _]) Tryd.func159 rfl (by kernel_rfl) rfl ?_
  refine W_seq ?_
  refine W_region ?_
  refine wl_val (rn_assign (by conv => lhs; whnf)) ?_
  refine wl_nil ?_
  refine W_seq ?_
  refine W_region ?_
  refine wl_val (rn_move (by conv => lhs; whnf)) ?_
  refine wl_call e_194 rfl (cNaN_s w _) ?_; intro v6 w1 hE1 hR1
  replace hX := hX.tr hE1
  subst hR1
  refine wl_val (rn_move (by conv => lhs; whnf)) ?_
  refine wl_no rfl rfl ?_
  refine wl_no rfl rfl ?_
  refine wl_no rfl rfl ?_
  refine wl_val (rn_pickF rfl (by conv => lhs; whnf)) ?_
  refine wl_val (rn_move (by conv => lhs; whnf)) ?_
  refine wl_yes rfl rfl ?_
  refine wl_val (rn_move (by conv => lhs; whnf)) ?_
  refine wl_yes rfl rfl ?_
  refine wl_val (rn_move (by conv => lhs; whnf)) ?_
  refine wl_yes rfl rfl ?_
  refine wl_val (rn_slss rfl rfl) ?_
  refine wl_val (rn_pickF rfl (by conv => lhs; whnf)) ?_
  refine wl_val (rn_assign (by conv => lhs; whnf)) ?_
  refine wl_nil ?_
  refine W_ret ?_
  exact ⟨_, resR1 (res1_tmp rfl), hX, rfl⟩
-- slices.BinarySearch[[]string,string]
set_option maxHeartbeats 800000 in
theorem bs_s (w : World) (ks : List Str) (x : Str) {v : Value} (hs : Sl Non w v 1 (ks.map eS1)) (hord : Sorted ltS ks) (hn : ks.length ≤ 1000000) : Fn Tryd.prog 126 #[v, Sv x] w fun u w' => u = .tuple #[.int .i64 (lb ltS ks x : Nat), .bool (isAt ltS ks x)] := by
  obtain ⟨a, c, rfl, _⟩ := hs.len
  simp only [List.length_map] at hs ⊢
  have hX := Ext.refl Non w
  refine fn_of_W (args := [_, _]) Tryd.func126 rfl (by kernel_rfl) rfl ?_
  refine W_seq ?_
  refine W_region ?_
  refine wl_val (rn_assign (by conv => lhs; whnf)) ?_
  refine wl_val (rn_assign (by conv => lhs; whnf)) ?_
  refine wl_nil ?_
  refine W_seq ?_
  refine W_region ?_
  refine wl_val (rn_move (by conv => lhs; whnf)) ?_
  refine wl_val (rn_len sl_68 rfl) ?_
  refine wl_val (rn_assign (by conv => lhs; whnf)) ?_
  refine wl_nil ?_
  refine W_seq ?_
  refine W_region ?_
  refine wl_val (rn_move (by conv => lhs; whnf)) ?_
  refine wl_val (rn_assign (by conv => lhs; whnf)) ?_
  refine wl_val (rn_assign (by conv => lhs; whnf)) ?_
  refine wl_nil ?_
  refine W_seq ?_
  refine W_block ?_   -- block 0
  refine W_loopS (S := Nat × Nat) [0, 1, 6, 7, 8] (fun ⟨i, j⟩ => [.slice a ks.length c, Sv x, .int .i64 (ks.length : Nat), .int .i64 (i : Nat), .int .i64 (j : Nat)]) (fun ⟨i, j⟩ A => (Ext Non w A) ∧ (i ≤ j ∧ j ≤ ks.length ∧ (∀ p y, p < i → ks[p]? = some y → ltS y x = true) ∧ (∀ p y, j ≤ p → ks[p]? = some y → ltS y x = false))) (fun ⟨i, j⟩ => j - i) (0, ks.length) ⟨rfl, rfl, rfl, rfl, rfl, trivial⟩ ⟨hX, ⟨Nat.zero_le _, Nat.le_refl _, fun p y h => absurd h (Nat.not_lt_zero _), fun p y h hy => by have := (List.getElem?_eq_some_iff.1 hy).1; omega⟩⟩ ?_
  rintro τ0 ⟨i, j⟩ A0 ⟨hX, hI0⟩
  obtain ⟨hij, hjn, hlo, hhi⟩ := hI0
  refine W_seq ?_
  refine W_seq ?_
  refine W_region ?_
  refine wl_val (rn_move (by conv => lhs; whnf)) ?_
  refine wl_val (rn_move (by conv => lhs; whnf)) ?_
  refine wl_val (rn_lss rfl rfl) ?_
  refine wl_nil ?_
  refine W_cond rfl (fun hc0 => ?_) (fun hc0 => ?_)
  · have hlt := of_decide_eq_true hc0; simp only [Int.ofNat_lt] at hlt
    have hh : (i + j) / 2 < ks.length := by omega
    obtain ⟨y, hy⟩ : ∃ y, ks[(i + j) / 2]? = some y := ⟨_, List.getElem?_eq_getElem hh⟩
    obtain ⟨b, o, ea⟩ := hs.base (by intro e; simp at e; subst e; simp at hh); subst ea
    refine W_skip ?_
    refine W_block ?_   -- block 1
    refine W_seq ?_
    refine W_region ?_
    refine wl_val (rn_move (by conv => lhs; whnf)) ?_
    refine wl_val (rn_move (by conv => lhs; whnf)) ?_
    refine wl_val (rn_add rfl rfl (by omega)) ?_
    refine wl_val (rn_convert ui_3 ui_148 rfl (wrap_u64 (by omega))) ?_
    refine wl_val (Rn.cast (rn_shr1 rfl rfl) (congrArg (Value.int .u64) (fdiv2 i j))) ?_
    refine wl_val (rn_convert ui_148 ui_3 rfl (wrap_id (by omega))) ?_
    refine wl_val (rn_assign (by conv => lhs; whnf)) ?_
    refine wl_nil ?_
    refine W_seq ?_
    refine W_region ?_
    refine wl_val (rn_move (by conv => lhs; whnf)) ?_
    refine wl_val (rn_move (by conv => lhs; whnf)) ?_
    refine wl_val (rn_indexAddr sl_68 rfl rfl (by omega)) ?_
    refine wl_val (rn_load p_9 rfl ((hs.ext hX (fun _ h => h)).at0 (eS_at hy) rfl)) ?_
    refine wl_val (rn_move (by conv => lhs; whnf)) ?_
    refine wl_call e_159 rfl (less_s A0 _ _) ?_; intro v27 w1 hE1 hR1
    replace hX := hX.tr hE1
    subst hR1
    refine wl_nil ?_
    refine W_cond rfl (fun hc1 => ?_) (fun hc1 => ?_)
    · refine W_region ?_
      refine wl_val (rn_move (by conv => lhs; whnf)) ?_
      refine wl_val (rn_add rfl rfl (by omega)) ?_
      refine wl_val (rn_assign (by conv => lhs; whnf)) ?_
      refine wl_nil ?_
      exact ⟨rfl, ((i + j) / 2 + 1, j), ⟨rfl, rfl, rfl, rfl, rfl, trivial⟩, ⟨hX, ⟨by omega, hjn, fun p z hp hz => by by_cases e : p = (i + j) / 2; (subst e; rw [hz] at hy; cases hy; exact hc1); exact (lo_str).tr _ _ _ (hord.get hz hy (by omega)) hc1, hhi⟩⟩, by show j - ((i + j) / 2 + 1) < j - i; omega⟩
    · refine W_region ?_
      refine wl_val (rn_move (by conv => lhs; whnf)) ?_
      refine wl_val (rn_assign (by conv => lhs; whnf)) ?_
      refine wl_nil ?_
      exact ⟨rfl, (i, (i + j) / 2), ⟨rfl, rfl, rfl, rfl, rfl, trivial⟩, ⟨hX, ⟨by omega, by omega, hlo, fun p z hp hz => by by_cases e : p = (i + j) / 2; (subst e; rw [hz] at hy; cases hy; exact hc1); (cases hzx : ltS z x with | false => rfl | true => have := (lo_str).tr _ _ _ (hord.get hy hz (by omega)) hzx; rw [this] at hc1; cases hc1)⟩⟩, by show (i + j) / 2 - i < j - i; omega⟩
  · have hge := of_decide_eq_false hc0; simp only [Int.ofNat_lt, Nat.not_lt] at hge
    have hej : i = j := by omega
    subst hej
    have hlb : lb ltS ks x = i := lb_of hjn hlo (fun y hy => hhi i y (Nat.le_refl _) hy)
    refine W_exit ?_   -- exit 0
    refine W_seq ?_
    refine W_region ?_
    refine wl_val (rn_move (by conv => lhs; whnf)) ?_
    refine wl_val (rn_move (by conv => lhs; whnf)) ?_
    refine wl_val (rn_move (by conv => lhs; whnf)) ?_
    refine wl_val (rn_lss rfl rfl) ?_
    refine wl_val (rn_move (by conv => lhs; whnf)) ?_
    refine wl_split (d := 35) rfl (fun hg35 => ?_) (fun hg35 => ?_)
    · have hlt := of_decide_eq_true hg35; simp only [Int.ofNat_lt] at hlt
      obtain ⟨y, hy⟩ : ∃ y, ks[i]? = some y := ⟨_, List.getElem?_eq_getElem hlt⟩
      obtain ⟨b, o, ea⟩ := hs.base (by intro e; simp at e; subst e; simp at hlt); subst ea
      refine wl_yes rfl (congrArg Value.bool hg35) ?_
      refine wl_val (rn_move (by conv => lhs; whnf)) ?_
      refine wl_yes rfl (congrArg Value.bool hg35) ?_
      refine wl_val (rn_move (by conv => lhs; whnf)) ?_
      refine wl_yes rfl (congrArg Value.bool hg35) ?_
      refine wl_val (rn_indexAddr sl_68 rfl rfl (by omega)) ?_
      refine wl_yes rfl (congrArg Value.bool hg35) ?_
      refine wl_val (rn_load p_9 rfl ((hs.ext hX (fun _ h => h)).at0 (eS_at hy) rfl)) ?_
      refine wl_yes rfl (congrArg Value.bool hg35) ?_
      refine wl_val (rn_move (by conv => lhs; whnf)) ?_
      refine wl_yes rfl (congrArg Value.bool hg35) ?_
      refine wl_val (rn_seql rfl rfl) ?_
      refine wl_yes rfl (congrArg Value.bool hg35) ?_
      refine wl_val (rn_move (by conv => lhs; whnf)) ?_
      refine wl_split (d := 42) rfl (fun hg42 => ?_) (fun hg42 => ?_)
      · refine wl_no rfl (congrArg Value.bool hg42) ?_
        refine wl_no rfl (congrArg Value.bool hg42) ?_
        refine wl_no rfl (congrArg Value.bool hg42) ?_
        refine wl_no rfl (congrArg Value.bool hg42) ?_
        refine wl_no rfl (congrArg Value.bool hg42) ?_
        refine wl_no rfl (congrArg Value.bool hg42) ?_
        refine wl_nou rfl rfl ?_
        refine wl_nou rfl rfl ?_
        refine wl_no rfl (congrArg Value.bool hg42) ?_
        refine wl_yes rfl (congrArg Value.bool hg35) ?_
        refine wl_val (rn_pickT (congrArg Value.bool hg42) (by conv => lhs; whnf)) ?_
        refine wl_val (rn_pickT (congrArg Value.bool hg35) (by conv => lhs; whnf)) ?_
        refine wl_val (rn_assign (by conv => lhs; whnf)) ?_
        refine wl_val (rn_assign (by conv => lhs; whnf)) ?_
        refine wl_nil ?_
        refine W_ret ?_
        have hxy := of_decide_eq_true hg42
        exact ⟨_, resR2 (res1_tmp rfl) (res1_tmp rfl), hX, by show Value.tuple #[.int .i64 (i : Nat), .bool true] = _; rw [hlb]; unfold isAt; rw [hlb, hy, hxy, decide_eq_true rfl]⟩
      · refine wl_yes rfl (congrArg Value.bool hg42) ?_
        refine wl_val (rn_move (by conv => lhs; whnf)) ?_
        refine wl_yes rfl (congrArg Value.bool hg42) ?_
        refine wl_val (rn_move (by conv => lhs; whnf)) ?_
        refine wl_yes rfl (congrArg Value.bool hg42) ?_
        refine wl_val (rn_indexAddr sl_68 rfl rfl (by omega)) ?_
        refine wl_yes rfl (congrArg Value.bool hg42) ?_
        refine wl_val (rn_load p_9 rfl ((hs.ext hX (fun _ h => h)).at0 (eS_at hy) rfl)) ?_
        refine wl_yes rfl (congrArg Value.bool hg42) ?_
        refine wl_call e_160 rfl (sNaN_s A0 _) ?_; intro v47 w2 hE2 hR2
        replace hX := hX.tr hE2
        subst hR2
        refine wl_yes rfl (congrArg Value.bool hg42) ?_
        refine wl_val (rn_move (by conv => lhs; whnf)) ?_
        refine wl_no rfl rfl ?_
        refine wl_no rfl rfl ?_
        refine wl_yes rfl (congrArg Value.bool hg42) ?_
        refine wl_val (rn_pickF rfl (by conv => lhs; whnf)) ?_
        refine wl_yes rfl (congrArg Value.bool hg35) ?_
        refine wl_val (rn_pickF (congrArg Value.bool hg42) (by conv => lhs; whnf)) ?_
        refine wl_val (rn_pickT (congrArg Value.bool hg35) (by conv => lhs; whnf)) ?_
        refine wl_val (rn_assign (by conv => lhs; whnf)) ?_
        refine wl_val (rn_assign (by conv => lhs; whnf)) ?_
        refine wl_nil ?_
        refine W_ret ?_
        have hxy := of_decide_eq_false hg42
        exact ⟨_, resR2 (res1_tmp rfl) (res1_tmp rfl), hX, by show Value.tuple #[.int .i64 (i : Nat), .bool false] = _; rw [hlb]; unfold isAt; rw [hlb, hy, decide_eq_false (fun e => hxy (Option.some.inj e))]⟩
    · refine wl_no rfl (congrArg Value.bool hg35) ?_
      refine wl_no rfl (congrArg Value.bool hg35) ?_
      refine wl_no rfl (congrArg Value.bool hg35) ?_
      refine wl_no rfl (congrArg Value.bool hg35) ?_
      refine wl_no rfl (congrArg Value.bool hg35) ?_
      refine wl_no rfl (congrArg Value.bool hg35) ?_
      refine wl_no rfl (congrArg Value.bool hg35) ?_
      refine wl_nou rfl rfl ?_
      refine wl_nou rfl rfl ?_
      refine wl_nou rfl rfl ?_
      refine wl_nou rfl rfl ?_
      refine wl_nou rfl rfl ?_
      refine wl_nou rfl rfl ?_
      refine wl_nou rfl rfl ?_
      refine wl_nou rfl rfl ?_
      refine wl_nou rfl rfl ?_
      refine wl_no rfl (congrArg Value.bool hg35) ?_
      refine wl_val (rn_pickF (congrArg Value.bool hg35) (by conv => lhs; whnf)) ?_
      refine wl_val (rn_assign (by conv => lhs; whnf)) ?_
      refine wl_val (rn_assign (by conv => lhs; whnf)) ?_
      refine wl_nil ?_
      refine W_ret ?_
      have hge2 := of_decide_eq_false hg35; simp only [Int.ofNat_lt, Nat.not_lt] at hge2
      exact ⟨_, resR2 (res1_tmp rfl) (res1_tmp rfl), hX, by show Value.tuple #[.int .i64 (i : Nat), .bool false] = _; rw [hlb]; unfold isAt; rw [hlb, List.getElem?_eq_none hge2, decide_eq_false (by simp)]⟩
end Go.Proofs.YthcclgoidchkdaaDoorC
