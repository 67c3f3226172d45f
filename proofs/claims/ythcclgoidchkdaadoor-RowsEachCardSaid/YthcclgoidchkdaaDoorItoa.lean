/- The decimal numeral of any number: the library's. -/
import Derived.Test.YthcclgoidchkdaaDoorTy
import Derived.Test.YthcclgoidchkdaaDoorCoreX
import Derived.Shelf.Strconv.Itoa3
import Derived.Lib.LaidTab
import Derived.Lib.AppendIntMem
set_option linter.unusedVariables false
set_option linter.unusedSimpArgs false
set_option maxRecDepth 100000
namespace Go.Proofs.YthcclgoidchkdaaDoorC
open Go.RowKit Go.Shelf
def Tryd.laysM171_ren : Go.Shelf.Ren := ⟨fun | 171 => 93 | 243 => 143 | 246 => 177 | 283 => 207 | 284 => 208 | 285 => 209 | 286 => 210 | 129 => 228 | 317 => 227 | 318 => 229 | 319 => 230 | 320 => 231 | 337 => 235 | 338 => 236 | n => n, fun | 3 => 3 | 9 => 9 | 2 => 2 | 4 => 4 | 171 => 248 | 0 => 0 | 53 => 150 | 37 => 23 | 5 => 5 | 173 => 251 | 212 => 262 | 51 => 263 | 20 => 20 | 213 => 264 | 46 => 148 | 232 => 275 | 233 => 276 | n => n, fun | 17 => 2 | 18 => 6 | 19 => 7 | n => n⟩
theorem Tryd.laysM171 : Go.Proofs.LaysM.n171 Tryd.prog Tryd.laysM171_ren := {
  mixed := by kernel_rfl
  f129 := Tryd.func228.trans (congrArg some (by kernel_rfl))
  f171 := Tryd.func93.trans (congrArg some (by kernel_rfl))
  f243 := Tryd.func143.trans (congrArg some (by kernel_rfl))
  f246 := Tryd.func177.trans (congrArg some (by kernel_rfl))
  f283 := Tryd.func207.trans (congrArg some (by kernel_rfl))
  f284 := Tryd.func208.trans (congrArg some (by kernel_rfl))
  f285 := Tryd.func209.trans (congrArg some (by kernel_rfl))
  f286 := Tryd.func210.trans (congrArg some (by kernel_rfl))
  f317 := Tryd.func227.trans (congrArg some (by kernel_rfl))
  f318 := Tryd.func229.trans (congrArg some (by kernel_rfl))
  f319 := Tryd.func230.trans (congrArg some (by kernel_rfl))
  f320 := Tryd.func231.trans (congrArg some (by kernel_rfl))
  f337 := Tryd.func235.trans (congrArg some (by kernel_rfl))
  f338 := Tryd.func236.trans (congrArg some (by kernel_rfl))
  t0 := Tryd.underlying0
  a0 := Tryd.isAgg0
  z0 := Tryd.sizeOf0
  v0 := Tryd.zeroValue0
  t2 := Tryd.underlying2
  a2 := Tryd.isAgg2
  z2 := Tryd.sizeOf2
  v2 := Tryd.zeroValue2
  t3 := Tryd.underlying3
  a3 := Tryd.isAgg3
  z3 := Tryd.sizeOf3
  v3 := Tryd.zeroValue3
  t4 := Tryd.underlying4
  a4 := Tryd.isAgg4
  z4 := Tryd.sizeOf4
  v4 := Tryd.zeroValue4
  t5 := Tryd.underlying5
  a5 := Tryd.isAgg5
  z5 := Tryd.sizeOf5
  v5 := Tryd.zeroValue5
  t9 := Tryd.underlying9
  a9 := Tryd.isAgg9
  z9 := Tryd.sizeOf9
  v9 := Tryd.zeroValue9
  t20 := Tryd.underlying20
  a20 := Tryd.isAgg20
  z20 := Tryd.sizeOf20
  v20 := Tryd.zeroValue20
  t37 := Tryd.underlying23
  a37 := Tryd.isAgg23
  z37 := Tryd.sizeOf23
  v37 := Tryd.zeroValue23
  t46 := Tryd.underlying148
  a46 := Tryd.isAgg148
  z46 := Tryd.sizeOf148
  v46 := Tryd.zeroValue148
  t51 := Tryd.underlying263
  a51 := Tryd.isAgg263
  z51 := Tryd.sizeOf263
  v51 := Tryd.zeroValue263
  t53 := Tryd.underlying150
  a53 := Tryd.isAgg150
  z53 := Tryd.sizeOf150
  v53 := Tryd.zeroValue150
  t171 := Tryd.underlying248
  a171 := Tryd.isAgg248
  z171 := Tryd.sizeOf248
  v171 := Tryd.zeroValue248
  t173 := Tryd.underlying251
  a173 := Tryd.isAgg251
  z173 := Tryd.sizeOf251
  v173 := Tryd.zeroValue251
  t212 := Tryd.underlying262
  a212 := Tryd.isAgg262
  z212 := Tryd.sizeOf262
  v212 := Tryd.zeroValue262
  t213 := Tryd.underlying264
  a213 := Tryd.isAgg264
  z213 := Tryd.sizeOf264
  t232 := Tryd.underlying275
  a232 := Tryd.isAgg275
  z232 := Tryd.sizeOf275
  v232 := Tryd.zeroValue275
  t233 := Tryd.underlying276
  a233 := Tryd.isAgg276
  z233 := Tryd.sizeOf276
  v233 := Tryd.zeroValue276
  g17 := by kernel_rfl
  g18 := by kernel_rfl
  g19 := by kernel_rfl
  i0 := by kernel_rfl
  i2 := by kernel_rfl
  i3 := by kernel_rfl
  i4 := by kernel_rfl
  i5 := by kernel_rfl
  i9 := by kernel_rfl
  i20 := by kernel_rfl
  i37 := by kernel_rfl
  i46 := by kernel_rfl
  i51 := by kernel_rfl
  i53 := by kernel_rfl
  i171 := by kernel_rfl
  i173 := by kernel_rfl
  i212 := by kernel_rfl
  i232 := by kernel_rfl
  i233 := by kernel_rfl
  m17 := by kernel_rfl
  m18 := by kernel_rfl
  m19 := by kernel_rfl }

/-- The table that the library's decimals lean on. -/
def Tab (w : World) : Prop := Lib.TabIs Tryd.prog w "internal/strconv.uint64pow10" .u64 Lib.pow10Tab
theorem Tab.ext {M : Nat → Prop} {w w' : World} (h : Tab w) (hE : Ext M w w') {B : Nat} (hM : ∀ i, M i → B ≤ i) (hB : ∃ g, Tryd.prog.globalNamed "internal/strconv.uint64pow10" = some g ∧ g < B) : Tab w' := by
  obtain ⟨g, hg, hgB⟩ := hB
  unfold Tab Lib.TabIs World.var? at *
  rw [hg] at h ⊢
  simp only [Option.bind_some] at h ⊢
  have hlt : g < w.heap.size := by
    rcases Nat.lt_or_ge g w.heap.size with h' | h'
    · exact h'
    · rw [Array.getElem?_eq_none h'] at h; cases h
  rw [hE.block g hlt (fun h' => by have := hM g h'; omega)]
  exact h
theorem Tab.non {w w' : World} (h : Tab w) (hE : Ext Non w w') : Tab w' := by
  unfold Tab Lib.TabIs World.var? at *
  cases hg : Tryd.prog.globalNamed "internal/strconv.uint64pow10" with
  | none => rw [hg] at h; simp at h
  | some g =>
    rw [hg] at h
    simp only [Option.bind_some] at h ⊢
    have hlt : g < w.heap.size := by
      rcases Nat.lt_or_ge g w.heap.size with h' | h'
      · exact h'
      · rw [Array.getElem?_eq_none h'] at h; cases h
    rw [hE.block g hlt id]
    exact h

theorem itoa_ok (w : World) (n : Int) (h : -9223372036854775808 ≤ n ∧ n ≤ 9223372036854775807) (ht : Tab w) : Fn Tryd.prog 93 #[.int .i64 n] w fun u w' => u = Sv (Lib.itoa n) :=
  Calls.mono (Any.strconv_Itoa Tryd.laysM171 n h.1 h.2 w ht) fun e w' hx => by
    obtain ⟨h1, k, os, h2⟩ := hx
    exact ⟨_, h1, by rw [h2]; exact Ext.of_below (Lib.below_grow w.heap.size w (Nat.le_refl _) k os), rfl⟩
end Go.Proofs.YthcclgoidchkdaaDoorC
