/- Texts joined into one: OpP OpQ Op1 Op2 Op3 Op4 Op5 Op6 Op7. -/
import Derived.Test.YthcclgoidchkdaaGreatDoorBunZ1
import Derived.Test.YthcclgoidchkdaaGreatDoorBunZ2
import Derived.Lib.ItoaNum
import Derived.Lib.ItoaMem
import Derived.Lib.Join
import Derived.Test.YthcclgoidchkdaaGreatDoorBunZ3
import Derived.Shelf.Strings.Builder1
import Derived.Shelf.Strings.OnBuilder
import Derived.Shelf.Strconv.ToError
/- Words: what a text's word is, and the text of a word; plain. -/
set_option linter.unusedVariables false
set_option linter.unusedSimpArgs false
namespace Go.Proofs.YthcclgoidchkdaaGreatDoorC
open Go.RowKit
def hexs : Str := [48, 49, 50, 51, 52, 53, 54, 55, 56, 57, 97, 98, 99, 100, 101, 102]
def hexd (n : Nat) : UInt8 := hexs.getD n 0
/-- Is a byte told as it is? -/
def plainC (c : UInt8) : Bool := decide (33 ≤ c.toNat) && decide (c.toNat ≤ 126) && !(c == 37)
def wordB (c : UInt8) : Str := if plainC c = true then [c] else [37, hexd (c.toNat / 16), hexd (c.toNat % 16)]
def wordL : Str → Str
  | [] => []
  | c :: s => wordB c ++ wordL s
def wordR (s : Str) : Str := if s = [] then [37] else wordL s
theorem wordL_app : ∀ (a b : Str), wordL (a ++ b) = wordL a ++ wordL b
  | [], b => rfl
  | c :: a, b => by simp only [List.cons_append, wordL, wordL_app a b, List.append_assoc]
theorem wordB_len (c : UInt8) : (wordB c).length ≤ 3 := by unfold wordB; split <;> simp
theorem wordL_len : ∀ s : Str, (wordL s).length ≤ 3 * s.length
  | [] => by simp [wordL]
  | c :: s => by have := wordL_len s; have := wordB_len c; simp only [wordL, List.length_append, List.length_cons]; omega
theorem wordR_len (s : Str) : (wordR s).length ≤ 3 * s.length + 1 := by unfold wordR; have := wordL_len s; split <;> simp <;> omega
/-- A digit's number; 16: it is none. -/
def dig (c : UInt8) : Nat := if 48 ≤ c.toNat ∧ c.toNat ≤ 57 then c.toNat - 48 else if 97 ≤ c.toNat ∧ c.toNat ≤ 102 then c.toNat - 87 else 16
theorem hexd_at {n : Nat} (h : n < 16) : hexs[n]? = some (hexd n) := by
  unfold hexd; rw [List.getD_eq_getElem?_getD, List.getElem?_eq_getElem (show n < hexs.length from h)]; rfl
theorem dig_hexd {n : Nat} (h : n < 16) : dig (hexd n) = n := by
  have : ∀ n : Fin 16, dig (hexd n.val) = n.val := by decide +kernel
  exact this ⟨n, h⟩
theorem hexd_dig {c : UInt8} (h : dig c ≠ 16) : hexd (dig c) = c := by
  have : ∀ n : Fin 256, dig (UInt8.ofNat n.val) ≠ 16 → hexd (dig (UInt8.ofNat n.val)) = UInt8.ofNat n.val := by decide +kernel
  have := this ⟨c.toNat, c.toNat_lt⟩
  simpa using this (by simpa using h)
theorem dig_le (c : UInt8) : dig c ≤ 16 := by unfold dig; split; omega; split <;> omega
theorem dig_lt {c : UInt8} (h : dig c ≠ 16) : dig c < 16 := by have := dig_le c; omega
def numC (a b : UInt8) : UInt8 := UInt8.ofNat (dig a * 16 + dig b)
theorem numC_nat {a b : UInt8} (ha : dig a ≠ 16) (hb : dig b ≠ 16) : (numC a b).toNat = dig a * 16 + dig b := by
  have := dig_lt ha; have := dig_lt hb
  unfold numC; simp; omega
/-- The text of a word's bytes. -/
def unL : Str → Option Str
  | [] => some []
  | c :: r => if c.toNat < 33 ∨ 126 < c.toNat then none else if ¬ c = 37 then (unL r).map (c :: ·) else
    match r with
    | a :: b :: r' => if dig a = 16 ∨ dig b = 16 then none else if plainC (numC a b) = true then none else (unL r').map (numC a b :: ·)
    | _ => none
def unR (w : Str) : Option Str := if w = [37] then some [] else if w = [] then none else unL w
theorem unL_word : ∀ s : Str, unL (wordL s) = some s
  | [] => rfl
  | c :: s => by
    have ih := unL_word s
    unfold wordL wordB
    by_cases hp : plainC c = true
    · rw [if_pos hp]
      have h := hp
      unfold plainC at h
      simp only [Bool.and_eq_true, decide_eq_true_eq, Bool.not_eq_true', beq_eq_false_iff_ne] at h
      show unL (c :: wordL s) = _
      unfold unL
      rw [if_neg (by omega), if_pos h.2, ih]; rfl
    · rw [if_neg hp]
      have h1 : c.toNat / 16 < 16 := by have := c.toNat_lt; omega
      have h2 : c.toNat % 16 < 16 := Nat.mod_lt _ (by decide)
      have e : numC (hexd (c.toNat / 16)) (hexd (c.toNat % 16)) = c := by
        unfold numC; rw [dig_hexd h1, dig_hexd h2, show c.toNat / 16 * 16 + c.toNat % 16 = c.toNat by omega]; simp
      show unL (37 :: hexd (c.toNat / 16) :: hexd (c.toNat % 16) :: wordL s) = _
      unfold unL
      rw [if_neg (by decide), if_neg (by decide)]
      simp only [dig_hexd h1, dig_hexd h2, e, hp, ih]
      rw [if_neg (by omega)]; simp
theorem word_unL : ∀ (n : Nat) (w s : Str), w.length ≤ n → unL w = some s → wordL s = w
  | _, [], s, _, h => by simp only [unL, Option.some.injEq] at h; subst h; rfl
  | 0, c :: r, s, hn, h => by simp at hn
  | n + 1, c :: r, s, hn, h => by
    unfold unL at h
    split at h
    · cases h
    · rename_i h1
      split at h
      · rename_i h2
        rw [Option.map_eq_some_iff] at h
        obtain ⟨t, ht, rfl⟩ := h
        have := word_unL n r t (by simp at hn; omega) ht
        have hp : plainC c = true := by unfold plainC; simp; exact ⟨by omega, h2⟩
        show wordB c ++ wordL t = _
        unfold wordB; rw [if_pos hp, this]; rfl
      · rename_i h2
        have hc : c = 37 := Classical.not_not.1 h2
        split at h
        · rename_i a b r'
          split at h
          · cases h
          · rename_i h3
            split at h
            · cases h
            · rename_i h4
              rw [Option.map_eq_some_iff] at h
              obtain ⟨t, ht, rfl⟩ := h
              have := word_unL n r' t (by simp at hn; omega) ht
              have ha : dig a ≠ 16 := fun e => h3 (.inl e)
              have hb : dig b ≠ 16 := fun e => h3 (.inr e)
              have l1 := dig_lt ha; have l2 := dig_lt hb
              show wordB (numC a b) ++ wordL t = _
              unfold wordB; rw [if_neg h4, this, numC_nat ha hb, show (dig a * 16 + dig b) / 16 = dig a by omega, show (dig a * 16 + dig b) % 16 = dig b by omega, hexd_dig ha, hexd_dig hb, hc]; rfl
        · cases h
theorem wordL_nil {s : Str} (h : wordL s = []) : s = [] := by have := unL_word s; rw [h] at this; simpa [unL] using this.symm
theorem unR_word (s : Str) : unR (wordR s) = some s := by
  unfold unR wordR
  split
  · rename_i h; subst h; rfl
  · rename_i h
    rw [if_neg, if_neg (fun e => h (wordL_nil e)), unL_word]
    intro e
    have := unL_word s
    have h37 : unL [37] = none := by unfold unL; rw [if_neg (by decide), if_neg (by decide)]
    rw [e, h37] at this; cases this
theorem word_unR {w s : Str} (h : unR w = some s) : wordR s = w := by
  unfold unR at h
  split at h
  · rename_i h1; simp only [Option.some.injEq] at h; subst h; exact h1.symm
  · split at h
    · cases h
    · rename_i h1 h2
      have h3 := word_unL _ w s (Nat.le_refl _) h
      unfold wordR
      rw [if_neg (fun e => h2 (by rw [← h3, e]; rfl)), h3]
theorem unR_iff (w s : Str) : unR w = some s ↔ wordR s = w := ⟨word_unR, fun h => h ▸ unR_word s⟩
theorem unL_mark {a b : UInt8} {r : Str} : unL (37 :: a :: b :: r) = if dig a = 16 ∨ dig b = 16 then none else if plainC (numC a b) = true then none else (unL r).map (numC a b :: ·) := by
  conv => lhs; unfold unL
  rw [if_neg (by decide), if_neg (by decide)]
end Go.Proofs.YthcclgoidchkdaaGreatDoorC

/- Operations as lines; plain. -/
set_option linter.unusedVariables false
set_option linter.unusedSimpArgs false
namespace Go.Proofs.YthcclgoidchkdaaGreatDoorC
open Go.RowKit
abbrev sSub : Str := [115, 117, 98]
abbrev sUnsub : Str := [117, 110, 115, 117, 98]
abbrev sPub : Str := [112, 117, 98]
abbrev sKeep : Str := [107, 101, 101, 112]
abbrev sPoll : Str := [112, 111, 108, 108]
abbrev sDrops : Str := [100, 114, 111, 112, 115]
abbrev oK (k : Int) (b : Bool) : OpD := ⟨k, 0, [], [], b⟩
def namesO : List (Str × OpD) := [(sSub, oK 1 false), (sUnsub, oK 2 false), (sPub, oK 3 false), (sKeep, oK 3 true), (sPoll, oK 4 false), (sDrops, oK 5 false)]
def nameR (x : OpD) : Str := if x.keep = true then (if x.kind = 3 then sKeep else []) else if x.kind = 1 then sSub else if x.kind = 2 then sUnsub else if x.kind = 3 then sPub else if x.kind = 4 then sPoll else if x.kind = 5 then sDrops else []
theorem names_hit {x : OpD} : ∀ p ∈ namesO, p.2.kind = x.kind → p.2.keep = x.keep → nameR x = p.1 := by
  intro p hp
  simp only [namesO, List.mem_cons, List.not_mem_nil, or_false] at hp
  rcases hp with rfl | rfl | rfl | rfl | rfl | rfl <;> intro h1 h2 <;> unfold nameR <;> rw [← h1, ← h2] <;> rfl
theorem names_miss {x : OpD} (h : ∀ p ∈ namesO, ¬ (p.2.kind = x.kind ∧ p.2.keep = x.keep)) : nameR x = [] := by
  have h1 := h (sSub, oK 1 false) (by simp [namesO]); have h2 := h (sUnsub, oK 2 false) (by simp [namesO]); have h3 := h (sPub, oK 3 false) (by simp [namesO]); have h4 := h (sKeep, oK 3 true) (by simp [namesO]); have h5 := h (sPoll, oK 4 false) (by simp [namesO]); have h6 := h (sDrops, oK 5 false) (by simp [namesO])
  unfold nameR
  cases hk : x.keep with
  | true =>
    simp only [hk] at h4
    rw [if_pos rfl, if_neg (fun e => h4 ⟨e.symm, trivial⟩)]
  | false =>
    simp only [hk] at h1 h2 h3 h5 h6
    rw [if_neg (by decide), if_neg (fun e => h1 ⟨e.symm, trivial⟩), if_neg (fun e => h2 ⟨e.symm, trivial⟩), if_neg (fun e => h3 ⟨e.symm, trivial⟩), if_neg (fun e => h5 ⟨e.symm, trivial⟩), if_neg (fun e => h6 ⟨e.symm, trivial⟩)]
def toldR (x : OpD) : OpD := if x.kind = 1 ∨ x.kind = 2 then ⟨x.kind, x.sub, x.text, [], x.keep⟩ else if x.kind = 3 then ⟨x.kind, 0, x.text, x.payload, x.keep⟩ else if x.kind = 4 ∨ x.kind = 5 then ⟨x.kind, x.sub, [], [], x.keep⟩ else ⟨x.kind, 0, [], [], x.keep⟩
def plainR (x : OpD) : Bool := !decide (nameR x = []) && decide (toldR x = x) && decide (0 ≤ x.sub) && decide (x.sub ≤ 9999)
/-- Plain, case by case. -/
def PlainP (x : OpD) : Prop := (x.kind = 3 ∧ x.sub = 0) ∨ ((x.kind = 1 ∨ x.kind = 2) ∧ 0 ≤ x.sub ∧ x.sub ≤ 9999 ∧ x.payload = [] ∧ x.keep = false) ∨ ((x.kind = 4 ∨ x.kind = 5) ∧ 0 ≤ x.sub ∧ x.sub ≤ 9999 ∧ x.text = [] ∧ x.payload = [] ∧ x.keep = false)
theorem plain_iff (x : OpD) : plainR x = true ↔ PlainP x := by
  obtain ⟨k, s, t, p, b⟩ := x
  unfold plainR PlainP
  simp only [Bool.and_eq_true, Bool.not_eq_true', decide_eq_false_iff_not, decide_eq_true_eq]
  constructor
  · rintro ⟨⟨⟨h1, h2⟩, h3⟩, h4⟩
    unfold toldR at h2; unfold nameR at h1
    simp only at h1 h2 h3 h4 ⊢
    by_cases k12 : k = 1 ∨ k = 2
    · rw [if_pos k12] at h2
      simp only [OpD.mk.injEq, true_and, and_true] at h2
      refine .inr (.inl ⟨k12, h3, h4, h2.symm, ?_⟩)
      cases b with
      | false => rfl
      | true => rw [if_pos rfl, if_neg (by omega)] at h1; exact absurd rfl h1
    · rw [if_neg k12] at h2
      by_cases k3 : k = 3
      · rw [if_pos k3] at h2; simp only [OpD.mk.injEq, true_and, and_true] at h2
        exact .inl ⟨k3, h2.symm⟩
      · rw [if_neg k3] at h2
        by_cases k45 : k = 4 ∨ k = 5
        · rw [if_pos k45] at h2; simp only [OpD.mk.injEq, true_and, and_true] at h2
          refine .inr (.inr ⟨k45, h3, h4, h2.1.symm, h2.2.symm, ?_⟩)
          cases b with
          | false => rfl
          | true => rw [if_pos rfl, if_neg (by omega)] at h1; exact absurd rfl h1
        · exfalso; apply h1
          cases b with
          | false => rw [if_neg (by decide), if_neg (by omega), if_neg (by omega), if_neg k3, if_neg (by omega), if_neg (by omega)]
          | true => rw [if_pos rfl, if_neg k3]
  · rintro (⟨h1, h2⟩ | ⟨h1, h2, h3, h4, h5⟩ | ⟨h1, h2, h3, h4, h5, h6⟩)
    · subst h1; subst h2; cases b <;> simp [nameR, toldR]
    · subst h4; subst h5; rcases h1 with rfl | rfl <;> simp [nameR, toldR, h2, h3]
    · subst h4; subst h5; subst h6; rcases h1 with rfl | rfl <;> simp [nameR, toldR, h2, h3]
/-- An operation's words. -/
def wordsR (x : OpD) : List Str := if x.kind = 3 then [nameR x, wordR x.text, wordR x.payload] else if x.kind = 1 ∨ x.kind = 2 then [nameR x, Lib.itoa x.sub, wordR x.text] else [nameR x, Lib.itoa x.sub]
def lineR (x : OpD) : Str := Lib.join (wordsR x) [32]
theorem join2 (a b : Str) : Lib.join [a, b] [32] = a ++ 32 :: b := by rw [Lib.join_cons]; simp [Lib.joinTail]
theorem join3 (a b c : Str) : Lib.join [a, b, c] [32] = a ++ 32 :: (b ++ 32 :: c) := by rw [Lib.join_cons]; simp [Lib.joinTail]
theorem dec_len {n : Nat} (h : n ≤ 9999) : (Lib.decDigits n).length ≤ 4 := by
  rw [Lib.decDigits_length, Lib.nDigits]
  split
  · omega
  · rw [Lib.nDigits]; split
    · omega
    · rw [Lib.nDigits]; split
      · omega
      · rw [Lib.nDigits]; split <;> omega
theorem dec_snoc {n : Nat} (h : ¬ n < 10) : Lib.decDigits n = Lib.decDigits (n / 10) ++ Lib.decDigits (n % 10) := by
  rw [Lib.decDigits, dif_neg h, Lib.decDigits_one (show n % 10 < 10 by omega)]
theorem itoa_nat (n : Nat) : Lib.itoa (n : Int) = Lib.decDigits n := Lib.itoa_nonneg n
def digs : Str := [48, 49, 50, 51, 52, 53, 54, 55, 56, 57]
theorem digs_at {n : Nat} (h : n < 10) : digs[n]? = some (UInt8.ofNat (48 + n)) := by
  have : ∀ k : Fin 10, digs[k.val]? = some (UInt8.ofNat (48 + k.val)) := by decide
  exact this ⟨n, h⟩
end Go.Proofs.YthcclgoidchkdaaGreatDoorC

/- The library's builder, in the calculus. -/
set_option linter.unusedVariables false
set_option linter.unusedSimpArgs false
set_option maxRecDepth 100000
namespace Go.Proofs.YthcclgoidchkdaaGreatDoorC
open Go.RowKit Go.Shelf
def Tryz.lays156_ren : Go.Shelf.Ren := ⟨fun | 156 => 52 | 165 => 93 | 166 => 94 | 169 => 95 | 240 => 144 | 241 => 145 | 276 => 198 | 277 => 199 | n => n, fun | 31 => 22 | 9 => 9 | 3 => 3 | 4 => 4 | 0 => 0 | 20 => 20 | 72 => 166 | 76 => 170 | 70 => 163 | 37 => 164 | 75 => 169 | 127 => 219 | 164 => 265 | 5 => 5 | 80 => 172 | n => n, fun | n => n⟩
theorem Tryz.lays156 : Go.Proofs.Lays.n156 Tryz.prog Tryz.lays156_ren := {
  mixed := by kernel_rfl
  f156 := Tryz.func52.trans (congrArg some (by kernel_rfl))
  f165 := Tryz.func93.trans (congrArg some (by kernel_rfl))
  f166 := Tryz.func94.trans (congrArg some (by kernel_rfl))
  f169 := Tryz.func95.trans (congrArg some (by kernel_rfl))
  f240 := Tryz.func144.trans (congrArg some (by kernel_rfl))
  f241 := Tryz.func145.trans (congrArg some (by kernel_rfl))
  f276 := Tryz.func198.trans (congrArg some (by kernel_rfl))
  f277 := Tryz.func199.trans (congrArg some (by kernel_rfl))
  t0 := Tryz.underlying0
  a0 := Tryz.isAgg0
  z0 := Tryz.sizeOf0
  v0 := Tryz.zeroValue0
  t3 := Tryz.underlying3
  a3 := Tryz.isAgg3
  z3 := Tryz.sizeOf3
  v3 := Tryz.zeroValue3
  t4 := Tryz.underlying4
  a4 := Tryz.isAgg4
  z4 := Tryz.sizeOf4
  v4 := Tryz.zeroValue4
  t9 := Tryz.underlying9
  a9 := Tryz.isAgg9
  z9 := Tryz.sizeOf9
  v9 := Tryz.zeroValue9
  t20 := Tryz.underlying20
  a20 := Tryz.isAgg20
  z20 := Tryz.sizeOf20
  v20 := Tryz.zeroValue20
  t31 := Tryz.underlying22
  a31 := Tryz.isAgg22
  z31 := Tryz.sizeOf22
  v31 := Tryz.zeroValue22
  t37 := Tryz.underlying164
  a37 := Tryz.isAgg164
  z37 := Tryz.sizeOf164
  v37 := Tryz.zeroValue164
  t70 := Tryz.underlying163
  a70 := Tryz.isAgg163
  z70 := Tryz.sizeOf163
  v70 := Tryz.zeroValue163
  t72 := Tryz.underlying166
  a72 := Tryz.isAgg166
  z72 := Tryz.sizeOf166
  v72 := Tryz.zeroValue166
  t75 := Tryz.underlying169
  a75 := Tryz.isAgg169
  z75 := Tryz.sizeOf169
  v75 := Tryz.zeroValue169
  t76 := Tryz.underlying170
  a76 := Tryz.isAgg170
  z76 := Tryz.sizeOf170
  v76 := Tryz.zeroValue170
  t127 := Tryz.underlying219
  a127 := Tryz.isAgg219
  z127 := Tryz.sizeOf219
  v127 := Tryz.zeroValue219
  t164 := Tryz.underlying265
  a164 := Tryz.isAgg265
  z164 := Tryz.sizeOf265
  v164 := Tryz.zeroValue265 }

theorem bld_lays : Lays.n240 Tryz.prog Tryz.lays156_ren := { Tryz.lays156 with }
theorem bld_layS : Lays.n169 Tryz.prog Tryz.lays156_ren := { Tryz.lays156 with }
theorem bld_extra : Builder.Extra Tryz.prog Tryz.lays156_ren := { sizeBuilder := by kernel_rfl, liesBuilder := by kernel_rfl, t5 := Tryz.underlying5, a5 := Tryz.isAgg5, z5 := Tryz.sizeOf5, v5 := Tryz.zeroValue5, infoByte := by kernel_rfl, cellsByte := by kernel_rfl, sizeByte := by kernel_rfl, neB5 := by decide }
/-- A builder in box b: its buffer v, in block o, holds l. -/
structure Bld (w : World) (b : Nat) (v : Value) (o : Option Nat) (l : Str) : Prop where
  cell : ∃ p, (p = .pointer none ∨ p = .pointer (some ⟨b, 0, none⟩)) ∧ IsBoxT w b 166 [p, v]
  own : OwO w v o 1 (l.map eC)
  row : w.ownsRow 0 5 1 v l.length (Lib.byteCells l)
  ne : ∀ j, o = some j → j ≠ b
theorem Bld.ext {M : Nat → Prop} {w w' : World} {b : Nat} {v : Value} {o : Option Nat} {l : Str} (h : Bld w b v o l) (hE : Ext M w w') (hb : ¬ M b) (ho : ∀ j, o = some j → ¬ M j) : Bld w' b v o l := by
  obtain ⟨p, hp, hc⟩ := h.cell
  exact ⟨⟨p, hp, hc.ext hE hb⟩, h.own.ext hE ho, ownsRow_ext h.row h.own hE ho, h.ne⟩
theorem Bld.fresh {w : World} {b : Nat} (h : IsBoxT w b 166 [.pointer none, .slice none 0 0]) : Bld w b (.slice none 0 0) none [] := ⟨⟨_, .inl rfl, h⟩, OwO.nil, ⟨rfl, .inl ⟨rfl, rfl⟩⟩, fun j h => by cases h⟩
theorem Bld.lt {w : World} {b : Nat} {v : Value} {o : Option Nat} {l : Str} (h : Bld w b v o l) : b < w.heap.size := by obtain ⟨p, _, hc⟩ := h.cell; exact hc.box.lt
theorem copyCheck_ok (w : World) (b : Nat) {p v : Value} (hp : p = .pointer none ∨ p = .pointer (some ⟨b, 0, none⟩)) (h : IsBoxT w b 166 [p, v]) : FnM Tryz.prog (fun i => i = b) 144 #[.pointer (some ⟨b, 0, none⟩)] w fun u w' => u = .tuple #[] ∧ IsBoxT w' b 166 [.pointer (some ⟨b, 0, none⟩), v] := by
  have hc0 : w.cell? ⟨b, 0, none⟩ = some p := h.box.cell rfl
  rcases hp with rfl | rfl
  · refine Calls.mono (Any.Builder_copyCheck_fresh bld_lays bld_extra.toX72 b w hc0 (by unfold IsBoxT at h; simp [World.shape?, h]; rfl) (by unfold IsBoxT at h; simp [World.frozen?, h])) fun e w' hx => ?_
    obtain ⟨h1, rfl⟩ := hx
    refine ⟨_, h1, ⟨rfl, rfl, rfl, by simp [World.setCell], fun i _ hi => Below.heap_setCell _ _ _ _ (fun e => hi (by simp [e]))⟩, rfl, ?_⟩
    unfold IsBoxT at h ⊢
    simp [World.setCell, Array.getElem?_modify, h]
  · refine Calls.mono (Any.Builder_copyCheck_used bld_lays bld_extra.toX72 b w hc0) fun e w' hx => ?_
    obtain ⟨h1, rfl⟩ := hx
    exact ⟨_, h1, Ext.refl _ _, rfl, h⟩
theorem bstring_ok (w : World) (b : Nat) {v : Value} {o : Option Nat} {l : Str} {B : Nat} (h : Bld w b v o l) (hB : B ≤ b) (ho : ∀ j, o = some j → B ≤ j) : FnM Tryz.prog (fun i => B ≤ i) 95 #[.pointer (some ⟨b, 0, none⟩)] w fun u w' => u = Sv l := by
  obtain ⟨p, hp, hc⟩ := h.cell
  obtain ⟨hr, hw⟩ := ownsRow_base h.row h.own ho
  have hlt := h.lt
  have hat : Lib.BuilderAt 166 5 B b p (Lib.byteCells l) w := ⟨hB, v, hc, by rw [show (Lib.byteCells l).length = l.length by simp [Lib.byteCells]]; exact hr, fun e => h.ne b (by rw [← hw, e]) rfl⟩
  have hib : Lib.IsBuilder 166 5 B b (Lib.byteCells l) w := by rcases hp with rfl | rfl; exact .inl hat; exact .inr hat
  refine Calls.mono (Any.Builder_String_any bld_layS bld_extra B b l w hib (by omega)) fun e w' hx => ?_
  obtain ⟨h1, h2⟩ := hx
  exact ⟨_, h1, ⟨h2.os, h2.tape, h2.output, h2.size, fun i _ hi => h2.block i (by omega)⟩, rfl⟩
-- (*strings.Builder).WriteByte
theorem writeByte_ok (w : World) (b0 : Nat) {v : Value} {o : Option Nat} (l : Str) (c : UInt8) (hb : Bld w b0 v o l) (hn : l.length ≤ 1000000) : FnM Tryz.prog (fun i => i = b0 ∨ o = some i) 143 #[.pointer (some ⟨b0, 0, none⟩), .int .u8 c.toNat] w fun u w' => u = .nilIface ∧ ∃ v' o', Bld w' b0 v' o' (l ++ [c]) ∧ (∀ j, o' = some j → o = some j ∨ w.heap.size ≤ j) := by
  obtain ⟨p, hp, hZ⟩ := hb.cell
  have hO := hb.own; have hR := hb.row; have hne := hb.ne
  have hB0 := hZ.box
  have hl0 : Mine (fun i => i = b0 ∨ o = some i) w b0 := .inl (.inl rfl)
  have hblt := hb.lt
  have hX := Ext.refl (fun i => i = b0 ∨ o = some i) w
  refine fnM_of_W (args := [_, _]) Tryz.func143 rfl (by kernel_rfl) rfl ?_
  refine W_seq ?_
  refine W_region ?_
  refine wl_val (rn_assign (by conv => lhs; whnf)) ?_
  refine wl_nil ?_
  refine W_seq ?_
  refine W_region ?_
  refine wl_val (rn_move (by conv => lhs; whnf)) ?_
  refine wl_callM e_144 rfl (copyCheck_ok w b0 hp hZ) ?_; rintro v6 w1 hE1 ⟨_, hZ⟩
  replace hX := hX.mine hE1 hl0; replace hB0 := hZ.box; replace hR := ownsRow_ext hR hO hE1 hne; replace hO := hO.ext hE1 hne
  refine wl_nil ?_
  refine W_seq ?_
  refine W_region ?_
  refine wl_val (rn_move (by conv => lhs; whnf)) ?_
  refine wl_val (rn_move (by conv => lhs; whnf)) ?_
  refine wl_val (rn_nilCheck rfl) ?_
  refine wl_val (rn_fieldAddr f_166_1 (by decide) rfl) ?_
  refine wl_val (rn_load1 p_164 rfl hB0 rfl) ?_
  refine wl_val (rn_move (by conv => lhs; whnf)) ?_
  refine wl_lit1 (r := eC c) sl_164 rfl rfl rfl rfl (by decide) ?_; intro v13 w2 b13 hb13 hE2 hO13
  replace hX := hX.tr hE2
  replace hB0 := hB0.ext hE2 id
  replace hR := ownsRow_ext hR hO hE2 (fun _ _ h => h)
  replace hO := hO.ext hE2 (fun _ _ h => h)
  replace hZ := hZ.ext hE2 id
  have hXo := hX
  refine wl_appT (l2 := [c]) sl_164 rfl rfl hO hR (hO13.sl (M := Non) id) (by simp) (by simp only [List.length_cons, List.length_nil]; omega) ?_; intro v14 w3 o14 hE3 hO14 hR14 hf14
  replace hX := hX.mineO hE3 (fun j hj => .inl (.inr hj)); replace hZ := hZ.ext hE3 (fun h => hne _ h rfl); replace hB0 := hZ.box
  refine wl_val (rn_nilCheck rfl) ?_
  refine wl_val (rn_fieldAddr f_166_1 (by decide) rfl) ?_
  obtain ⟨a14, c14, hv14⟩ := id hO14.len; subst hv14
  have hZlt := hZ.box.lt
  have hne14 : ∀ j, o14 = some j → j ≠ b0 := fun j hj e => by rcases hf14 j hj with h | h; exact hne j h e; have := hXo.size; omega
  refine wl_store1T (b := b0) p_164 rfl rfl rfl rfl hZ (Nat.le_of_ble_eq_true rfl) ?_; intro w4 hE4 hZ hz4
  replace hX := hX.mine hE4 hl0; replace hR14 := ownsRow_ext hR14 hO14 hE4 hne14; replace hO14 := hO14.ext hE4 hne14
  refine wl_nil ?_
  refine W_seq ?_
  refine W_region ?_
  refine wl_val (rn_assign (by conv => lhs; whnf)) ?_
  refine wl_nil ?_
  refine W_ret ?_
  exact ⟨_, resR1 (res1_tmp rfl), hX, ⟨rfl, _, o14, ⟨⟨_, .inr rfl, hZ⟩, hO14, hR14, hne14⟩, fun j hj => (hf14 j hj).imp id (fun h => Nat.le_trans hXo.size h)⟩⟩
end Go.Proofs.YthcclgoidchkdaaGreatDoorC

/- Words: the program's and the document's. -/
set_option linter.unusedVariables false
set_option linter.unusedSimpArgs false
set_option maxRecDepth 100000
namespace Go.Proofs.YthcclgoidchkdaaGreatDoorC
open Go.RowKit
theorem plainC_iff (c : UInt8) : plainC c = true ↔ 33 ≤ c.toNat ∧ c.toNat ≤ 126 ∧ c.toNat ≠ 37 := by
  have h37 : c = 37 ↔ c.toNat = 37 := ⟨fun h => by rw [h]; rfl, fun h => UInt8.toNat_inj.1 h⟩
  unfold plainC
  simp only [Bool.and_eq_true, decide_eq_true_eq, Bool.not_eq_true', beq_eq_false_iff_ne, ne_eq, h37, and_assoc]
theorem plainC_no {c : UInt8} (h : ¬ (33 ≤ c.toNat ∧ c.toNat ≤ 126 ∧ c.toNat ≠ 37)) : plainC c = false := by
  cases hp : plainC c with
  | false => rfl
  | true => exact absurd ((plainC_iff c).1 hp) h
theorem wordB_yes {c : UInt8} (h : plainC c = true) : wordB c = [c] := if_pos h
theorem wordB_no {c : UInt8} (h : plainC c = false) : wordB c = [37, hexd (c.toNat / 16), hexd (c.toNat % 16)] := if_neg (by rw [h]; decide)
theorem take_at {s : Str} {i : Nat} {c : UInt8} (h : s[i]? = some c) : s.take (i + 1) = s.take i ++ [c] := by rw [List.take_add_one, h]; rfl
theorem word_step {s : Str} {i : Nat} {c : UInt8} (h : s[i]? = some c) : wordL (s.take (i + 1)) = wordL (s.take i) ++ wordB c := by rw [take_at h, wordL_app]; simp [wordL]
theorem one_at {s : Str} {i : Nat} {c : UInt8} (h : s[i]? = some c) : (s.drop i).take (i + 1 - i) = [c] := by
  obtain ⟨h1, h2⟩ := List.getElem?_eq_some_iff.1 h
  rw [List.drop_eq_getElem_cons h1, h2, Nat.add_sub_cancel_left]; rfl
theorem wordR_ne {s : Str} (h : ¬ s = []) : wordR s = wordL s := if_neg h
theorem wlen_take (s : Str) (i : Nat) (hn : s.length ≤ 4000) : (wordL (s.take i)).length ≤ 12000 := by
  have := wordL_len (s.take i); have : (s.take i).length ≤ s.length := by rw [List.length_take]; omega
  omega
-- bellman/bellmanref19.hex
theorem hex_ok (w : World) (c : UInt8) : Fn Tryz.prog 146 #[.int .u8 c.toNat] w fun u w' => u = Sv [hexd (c.toNat / 16), hexd (c.toNat % 16)] := by
  have hc8 := c.toNat_lt
  have hX := Ext.refl Non w
  refine fn_of_W (args := [_]) Tryz.func146 rfl (by kernel_rfl) rfl ?_
  refine W_seq ?_
  refine W_region ?_
  refine wl_val (rn_assign (by conv => lhs; whnf)) ?_
  refine wl_nil ?_
  refine W_seq ?_
  refine W_region ?_
  refine wl_val (rn_assign (by conv => lhs; whnf)) ?_
  refine wl_nil ?_
  refine W_seq ?_
  refine W_drawE mixed ?_; intro w1 hE1
  replace hX := hX.tr hE1
  have hS := Ext.refl Non w1
  refine wd_take 0 _ _ rfl (by kernel_rfl) hS (yd_do fun A hA => rn_move (by conv => lhs; whnf)) ?_
  refine wd_take 1 _ _ rfl (by kernel_rfl) hS (yd_do fun A hA => rn_move (by conv => lhs; whnf)) ?_
  refine wd_take 2 _ _ rfl (by kernel_rfl) hS (yd_do fun A hA => rn_convert ui_5 ui_3 rfl (wrap_id (by omega))) ?_
  refine wd_take 3 _ _ rfl (by kernel_rfl) hS (yd_do fun A hA => rn_quoN (b := 16) rfl rfl (by decide) (wrap_id (by omega))) ?_
  refine wd_take 4 _ _ rfl (by kernel_rfl) hS (yd_do fun A hA => rn_move (by conv => lhs; whnf)) ?_
  refine wd_take 5 _ _ rfl (by kernel_rfl) hS (yd_do fun A hA => rn_convert ui_5 ui_3 rfl (wrap_id (by omega))) ?_
  refine wd_take 6 _ _ rfl (by kernel_rfl) hS (yd_do fun A hA => rn_quoN (b := 16) rfl rfl (by decide) (wrap_id (by omega))) ?_
  refine wd_take 7 _ _ rfl (by kernel_rfl) hS (yd_do fun A hA => rn_add rfl rfl (by omega)) ?_
  refine wd_take 8 _ _ rfl (by kernel_rfl) hS (yd_do fun A hA => Rn.cast (rn_sslice us_9 (l := c.toNat / 16) (h := c.toNat / 16 + 1) (a := hexs) rfl ⟨_, rfl⟩ ⟨_, rfl⟩ (by omega) (show c.toNat / 16 + 1 ≤ 16 by omega)) (v' := Sv [hexd (c.toNat / 16)]) (congrArg Sv (one_at (hexd_at (by omega))))) ?_
  refine wd_take 9 _ _ rfl (by kernel_rfl) hS (yd_do fun A hA => rn_move (by conv => lhs; whnf)) ?_
  refine wd_take 10 _ _ rfl (by kernel_rfl) hS (yd_do fun A hA => rn_move (by conv => lhs; whnf)) ?_
  refine wd_take 11 _ _ rfl (by kernel_rfl) hS (yd_do fun A hA => rn_convert ui_5 ui_3 rfl (wrap_id (by omega))) ?_
  refine wd_take 12 _ _ rfl (by kernel_rfl) hS (yd_do fun A hA => rn_remN (b := 16) rfl rfl (by decide)) ?_
  refine wd_take 13 _ _ rfl (by kernel_rfl) hS (yd_do fun A hA => rn_move (by conv => lhs; whnf)) ?_
  refine wd_take 14 _ _ rfl (by kernel_rfl) hS (yd_do fun A hA => rn_convert ui_5 ui_3 rfl (wrap_id (by omega))) ?_
  refine wd_take 15 _ _ rfl (by kernel_rfl) hS (yd_do fun A hA => rn_remN (b := 16) rfl rfl (by decide)) ?_
  refine wd_take 16 _ _ rfl (by kernel_rfl) hS (yd_do fun A hA => rn_add rfl rfl (by omega)) ?_
  refine wd_take 17 _ _ rfl (by kernel_rfl) hS (yd_do fun A hA => Rn.cast (rn_sslice us_9 (l := c.toNat % 16) (h := c.toNat % 16 + 1) (a := hexs) rfl ⟨_, rfl⟩ ⟨_, rfl⟩ (by omega) (show c.toNat % 16 + 1 ≤ 16 by omega)) (v' := Sv [hexd (c.toNat % 16)]) (congrArg Sv (one_at (hexd_at (by omega))))) ?_
  refine wd_take 18 _ _ rfl (by kernel_rfl) hS (yd_do fun A hA => rn_sadd rfl rfl (by simp only [List.length_append, List.length_cons, List.length_nil]; omega)) ?_
  refine wd_take 19 _ _ rfl (by kernel_rfl) hS (yd_do fun A hA => rn_assign (by conv => lhs; whnf)) ?_
  refine wd_done (by kernel_rfl) ?_ _
  replace hX := hX.tr hS
  refine W_ret ?_
  exact ⟨_, resR1 (res1_tmp rfl), hX, rfl⟩
-- bellman/bellmanref19.Word
set_option maxHeartbeats 1600000 in
theorem rword_ok (w : World) (s : Str) (hn : s.length ≤ 4000) : Fn Tryz.prog 96 #[Sv s] w fun u w' => u = Sv (wordR s) := by
  have hX := Ext.refl Non w
  refine fn_of_W (args := [_]) Tryz.func96 rfl (by kernel_rfl) rfl ?_
  refine W_seq ?_
  refine W_region ?_
  refine wl_val (rn_assign (by conv => lhs; whnf)) ?_
  refine wl_nil ?_
  refine W_seq ?_
  refine W_seq ?_
  refine W_region ?_
  refine wl_val (rn_move (by conv => lhs; whnf)) ?_
  refine wl_val (rn_seql rfl rfl) ?_
  refine wl_nil ?_
  refine W_cond rfl (fun hc0 => ?_) (fun hc0 => ?_)
  · refine W_seq ?_
    refine W_region ?_
    refine wl_val (rn_assign (by conv => lhs; whnf)) ?_
    refine wl_nil ?_
    refine W_ret ?_
    exact ⟨_, resR1 (res1_tmp rfl), hX, by rw [show s = [] from of_decide_eq_true hc0]; rfl⟩
  · have hs0 : ¬ s = [] := of_decide_eq_false hc0
    refine W_skip ?_
    refine W_seq ?_
    refine W_region ?_
    refine wl_val (rn_assign (by conv => lhs; whnf)) ?_
    refine wl_nil ?_
    refine W_seq ?_
    refine W_seq ?_
    refine W_region ?_
    refine wl_val (rn_assign (by conv => lhs; whnf)) ?_
    refine wl_nil ?_
    refine W_block ?_   -- block 0
    refine W_loopS (S := Nat) [0, 3, 4] (fun i => [Sv s, Sv (wordL (s.take i)), .int .i64 (i : Nat)]) (fun i A => (Ext Non w A) ∧ (i ≤ s.length)) (fun i => s.length - i) 0 ⟨rfl, rfl, rfl, trivial⟩ ⟨hX, Nat.zero_le _⟩ ?_
    rintro τ0 i A0 ⟨hX, hI0⟩
    have hwl := wlen_take s i hn
    refine W_seq ?_
    refine W_seq ?_
    refine W_region ?_
    refine wl_val (rn_move (by conv => lhs; whnf)) ?_
    refine wl_val (rn_move (by conv => lhs; whnf)) ?_
    refine wl_val (rn_slen us_9 rfl) ?_
    refine wl_val (rn_lss rfl rfl) ?_
    refine wl_nil ?_
    refine W_cond rfl (fun hc1 => ?_) (fun hc1 => ?_)
    · have hlt := of_decide_eq_true hc1; simp only [Int.ofNat_lt] at hlt
      obtain ⟨c, hcc⟩ : ∃ c, (s)[i]? = some c := ⟨_, List.getElem?_eq_getElem hlt⟩
      have hx8 := c.toNat_lt
      refine W_skip ?_
      refine W_seq ?_
      refine W_block ?_   -- block 1
      refine W_seq ?_
      refine W_region ?_
      refine wl_val (rn_move (by conv => lhs; whnf)) ?_
      refine wl_val (rn_move (by conv => lhs; whnf)) ?_
      refine wl_val (rn_sindex us_9 rfl rfl (by omega) hcc) ?_
      refine wl_val (rn_geq rfl rfl) ?_
      refine wl_val (rn_move (by conv => lhs; whnf)) ?_
      refine wl_split (d := 17) rfl (fun hg17 => ?_) (fun hg17 => ?_)
      · have q1 := of_decide_eq_true hg17
        refine wl_yes rfl (congrArg Value.bool hg17) ?_
        refine wl_val (rn_move (by conv => lhs; whnf)) ?_
        refine wl_yes rfl (congrArg Value.bool hg17) ?_
        refine wl_val (rn_move (by conv => lhs; whnf)) ?_
        refine wl_yes rfl (congrArg Value.bool hg17) ?_
        refine wl_val (rn_sindex us_9 rfl rfl (by omega) hcc) ?_
        refine wl_yes rfl (congrArg Value.bool hg17) ?_
        refine wl_val (rn_leq rfl rfl) ?_
        refine wl_val (rn_pickT (congrArg Value.bool hg17) (by conv => lhs; whnf)) ?_
        refine wl_val (rn_move (by conv => lhs; whnf)) ?_
        refine wl_split (d := 23) rfl (fun hg23 => ?_) (fun hg23 => ?_)
        · have q2 := of_decide_eq_true hg23
          refine wl_yes rfl (congrArg Value.bool hg23) ?_
          refine wl_val (rn_move (by conv => lhs; whnf)) ?_
          refine wl_yes rfl (congrArg Value.bool hg23) ?_
          refine wl_val (rn_move (by conv => lhs; whnf)) ?_
          refine wl_yes rfl (congrArg Value.bool hg23) ?_
          refine wl_val (rn_sindex us_9 rfl rfl (by omega) hcc) ?_
          refine wl_yes rfl (congrArg Value.bool hg23) ?_
          refine wl_val (rn_neq rfl rfl) ?_
          refine wl_val (rn_pickT (congrArg Value.bool hg23) (by conv => lhs; whnf)) ?_
          refine wl_nil ?_
          refine W_cond rfl (fun hc2 => ?_) (fun hc2 => ?_)
          · have q3 := of_decide_eq_true hc2
            have hp := (plainC_iff c).2 (by omega)
            refine W_region ?_
            refine wl_val (rn_move (by conv => lhs; whnf)) ?_
            refine wl_val (rn_move (by conv => lhs; whnf)) ?_
            refine wl_val (rn_move (by conv => lhs; whnf)) ?_
            refine wl_val (rn_move (by conv => lhs; whnf)) ?_
            refine wl_val (rn_add rfl rfl (by omega)) ?_
            refine wl_val (Rn.cast (rn_sslice us_9 (l := i) (h := i + 1) rfl ⟨_, rfl⟩ ⟨_, rfl⟩ (by omega) (by omega)) (v' := Sv [c]) (congrArg Sv (one_at hcc))) ?_
            refine wl_val (rn_sadd rfl rfl (by simp only [List.length_append, List.length_cons, List.length_nil]; omega)) ?_
            refine wl_val (rn_assign (by conv => lhs; whnf)) ?_
            refine wl_nil ?_
            refine W_region ?_
            refine wl_val (rn_move (by conv => lhs; whnf)) ?_
            refine wl_val (rn_add rfl rfl (by omega)) ?_
            refine wl_val (rn_assign (by conv => lhs; whnf)) ?_
            refine wl_nil ?_
            
            exact ⟨rfl, i + 1, ⟨rfl, by first | (rw [word_step hcc, wordB_yes hp]; rfl) | (rw [word_step hcc, wordB_no hp]; show Sv _ = Sv _; simp only [List.append_assoc, List.cons_append, List.nil_append]), rfl, trivial⟩, ⟨hX, hlt⟩, by omega⟩
          · have q3 := of_decide_eq_false hc2
            have hp := plainC_no (c := c) (by omega)
            refine W_region ?_
            refine wl_val (rn_move (by conv => lhs; whnf)) ?_
            refine wl_val (rn_sadd rfl rfl (by simp only [List.length_append, List.length_cons, List.length_nil]; omega)) ?_
            refine wl_val (rn_move (by conv => lhs; whnf)) ?_
            refine wl_val (rn_move (by conv => lhs; whnf)) ?_
            refine wl_val (rn_sindex us_9 rfl rfl (by omega) hcc) ?_
            refine wl_call e_146 rfl (hex_ok A0 c) ?_; intro v41 w1 hE1 hR1
            replace hX := hX.tr hE1
            subst hR1
            refine wl_val (rn_sadd rfl rfl (by simp only [List.length_append, List.length_cons, List.length_nil]; omega)) ?_
            refine wl_val (rn_assign (by conv => lhs; whnf)) ?_
            refine wl_nil ?_
            refine W_region ?_
            refine wl_val (rn_move (by conv => lhs; whnf)) ?_
            refine wl_val (rn_add rfl rfl (by omega)) ?_
            refine wl_val (rn_assign (by conv => lhs; whnf)) ?_
            refine wl_nil ?_
            
            exact ⟨rfl, i + 1, ⟨rfl, by first | (rw [word_step hcc, wordB_yes hp]; rfl) | (rw [word_step hcc, wordB_no hp]; show Sv _ = Sv _; simp only [List.append_assoc, List.cons_append, List.nil_append]), rfl, trivial⟩, ⟨hX, hlt⟩, by omega⟩
        · have q2 := of_decide_eq_false hg23
          have hp := plainC_no (c := c) (by omega)
          refine wl_no rfl (congrArg Value.bool hg23) ?_
          refine wl_no rfl (congrArg Value.bool hg23) ?_
          refine wl_no rfl (congrArg Value.bool hg23) ?_
          refine wl_no rfl (congrArg Value.bool hg23) ?_
          refine wl_val (rn_pickF (congrArg Value.bool hg23) (by conv => lhs; whnf)) ?_
          refine wl_nil ?_
          refine W_condF rfl ?_
          refine W_region ?_
          refine wl_val (rn_move (by conv => lhs; whnf)) ?_
          refine wl_val (rn_sadd rfl rfl (by simp only [List.length_append, List.length_cons, List.length_nil]; omega)) ?_
          refine wl_val (rn_move (by conv => lhs; whnf)) ?_
          refine wl_val (rn_move (by conv => lhs; whnf)) ?_
          refine wl_val (rn_sindex us_9 rfl rfl (by omega) hcc) ?_
          refine wl_call e_146 rfl (hex_ok A0 c) ?_; intro v41 w2 hE2 hR2
          replace hX := hX.tr hE2
          subst hR2
          refine wl_val (rn_sadd rfl rfl (by simp only [List.length_append, List.length_cons, List.length_nil]; omega)) ?_
          refine wl_val (rn_assign (by conv => lhs; whnf)) ?_
          refine wl_nil ?_
          refine W_region ?_
          refine wl_val (rn_move (by conv => lhs; whnf)) ?_
          refine wl_val (rn_add rfl rfl (by omega)) ?_
          refine wl_val (rn_assign (by conv => lhs; whnf)) ?_
          refine wl_nil ?_
          
          exact ⟨rfl, i + 1, ⟨rfl, by first | (rw [word_step hcc, wordB_yes hp]; rfl) | (rw [word_step hcc, wordB_no hp]; show Sv _ = Sv _; simp only [List.append_assoc, List.cons_append, List.nil_append]), rfl, trivial⟩, ⟨hX, hlt⟩, by omega⟩
      · have q1 := of_decide_eq_false hg17
        have hp := plainC_no (c := c) (by omega)
        refine wl_no rfl (congrArg Value.bool hg17) ?_
        refine wl_no rfl (congrArg Value.bool hg17) ?_
        refine wl_no rfl (congrArg Value.bool hg17) ?_
        refine wl_no rfl (congrArg Value.bool hg17) ?_
        refine wl_val (rn_pickF (congrArg Value.bool hg17) (by conv => lhs; whnf)) ?_
        refine wl_val (rn_move (by conv => lhs; whnf)) ?_
        refine wl_no rfl rfl ?_
        refine wl_no rfl rfl ?_
        refine wl_no rfl rfl ?_
        refine wl_no rfl rfl ?_
        refine wl_val (rn_pickF rfl (by conv => lhs; whnf)) ?_
        refine wl_nil ?_
        refine W_condF rfl ?_
        refine W_region ?_
        refine wl_val (rn_move (by conv => lhs; whnf)) ?_
        refine wl_val (rn_sadd rfl rfl (by simp only [List.length_append, List.length_cons, List.length_nil]; omega)) ?_
        refine wl_val (rn_move (by conv => lhs; whnf)) ?_
        refine wl_val (rn_move (by conv => lhs; whnf)) ?_
        refine wl_val (rn_sindex us_9 rfl rfl (by omega) hcc) ?_
        refine wl_call e_146 rfl (hex_ok A0 c) ?_; intro v41 w3 hE3 hR3
        replace hX := hX.tr hE3
        subst hR3
        refine wl_val (rn_sadd rfl rfl (by simp only [List.length_append, List.length_cons, List.length_nil]; omega)) ?_
        refine wl_val (rn_assign (by conv => lhs; whnf)) ?_
        refine wl_nil ?_
        refine W_region ?_
        refine wl_val (rn_move (by conv => lhs; whnf)) ?_
        refine wl_val (rn_add rfl rfl (by omega)) ?_
        refine wl_val (rn_assign (by conv => lhs; whnf)) ?_
        refine wl_nil ?_
        
        exact ⟨rfl, i + 1, ⟨rfl, by first | (rw [word_step hcc, wordB_yes hp]; rfl) | (rw [word_step hcc, wordB_no hp]; show Sv _ = Sv _; simp only [List.append_assoc, List.cons_append, List.nil_append]), rfl, trivial⟩, ⟨hX, hlt⟩, by omega⟩
    · have hge := of_decide_eq_false hc1; simp only [Int.ofNat_lt, Nat.not_lt] at hge
      refine W_exit ?_   -- exit 0
      refine W_seq ?_
      refine W_region ?_
      refine wl_val (rn_move (by conv => lhs; whnf)) ?_
      refine wl_val (rn_assign (by conv => lhs; whnf)) ?_
      refine wl_nil ?_
      refine W_ret ?_
      exact ⟨_, resR1 (res1_tmp rfl), hX, by rw [wordR_ne hs0, List.take_of_length_le hge]; rfl⟩
-- bellman/op.Word
set_option maxHeartbeats 1600000 in
theorem oword_ok (w : World) (s : Str) (hn : s.length ≤ 4000) : Fn Tryz.prog 92 #[Sv s] w fun u w' => u = Sv (wordR s) := by
  have hX := Ext.refl Non w
  refine fn_of_W (args := [_]) Tryz.func92 rfl (by kernel_rfl) rfl ?_
  refine W_seq ?_
  refine W_region ?_
  refine wl_val (rn_assign (by conv => lhs; whnf)) ?_
  refine wl_nil ?_
  refine W_seq ?_
  refine W_seq ?_
  refine W_region ?_
  refine wl_val (rn_move (by conv => lhs; whnf)) ?_
  refine wl_val (rn_seql rfl rfl) ?_
  refine wl_nil ?_
  refine W_cond rfl (fun hc0 => ?_) (fun hc0 => ?_)
  · refine W_seq ?_
    refine W_region ?_
    refine wl_val (rn_assign (by conv => lhs; whnf)) ?_
    refine wl_nil ?_
    refine W_ret ?_
    exact ⟨_, resR1 (res1_tmp rfl), hX, by rw [show s = [] from of_decide_eq_true hc0]; rfl⟩
  · have hs0 : ¬ s = [] := of_decide_eq_false hc0
    refine W_skip ?_
    refine W_seq ?_
    refine W_region ?_
    refine wl_allocT z_166 ?_; intro b3 w1 hb3 hE1 hZ3
    have hq3 : w.heap.size ≤ b3 := Nat.le_trans hX.size hb3
    have hL := Bld.fresh hZ3
    replace hX := hX.tr hE1
    refine wl_nil ?_
    refine W_seq ?_
    refine W_seq ?_
    refine W_region ?_
    refine wl_val (rn_move (by conv => lhs; whnf)) ?_
    have hblt := hL.lt
    refine wl_toBytes us_9 sl_164.under ui_5 rfl (by omega) ?_; intro w2 b9 c9 hb9l hb9 hE2 hS9
    replace hX := hX.tr hE2
    replace hL := hL.ext hE2 id (fun _ _ h => h)
    refine wl_val (rn_len sl_164 rfl) ?_
    refine wl_val (rn_move (by conv => lhs; whnf)) ?_
    refine wl_nil ?_
    refine W_block ?_   -- block 0
    refine W_loopS (S := Nat × Value × Option Nat) [3, 9, 10, 11] (fun ⟨i, vb, ob⟩ => [.pointer (some ⟨b3, 0, none⟩), .slice (some ⟨b9, 0, none⟩) s.length c9, .int .i64 (s.length : Nat), .int .i64 (i : Nat)]) (fun ⟨i, vb, ob⟩ A => (Ext Non w A) ∧ (i ≤ s.length ∧ Bld A b3 vb ob (wordL (s.take i)) ∧ Sl (fun i => i ≠ b9) A (.slice (some ⟨b9, 0, none⟩) s.length c9) 1 (s.map eC) ∧ b9 < A.heap.size ∧ ∀ j, ob = some j → w.heap.size ≤ j ∧ j ≠ b9)) (fun ⟨i, vb, ob⟩ => s.length - i) (0, .slice none 0 0, none) ⟨rfl, rfl, rfl, rfl, trivial⟩ ⟨hX, ⟨Nat.zero_le _, hL, hS9, hb9, fun j h => by cases h⟩⟩ ?_
    rintro τ0 ⟨i, vb, ob⟩ A0 ⟨hX, hI0⟩
    obtain ⟨hI, hL, hS9, hb9, ho⟩ := hI0
    have hwl := wlen_take s i hn
    refine W_seq ?_
    refine W_region ?_
    refine wl_val (rn_lss rfl rfl) ?_
    refine wl_nil ?_
    refine W_seq ?_
    refine W_cond rfl (fun hc1 => ?_) (fun hc1 => ?_)
    · have hlt := of_decide_eq_true hc1; simp only [Int.ofNat_lt] at hlt
      obtain ⟨c, hcc⟩ : ∃ c, s[i]? = some c := ⟨_, List.getElem?_eq_getElem hlt⟩
      have hx8 := c.toNat_lt
      refine W_skip ?_
      refine W_seq ?_
      refine W_block ?_   -- block 1
      refine W_seq ?_
      refine W_region ?_
      refine wl_val (rn_indexAddr sl_164 rfl rfl (by omega)) ?_
      refine wl_val (rn_load p_5 rfl (hS9.at0 (eC_at hcc) rfl)) ?_
      refine wl_val (rn_assign (by conv => lhs; whnf)) ?_
      refine wl_nil ?_
      refine W_seq ?_
      refine W_region ?_
      refine wl_val (rn_move (by conv => lhs; whnf)) ?_
      refine wl_val (rn_gtr rfl rfl) ?_
      refine wl_val (rn_move (by conv => lhs; whnf)) ?_
      refine wl_split (d := 17) rfl (fun hg17 => ?_) (fun hg17 => ?_)
      · have q1 := of_decide_eq_true hg17
        refine wl_yes rfl (congrArg Value.bool hg17) ?_
        refine wl_val (rn_move (by conv => lhs; whnf)) ?_
        refine wl_yes rfl (congrArg Value.bool hg17) ?_
        refine wl_val (rn_lss rfl rfl) ?_
        refine wl_val (rn_pickT (congrArg Value.bool hg17) (by conv => lhs; whnf)) ?_
        refine wl_val (rn_move (by conv => lhs; whnf)) ?_
        refine wl_split (d := 21) rfl (fun hg21 => ?_) (fun hg21 => ?_)
        · have q2 := of_decide_eq_true hg21
          refine wl_yes rfl (congrArg Value.bool hg21) ?_
          refine wl_val (rn_move (by conv => lhs; whnf)) ?_
          refine wl_yes rfl (congrArg Value.bool hg21) ?_
          refine wl_val (rn_neq rfl rfl) ?_
          refine wl_val (rn_pickT (congrArg Value.bool hg21) (by conv => lhs; whnf)) ?_
          refine wl_nil ?_
          refine W_cond rfl (fun hc2 => ?_) (fun hc2 => ?_)
          · have q3 := of_decide_eq_true hc2
            have hp := (plainC_iff c).2 (by omega)
            refine W_region ?_
            refine wl_val (rn_move (by conv => lhs; whnf)) ?_
            have hXo := hX
            refine wl_callM e_143 rfl (writeByte_ok A0 b3 _ (c) hL (by first | omega | (simp only [List.length_append, List.length_cons, List.length_nil]; omega))) ?_; rintro v26 w3 hE3 ⟨rfl, vb26, ob26, hL, hf26⟩
            have hEb := hE3; replace hX := hX.own2 hE3 (fun i h => by rcases h with h | h; exact .inr (by omega); exact .inr (ho i h).1)
            replace hS9 := hS9.ext hE3 (fun i h => by rcases h with h | h; omega; exact (ho i h).2)
            replace ho : ∀ j, ob26 = some j → w.heap.size ≤ j ∧ j ≠ b9 := fun j hj => by rcases hf26 j hj with h | h; exact ho j h; exact ⟨Nat.le_trans hXo.size h, by omega⟩
            replace hb9 := Nat.lt_of_lt_of_le hb9 hE3.size
            refine wl_nil ?_
            refine W_region ?_
            refine wl_val (rn_add rfl rfl (by omega)) ?_
            refine wl_val (rn_move (by conv => lhs; whnf)) ?_
            refine wl_nil ?_
            exact ⟨rfl, (i + 1, _, _), ⟨rfl, rfl, rfl, rfl, trivial⟩, ⟨hX, ⟨hlt, by first | (rw [word_step hcc, wordB_yes hp]; exact hL) | (rw [word_step hcc, wordB_no hp]; simpa only [List.append_assoc, List.cons_append, List.nil_append] using hL), hS9, hb9, ho⟩⟩, by show s.length - (i + 1) < s.length - i; omega⟩
          · have q3 := of_decide_eq_false hc2
            have hp := plainC_no (c := c) (by omega)
            refine W_seq ?_
            refine W_region ?_
            have hXo := hX
            refine wl_callM e_143 rfl (writeByte_ok A0 b3 _ (37) hL (by first | omega | (simp only [List.length_append, List.length_cons, List.length_nil]; omega))) ?_; rintro v27 w4 hE4 ⟨rfl, vb27, ob27, hL, hf27⟩
            have hEb := hE4; replace hX := hX.own2 hE4 (fun i h => by rcases h with h | h; exact .inr (by omega); exact .inr (ho i h).1)
            replace hS9 := hS9.ext hE4 (fun i h => by rcases h with h | h; omega; exact (ho i h).2)
            replace ho : ∀ j, ob27 = some j → w.heap.size ≤ j ∧ j ≠ b9 := fun j hj => by rcases hf27 j hj with h | h; exact ho j h; exact ⟨Nat.le_trans hXo.size h, by omega⟩
            replace hb9 := Nat.lt_of_lt_of_le hb9 hE4.size
            refine wl_nil ?_
            refine W_seq ?_
            refine W_region ?_
            refine wl_val (rn_move (by conv => lhs; whnf)) ?_
            refine wl_val (rn_shr4 rfl rfl) ?_
            refine wl_val (rn_sindex us_9 rfl rfl (by omega) (hexd_at (n := c.toNat / 16) (by omega))) ?_
            have hXo := hX
            refine wl_callM e_143 rfl (writeByte_ok w4 b3 _ (hexd (c.toNat / 16)) hL (by first | omega | (simp only [List.length_append, List.length_cons, List.length_nil]; omega))) ?_; rintro v31 w5 hE5 ⟨rfl, vb31, ob31, hL, hf31⟩
            have hEb := hE5; replace hX := hX.own2 hE5 (fun i h => by rcases h with h | h; exact .inr (by omega); exact .inr (ho i h).1)
            replace hS9 := hS9.ext hE5 (fun i h => by rcases h with h | h; omega; exact (ho i h).2)
            replace ho : ∀ j, ob31 = some j → w.heap.size ≤ j ∧ j ≠ b9 := fun j hj => by rcases hf31 j hj with h | h; exact ho j h; exact ⟨Nat.le_trans hXo.size h, by omega⟩
            replace hb9 := Nat.lt_of_lt_of_le hb9 hE5.size
            refine wl_nil ?_
            refine W_region ?_
            refine wl_val (rn_move (by conv => lhs; whnf)) ?_
            refine wl_val (rn_and15 rfl rfl (by omega)) ?_
            refine wl_val (rn_sindex us_9 rfl rfl (by omega) (hexd_at (n := c.toNat % 16) (by omega))) ?_
            have hXo := hX
            refine wl_callM e_143 rfl (writeByte_ok w5 b3 _ (hexd (c.toNat % 16)) hL (by first | omega | (simp only [List.length_append, List.length_cons, List.length_nil]; omega))) ?_; rintro v35 w6 hE6 ⟨rfl, vb35, ob35, hL, hf35⟩
            have hEb := hE6; replace hX := hX.own2 hE6 (fun i h => by rcases h with h | h; exact .inr (by omega); exact .inr (ho i h).1)
            replace hS9 := hS9.ext hE6 (fun i h => by rcases h with h | h; omega; exact (ho i h).2)
            replace ho : ∀ j, ob35 = some j → w.heap.size ≤ j ∧ j ≠ b9 := fun j hj => by rcases hf35 j hj with h | h; exact ho j h; exact ⟨Nat.le_trans hXo.size h, by omega⟩
            replace hb9 := Nat.lt_of_lt_of_le hb9 hE6.size
            refine wl_nil ?_
            refine W_region ?_
            refine wl_val (rn_add rfl rfl (by omega)) ?_
            refine wl_val (rn_move (by conv => lhs; whnf)) ?_
            refine wl_nil ?_
            exact ⟨rfl, (i + 1, _, _), ⟨rfl, rfl, rfl, rfl, trivial⟩, ⟨hX, ⟨hlt, by first | (rw [word_step hcc, wordB_yes hp]; exact hL) | (rw [word_step hcc, wordB_no hp]; simpa only [List.append_assoc, List.cons_append, List.nil_append] using hL), hS9, hb9, ho⟩⟩, by show s.length - (i + 1) < s.length - i; omega⟩
        · have q2 := of_decide_eq_false hg21
          have hp := plainC_no (c := c) (by omega)
          refine wl_no rfl (congrArg Value.bool hg21) ?_
          refine wl_no rfl (congrArg Value.bool hg21) ?_
          refine wl_val (rn_pickF (congrArg Value.bool hg21) (by conv => lhs; whnf)) ?_
          refine wl_nil ?_
          refine W_condF rfl ?_
          refine W_seq ?_
          refine W_region ?_
          have hXo := hX
          refine wl_callM e_143 rfl (writeByte_ok A0 b3 _ (37) hL (by first | omega | (simp only [List.length_append, List.length_cons, List.length_nil]; omega))) ?_; rintro v27 w7 hE7 ⟨rfl, vb27, ob27, hL, hf27⟩
          have hEb := hE7; replace hX := hX.own2 hE7 (fun i h => by rcases h with h | h; exact .inr (by omega); exact .inr (ho i h).1)
          replace hS9 := hS9.ext hE7 (fun i h => by rcases h with h | h; omega; exact (ho i h).2)
          replace ho : ∀ j, ob27 = some j → w.heap.size ≤ j ∧ j ≠ b9 := fun j hj => by rcases hf27 j hj with h | h; exact ho j h; exact ⟨Nat.le_trans hXo.size h, by omega⟩
          replace hb9 := Nat.lt_of_lt_of_le hb9 hE7.size
          refine wl_nil ?_
          refine W_seq ?_
          refine W_region ?_
          refine wl_val (rn_move (by conv => lhs; whnf)) ?_
          refine wl_val (rn_shr4 rfl rfl) ?_
          refine wl_val (rn_sindex us_9 rfl rfl (by omega) (hexd_at (n := c.toNat / 16) (by omega))) ?_
          have hXo := hX
          refine wl_callM e_143 rfl (writeByte_ok w7 b3 _ (hexd (c.toNat / 16)) hL (by first | omega | (simp only [List.length_append, List.length_cons, List.length_nil]; omega))) ?_; rintro v31 w8 hE8 ⟨rfl, vb31, ob31, hL, hf31⟩
          have hEb := hE8; replace hX := hX.own2 hE8 (fun i h => by rcases h with h | h; exact .inr (by omega); exact .inr (ho i h).1)
          replace hS9 := hS9.ext hE8 (fun i h => by rcases h with h | h; omega; exact (ho i h).2)
          replace ho : ∀ j, ob31 = some j → w.heap.size ≤ j ∧ j ≠ b9 := fun j hj => by rcases hf31 j hj with h | h; exact ho j h; exact ⟨Nat.le_trans hXo.size h, by omega⟩
          replace hb9 := Nat.lt_of_lt_of_le hb9 hE8.size
          refine wl_nil ?_
          refine W_region ?_
          refine wl_val (rn_move (by conv => lhs; whnf)) ?_
          refine wl_val (rn_and15 rfl rfl (by omega)) ?_
          refine wl_val (rn_sindex us_9 rfl rfl (by omega) (hexd_at (n := c.toNat % 16) (by omega))) ?_
          have hXo := hX
          refine wl_callM e_143 rfl (writeByte_ok w8 b3 _ (hexd (c.toNat % 16)) hL (by first | omega | (simp only [List.length_append, List.length_cons, List.length_nil]; omega))) ?_; rintro v35 w9 hE9 ⟨rfl, vb35, ob35, hL, hf35⟩
          have hEb := hE9; replace hX := hX.own2 hE9 (fun i h => by rcases h with h | h; exact .inr (by omega); exact .inr (ho i h).1)
          replace hS9 := hS9.ext hE9 (fun i h => by rcases h with h | h; omega; exact (ho i h).2)
          replace ho : ∀ j, ob35 = some j → w.heap.size ≤ j ∧ j ≠ b9 := fun j hj => by rcases hf35 j hj with h | h; exact ho j h; exact ⟨Nat.le_trans hXo.size h, by omega⟩
          replace hb9 := Nat.lt_of_lt_of_le hb9 hE9.size
          refine wl_nil ?_
          refine W_region ?_
          refine wl_val (rn_add rfl rfl (by omega)) ?_
          refine wl_val (rn_move (by conv => lhs; whnf)) ?_
          refine wl_nil ?_
          exact ⟨rfl, (i + 1, _, _), ⟨rfl, rfl, rfl, rfl, trivial⟩, ⟨hX, ⟨hlt, by first | (rw [word_step hcc, wordB_yes hp]; exact hL) | (rw [word_step hcc, wordB_no hp]; simpa only [List.append_assoc, List.cons_append, List.nil_append] using hL), hS9, hb9, ho⟩⟩, by show s.length - (i + 1) < s.length - i; omega⟩
      · have q1 := of_decide_eq_false hg17
        have hp := plainC_no (c := c) (by omega)
        refine wl_no rfl (congrArg Value.bool hg17) ?_
        refine wl_no rfl (congrArg Value.bool hg17) ?_
        refine wl_val (rn_pickF (congrArg Value.bool hg17) (by conv => lhs; whnf)) ?_
        refine wl_val (rn_move (by conv => lhs; whnf)) ?_
        refine wl_no rfl rfl ?_
        refine wl_no rfl rfl ?_
        refine wl_val (rn_pickF rfl (by conv => lhs; whnf)) ?_
        refine wl_nil ?_
        refine W_condF rfl ?_
        refine W_seq ?_
        refine W_region ?_
        have hXo := hX
        refine wl_callM e_143 rfl (writeByte_ok A0 b3 _ (37) hL (by first | omega | (simp only [List.length_append, List.length_cons, List.length_nil]; omega))) ?_; rintro v27 w10 hE10 ⟨rfl, vb27, ob27, hL, hf27⟩
        have hEb := hE10; replace hX := hX.own2 hE10 (fun i h => by rcases h with h | h; exact .inr (by omega); exact .inr (ho i h).1)
        replace hS9 := hS9.ext hE10 (fun i h => by rcases h with h | h; omega; exact (ho i h).2)
        replace ho : ∀ j, ob27 = some j → w.heap.size ≤ j ∧ j ≠ b9 := fun j hj => by rcases hf27 j hj with h | h; exact ho j h; exact ⟨Nat.le_trans hXo.size h, by omega⟩
        replace hb9 := Nat.lt_of_lt_of_le hb9 hE10.size
        refine wl_nil ?_
        refine W_seq ?_
        refine W_region ?_
        refine wl_val (rn_move (by conv => lhs; whnf)) ?_
        refine wl_val (rn_shr4 rfl rfl) ?_
        refine wl_val (rn_sindex us_9 rfl rfl (by omega) (hexd_at (n := c.toNat / 16) (by omega))) ?_
        have hXo := hX
        refine wl_callM e_143 rfl (writeByte_ok w10 b3 _ (hexd (c.toNat / 16)) hL (by first | omega | (simp only [List.length_append, List.length_cons, List.length_nil]; omega))) ?_; rintro v31 w11 hE11 ⟨rfl, vb31, ob31, hL, hf31⟩
        have hEb := hE11; replace hX := hX.own2 hE11 (fun i h => by rcases h with h | h; exact .inr (by omega); exact .inr (ho i h).1)
        replace hS9 := hS9.ext hE11 (fun i h => by rcases h with h | h; omega; exact (ho i h).2)
        replace ho : ∀ j, ob31 = some j → w.heap.size ≤ j ∧ j ≠ b9 := fun j hj => by rcases hf31 j hj with h | h; exact ho j h; exact ⟨Nat.le_trans hXo.size h, by omega⟩
        replace hb9 := Nat.lt_of_lt_of_le hb9 hE11.size
        refine wl_nil ?_
        refine W_region ?_
        refine wl_val (rn_move (by conv => lhs; whnf)) ?_
        refine wl_val (rn_and15 rfl rfl (by omega)) ?_
        refine wl_val (rn_sindex us_9 rfl rfl (by omega) (hexd_at (n := c.toNat % 16) (by omega))) ?_
        have hXo := hX
        refine wl_callM e_143 rfl (writeByte_ok w11 b3 _ (hexd (c.toNat % 16)) hL (by first | omega | (simp only [List.length_append, List.length_cons, List.length_nil]; omega))) ?_; rintro v35 w12 hE12 ⟨rfl, vb35, ob35, hL, hf35⟩
        have hEb := hE12; replace hX := hX.own2 hE12 (fun i h => by rcases h with h | h; exact .inr (by omega); exact .inr (ho i h).1)
        replace hS9 := hS9.ext hE12 (fun i h => by rcases h with h | h; omega; exact (ho i h).2)
        replace ho : ∀ j, ob35 = some j → w.heap.size ≤ j ∧ j ≠ b9 := fun j hj => by rcases hf35 j hj with h | h; exact ho j h; exact ⟨Nat.le_trans hXo.size h, by omega⟩
        replace hb9 := Nat.lt_of_lt_of_le hb9 hE12.size
        refine wl_nil ?_
        refine W_region ?_
        refine wl_val (rn_add rfl rfl (by omega)) ?_
        refine wl_val (rn_move (by conv => lhs; whnf)) ?_
        refine wl_nil ?_
        exact ⟨rfl, (i + 1, _, _), ⟨rfl, rfl, rfl, rfl, trivial⟩, ⟨hX, ⟨hlt, by first | (rw [word_step hcc, wordB_yes hp]; exact hL) | (rw [word_step hcc, wordB_no hp]; simpa only [List.append_assoc, List.cons_append, List.nil_append] using hL), hS9, hb9, ho⟩⟩, by show s.length - (i + 1) < s.length - i; omega⟩
    · have hge := of_decide_eq_false hc1; simp only [Int.ofNat_lt, Nat.not_lt] at hge
      refine W_exit ?_   -- exit 0
      refine W_seq ?_
      refine W_region ?_
      refine wl_callM e_95 rfl (bstring_ok A0 b3 (B := w.heap.size) hL hq3 (fun j hj => (ho j hj).1)) ?_; rintro v37 w13 hE13 rfl
      replace hX := hX.own2 hE13 (fun i h => .inr h)
      refine wl_val (rn_assign (by conv => lhs; whnf)) ?_
      refine wl_nil ?_
      refine W_ret ?_
      exact ⟨_, resR1 (res1_tmp rfl), hX, by rw [wordR_ne hs0, List.take_of_length_le hge]; rfl⟩
end Go.Proofs.YthcclgoidchkdaaGreatDoorC

/- A byte read from two digits: the library's; the text of a word. -/
set_option linter.unusedVariables false
set_option linter.unusedSimpArgs false
set_option maxRecDepth 100000
namespace Go.Proofs.YthcclgoidchkdaaGreatDoorC
open Go.RowKit Go.Shelf
def Tryz.laysC245_ren : Go.Shelf.Ren := ⟨fun | 245 => 239 | 279 => 264 | 280 => 265 | 281 => 266 | 282 => 267 | 316 => 279 | 171 => 50 | 205 => 280 | 243 => 90 | 246 => 141 | 283 => 194 | 284 => 195 | 285 => 196 | 286 => 197 | 129 => 228 | 317 => 227 | 318 => 229 | 319 => 230 | 320 => 231 | 337 => 259 | 338 => 260 | n => n, fun | 9 => 9 | 3 => 3 | 75 => 169 | 167 => 317 | 4 => 4 | 168 => 320 | 210 => 335 | 37 => 164 | 0 => 0 | 127 => 219 | 145 => 343 | 143 => 341 | 2 => 2 | 171 => 259 | 53 => 260 | 5 => 5 | 173 => 263 | 212 => 288 | 51 => 289 | 20 => 20 | 213 => 290 | 46 => 218 | 232 => 332 | 233 => 333 | 80 => 172 | n => n, fun | 15 => 6 | 16 => 7 | 17 => 0 | 18 => 4 | 19 => 5 | n => n⟩
theorem Tryz.laysC245 : Go.Proofs.LaysC.n245 Tryz.prog Tryz.laysC245_ren := {
  mixed := by kernel_rfl
  f129 := Tryz.func228.trans (congrArg some (by kernel_rfl))
  f171 := Tryz.func50.trans (congrArg some (by kernel_rfl))
  f205 := Tryz.func280.trans (congrArg some (by kernel_rfl))
  f243 := Tryz.func90.trans (congrArg some (by kernel_rfl))
  f245 := Tryz.func239.trans (congrArg some (by kernel_rfl))
  f246 := Tryz.func141.trans (congrArg some (by kernel_rfl))
  f279 := Tryz.func264.trans (congrArg some (by kernel_rfl))
  f280 := Tryz.func265.trans (congrArg some (by kernel_rfl))
  f281 := Tryz.func266.trans (congrArg some (by kernel_rfl))
  f282 := Tryz.func267.trans (congrArg some (by kernel_rfl))
  f283 := Tryz.func194.trans (congrArg some (by kernel_rfl))
  f284 := Tryz.func195.trans (congrArg some (by kernel_rfl))
  f285 := Tryz.func196.trans (congrArg some (by kernel_rfl))
  f286 := Tryz.func197.trans (congrArg some (by kernel_rfl))
  f316 := Tryz.func279.trans (congrArg some (by kernel_rfl))
  f317 := Tryz.func227.trans (congrArg some (by kernel_rfl))
  f318 := Tryz.func229.trans (congrArg some (by kernel_rfl))
  f319 := Tryz.func230.trans (congrArg some (by kernel_rfl))
  f320 := Tryz.func231.trans (congrArg some (by kernel_rfl))
  f337 := Tryz.func259.trans (congrArg some (by kernel_rfl))
  f338 := Tryz.func260.trans (congrArg some (by kernel_rfl))
  t0 := Tryz.underlying0
  a0 := Tryz.isAgg0
  z0 := Tryz.sizeOf0
  v0 := Tryz.zeroValue0
  t2 := Tryz.underlying2
  a2 := Tryz.isAgg2
  z2 := Tryz.sizeOf2
  v2 := Tryz.zeroValue2
  t3 := Tryz.underlying3
  a3 := Tryz.isAgg3
  z3 := Tryz.sizeOf3
  v3 := Tryz.zeroValue3
  t4 := Tryz.underlying4
  a4 := Tryz.isAgg4
  z4 := Tryz.sizeOf4
  v4 := Tryz.zeroValue4
  t5 := Tryz.underlying5
  a5 := Tryz.isAgg5
  z5 := Tryz.sizeOf5
  v5 := Tryz.zeroValue5
  t9 := Tryz.underlying9
  a9 := Tryz.isAgg9
  z9 := Tryz.sizeOf9
  v9 := Tryz.zeroValue9
  t20 := Tryz.underlying20
  a20 := Tryz.isAgg20
  z20 := Tryz.sizeOf20
  v20 := Tryz.zeroValue20
  t37 := Tryz.underlying164
  a37 := Tryz.isAgg164
  z37 := Tryz.sizeOf164
  v37 := Tryz.zeroValue164
  t46 := Tryz.underlying218
  a46 := Tryz.isAgg218
  z46 := Tryz.sizeOf218
  v46 := Tryz.zeroValue218
  t51 := Tryz.underlying289
  a51 := Tryz.isAgg289
  z51 := Tryz.sizeOf289
  v51 := Tryz.zeroValue289
  t53 := Tryz.underlying260
  a53 := Tryz.isAgg260
  z53 := Tryz.sizeOf260
  v53 := Tryz.zeroValue260
  t75 := Tryz.underlying169
  a75 := Tryz.isAgg169
  z75 := Tryz.sizeOf169
  v75 := Tryz.zeroValue169
  t127 := Tryz.underlying219
  a127 := Tryz.isAgg219
  z127 := Tryz.sizeOf219
  v127 := Tryz.zeroValue219
  t143 := Tryz.underlying341
  a143 := Tryz.isAgg341
  z143 := Tryz.sizeOf341
  v143 := Tryz.zeroValue341
  t145 := Tryz.underlying343
  a145 := Tryz.isAgg343
  z145 := Tryz.sizeOf343
  v145 := Tryz.zeroValue343
  t167 := Tryz.underlying317
  a167 := Tryz.isAgg317
  z167 := Tryz.sizeOf317
  v167 := Tryz.zeroValue317
  t168 := Tryz.underlying320
  a168 := Tryz.isAgg320
  z168 := Tryz.sizeOf320
  v168 := Tryz.zeroValue320
  t171 := Tryz.underlying259
  a171 := Tryz.isAgg259
  z171 := Tryz.sizeOf259
  v171 := Tryz.zeroValue259
  t173 := Tryz.underlying263
  a173 := Tryz.isAgg263
  z173 := Tryz.sizeOf263
  v173 := Tryz.zeroValue263
  t210 := Tryz.underlying335
  a210 := Tryz.isAgg335
  z210 := Tryz.sizeOf335
  v210 := Tryz.zeroValue335
  t212 := Tryz.underlying288
  a212 := Tryz.isAgg288
  z212 := Tryz.sizeOf288
  v212 := Tryz.zeroValue288
  t213 := Tryz.underlying290
  a213 := Tryz.isAgg290
  z213 := Tryz.sizeOf290
  t232 := Tryz.underlying332
  a232 := Tryz.isAgg332
  z232 := Tryz.sizeOf332
  v232 := Tryz.zeroValue332
  t233 := Tryz.underlying333
  a233 := Tryz.isAgg333
  z233 := Tryz.sizeOf333
  v233 := Tryz.zeroValue333
  g15 := by kernel_rfl
  g16 := by kernel_rfl
  g17 := by kernel_rfl
  g18 := by kernel_rfl
  g19 := by kernel_rfl
  t80 := Tryz.underlying172
  a80 := Tryz.isAgg172
  z80 := Tryz.sizeOf172
  v80 := Tryz.zeroValue172
  i0 := by kernel_rfl
  i2 := by kernel_rfl
  i3 := by kernel_rfl
  i4 := by kernel_rfl
  i5 := by kernel_rfl
  i9 := by kernel_rfl
  i20 := by kernel_rfl
  i37 := by kernel_rfl
  i46 := by kernel_rfl
  i51 := by kernel_rfl
  i53 := by kernel_rfl
  i75 := by kernel_rfl
  i80 := by kernel_rfl
  i127 := by kernel_rfl
  i143 := by kernel_rfl
  i145 := by kernel_rfl
  i167 := by kernel_rfl
  i168 := by kernel_rfl
  i171 := by kernel_rfl
  i173 := by kernel_rfl
  i210 := by kernel_rfl
  i212 := by kernel_rfl
  i232 := by kernel_rfl
  i233 := by kernel_rfl
  m15 := by kernel_rfl
  m16 := by kernel_rfl
  m17 := by kernel_rfl
  m18 := by kernel_rfl
  m19 := by kernel_rfl
  c0 := by kernel_rfl
  c2 := by kernel_rfl
  c3 := by kernel_rfl
  c4 := by kernel_rfl
  c5 := by kernel_rfl
  c9 := by kernel_rfl
  c20 := by kernel_rfl
  c37 := by kernel_rfl
  c46 := by kernel_rfl
  c51 := by kernel_rfl
  c53 := by kernel_rfl
  c75 := by kernel_rfl
  c80 := by kernel_rfl
  c127 := by kernel_rfl
  c143 := by kernel_rfl
  c145 := by kernel_rfl
  c167 := by kernel_rfl
  c168 := by kernel_rfl
  c171 := by kernel_rfl
  c173 := by kernel_rfl
  c210 := by kernel_rfl
  c212 := by kernel_rfl
  c213 := by kernel_rfl
  c232 := by kernel_rfl
  c233 := by kernel_rfl }

/-- The greater block of the library's two errors. -/
def errN : Nat := 7
/-- The library's two errors stand where they stood. -/
def ErrS (w : World) : Prop := (∃ t p, w.cell? ⟨6, 0, none⟩ = some (.iface t p)) ∧ ∃ t p, w.cell? ⟨7, 0, none⟩ = some (.iface t p)
theorem ErrS.ext {M : Nat → Prop} {w w' : World} (h : ErrS w) (hE : Ext M w w') {B : Nat} (hM : ∀ i, M i → B ≤ i) (hB : errN < B) : ErrS w' := by
  unfold errN at hB; obtain ⟨⟨t, p, h0⟩, t', p', h1⟩ := h
  exact ⟨⟨t, p, hE.cell h0 (fun h => by have := hM _ h; simp at this; omega)⟩, t', p', hE.cell h1 (fun h => by have := hM _ h; simp at this; omega)⟩
theorem ErrS.non {w w' : World} (h : ErrS w) (hE : Ext Non w w') : ErrS w' := by
  obtain ⟨⟨t, p, h0⟩, t', p', h1⟩ := h
  exact ⟨⟨t, p, hE.cell h0 id⟩, t', p', hE.cell h1 id⟩
theorem ErrS.two {w : World} (h : ErrS w) : errN < w.heap.size := by
  unfold errN
  obtain ⟨⟨t, p, h0⟩, t', p', h1⟩ := h
  have a := World.block_lt_of_cell? w _ h0; have b := World.block_lt_of_cell? w _ h1
  simp at a b; omega
theorem toError_ok (w : World) (fn s : Str) (b1 b2 : Int) (hn : s.length ≤ 1000000) (hS : ErrS w) : Fn Tryz.prog 239 #[Sv fn, Sv s, .int .i64 b1, .int .i64 b2, .iface 317 (.int .i64 2)] w fun u w' => ∃ t z, u = .iface t z := by
  obtain ⟨⟨t, p, h0⟩, _⟩ := hS
  refine Calls.mono (Any.strconv_toError_syntax Tryz.laysC245 ⟨fn.toArray⟩ ⟨s.toArray⟩ b1 b2 _ w (by simp [ByteArray.size]; omega) h0 (.inr ⟨t, p, rfl⟩)) fun e w' hx => ?_
  obtain ⟨N, h1, _, _, h2⟩ := hx
  exact ⟨_, h1, Ext.of_below h2, _, _, rfl⟩
theorem dig_no {x : UInt8} (h1 : ¬ (48 ≤ x.toNat ∧ x.toNat ≤ 57)) (h2 : ¬ (97 ≤ lowN x ∧ lowN x ≤ 122)) : dig x = 16 := by
  unfold dig
  rw [if_neg h1]
  by_cases h3 : 97 ≤ x.toNat ∧ x.toNat ≤ 102
  · exact absurd (by rw [lowN_id (by omega)]; omega) h2
  · rw [if_neg h3]
theorem dig_big {x : UInt8} {d : Nat} (h : dig x ≠ 16 → d = dig x) (h2 : 16 ≤ d) : dig x = 16 := by
  apply Classical.byContradiction
  intro hc
  have := h hc; have := dig_lt hc; omega
theorem dig_num {x : UInt8} (h : 48 ≤ x.toNat ∧ x.toNat ≤ 57) : dig x ≠ 16 → x.toNat - 48 = dig x := fun _ => by unfold dig; rw [if_pos h]
theorem dig_low {x : UInt8} (h : ¬ (48 ≤ x.toNat ∧ x.toNat ≤ 57)) : dig x ≠ 16 → lowN x - 87 = dig x := fun hd => by
  unfold dig at hd ⊢
  rw [if_neg h] at hd ⊢
  by_cases h3 : 97 ≤ x.toNat ∧ x.toNat ≤ 102
  · rw [if_pos h3, lowN_id (by omega)]
  · rw [if_neg h3] at hd; exact absurd rfl hd
/-- What the two digits a, b are read as. -/
def PU (a b : UInt8) (n : Nat) (e : Value) : Prop := (e = .nilIface ∧ n < 256 ∧ (dig a ≠ 16 → dig b ≠ 16 → n = dig a * 16 + dig b)) ∨ ((dig a = 16 ∨ dig b = 16) ∧ ∃ s z, e = .iface s z)
theorem PU.is {a b : UInt8} {n : Nat} {e : Value} (h : PU a b n e) : IsE e := by rcases h with ⟨h, _⟩ | ⟨_, h⟩; exact .inl h; exact .inr h
-- internal/strconv.lower
theorem lower_ok (w : World) (c : UInt8) : Fn Tryz.prog 285 #[.int .u8 c.toNat] w fun u w' => u = .int .u8 (lowN c : Nat) := by
  have hX := Ext.refl Non w
  refine fn_of_W (args := [_]) Tryz.func285 rfl (by kernel_rfl) rfl ?_
  refine W_seq ?_
  refine W_region ?_
  refine wl_val (rn_assign (by conv => lhs; whnf)) ?_
  refine wl_nil ?_
  refine W_seq ?_
  refine W_region ?_
  refine wl_val (rn_move (by conv => lhs; whnf)) ?_
  refine wl_val (rn_or32 rfl rfl) ?_
  refine wl_val (rn_assign (by conv => lhs; whnf)) ?_
  refine wl_nil ?_
  refine W_ret ?_
  exact ⟨_, resR1 (res1_tmp rfl), hX, rfl⟩
-- internal/strconv.ParseUint
set_option maxHeartbeats 3200000 in
theorem iparseU_ok (w : World) (a b : UInt8) : Fn Tryz.prog 278 #[Sv [a, b], .int .i64 16, .int .i64 8] w fun u w' => ∃ (n : Nat) (e : Value), u = .tuple #[.int .u64 (n : Nat), e] ∧ ((e = .nilIface ∧ n < 256 ∧ (dig a ≠ 16 → dig b ≠ 16 → n = dig a * 16 + dig b)) ∨ ((dig a = 16 ∨ dig b = 16) ∧ e = .iface 317 (.int .i64 2))) := by
  have hX := Ext.refl Non w
  refine fn_of_W (args := [_, _, _]) Tryz.func278 rfl (by kernel_rfl) rfl ?_
  refine W_seq ?_
  refine W_region ?_
  refine wl_val (rn_assign (by conv => lhs; whnf)) ?_
  refine wl_val (rn_assign (by conv => lhs; whnf)) ?_
  refine wl_nil ?_
  refine W_seq ?_
  refine W_seq ?_
  refine W_region ?_
  refine wl_val (rn_move (by conv => lhs; whnf)) ?_
  refine wl_val (rn_seql rfl rfl) ?_
  refine wl_nil ?_
  refine W_cond rfl (fun hc0 => ?_) (fun hc0 => ?_)
  · exact absurd (of_decide_eq_true hc0) (by simp)
  · refine W_skip ?_
    refine W_seq ?_
    refine W_region ?_
    refine wl_val (rn_move (by conv => lhs; whnf)) ?_
    refine wl_val (rn_eql rfl rfl) ?_
    refine wl_val (rn_assign (by conv => lhs; whnf)) ?_
    refine wl_nil ?_
    refine W_seq ?_
    refine W_region ?_
    refine wl_val (rn_move (by conv => lhs; whnf)) ?_
    refine wl_val (rn_assign (by conv => lhs; whnf)) ?_
    refine wl_nil ?_
    refine W_seq ?_
    refine W_block ?_   -- block 0
    refine W_seq ?_
    refine W_region ?_
    refine wl_val (rn_move (by conv => lhs; whnf)) ?_
    refine wl_val (rn_leq rfl rfl) ?_
    refine wl_val (rn_move (by conv => lhs; whnf)) ?_
    refine wl_yes rfl rfl ?_
    refine wl_val (rn_move (by conv => lhs; whnf)) ?_
    refine wl_yes rfl rfl ?_
    refine wl_val (rn_leq rfl rfl) ?_
    refine wl_val (rn_pickT rfl (by conv => lhs; whnf)) ?_
    refine wl_val (rn_assign (by conv => lhs; whnf)) ?_
    refine wl_nil ?_
    refine W_condT rfl ?_
    refine W_skip ?_
    refine W_seq ?_
    refine W_seq ?_
    refine W_region ?_
    refine wl_val (rn_move (by conv => lhs; whnf)) ?_
    refine wl_val (rn_eql rfl rfl) ?_
    refine wl_nil ?_
    refine W_condF rfl ?_
    refine W_seq ?_
    refine W_region ?_
    refine wl_val (rn_move (by conv => lhs; whnf)) ?_
    refine wl_val (rn_lss rfl rfl) ?_
    refine wl_val (rn_move (by conv => lhs; whnf)) ?_
    refine wl_yes rfl rfl ?_
    refine wl_val (rn_move (by conv => lhs; whnf)) ?_
    refine wl_yes rfl rfl ?_
    refine wl_val (rn_gtr rfl rfl) ?_
    refine wl_val (rn_pickF rfl (by conv => lhs; whnf)) ?_
    refine wl_nil ?_
    refine W_condF rfl ?_
    refine W_skip ?_
    refine W_seq ?_
    refine W_region ?_
    refine wl_val (rn_assign (by conv => lhs; whnf)) ?_
    refine wl_nil ?_
    refine W_seq ?_
    refine W_seq ?_
    refine W_region ?_
    refine wl_val (rn_move (by conv => lhs; whnf)) ?_
    refine wl_nil ?_
    refine W_block ?_   -- block 2
    refine W_seq ?_
    refine W_region ?_
    refine wl_val (rn_eql rfl rfl) ?_
    refine wl_val (rn_assign (by conv => lhs; whnf)) ?_
    refine wl_nil ?_
    refine W_condF rfl ?_
    refine W_seq ?_
    refine W_region ?_
    refine wl_val (rn_eql rfl rfl) ?_
    refine wl_val (rn_assign (by conv => lhs; whnf)) ?_
    refine wl_nil ?_
    refine W_condT rfl ?_
    refine W_region ?_
    refine wl_val (rn_assign (by conv => lhs; whnf)) ?_
    refine wl_nil ?_
    refine W_seq ?_
    refine W_region ?_
    refine wl_val (rn_move (by conv => lhs; whnf)) ?_
    refine wl_val (rn_convert ui_3 ui_218 rfl (by decide)) ?_
    refine wl_val (rn_shl8 rfl rfl) ?_
    refine wl_val (rn_subK rfl rfl (by decide)) ?_
    refine wl_val (rn_assign (by conv => lhs; whnf)) ?_
    refine wl_nil ?_
    refine W_seq ?_
    refine W_region ?_
    refine wl_val (rn_assign (by conv => lhs; whnf)) ?_
    refine wl_nil ?_
    refine W_seq ?_
    refine W_region ?_
    refine wl_val (rn_assign (by conv => lhs; whnf)) ?_
    refine wl_nil ?_
    refine W_seq ?_
    refine W_seq ?_
    refine W_region ?_
    refine wl_val (rn_move (by conv => lhs; whnf)) ?_
    refine wl_toBytes us_9 sl_164.under ui_5 rfl (Nat.le_of_ble_eq_true rfl) ?_; intro w1 b99 c99 hb99l hb99 hE1 hS99
    replace hX := hX.tr hE1
    refine wl_val (rn_len sl_164 rfl) ?_
    refine wl_val (rn_move (by conv => lhs; whnf)) ?_
    refine wl_nil ?_
    refine W_block ?_   -- block 3
    refine W_loopS (S := Nat × Nat) [1, 8, 10, 11, 12, 13, 99, 100, 101] (fun ⟨i, n⟩ => [.int .i64 16, .bool false, .int .u64 1152921504606846976, .int .u64 255, .bool false, .int .u64 (n : Nat), .slice (some ⟨b99, 0, none⟩) ([a, b] : Str).length c99, .int .i64 (([a, b] : Str).length : Nat), .int .i64 (i : Nat)]) (fun ⟨i, n⟩ A => (Ext Non w A) ∧ (i ≤ 2 ∧ (i = 0 → n = 0) ∧ (i = 1 → n ≤ 15 ∧ (dig a ≠ 16 → n = dig a)) ∧ (i = 2 → n ≤ 255 ∧ (dig a ≠ 16 → dig b ≠ 16 → n = dig a * 16 + dig b)) ∧ Sl (fun i => i ≠ b99) A (.slice (some ⟨b99, 0, none⟩) ([a, b] : Str).length c99) 1 (([a, b] : Str).map eC))) (fun ⟨i, n⟩ => 2 - i) (0, 0) ⟨rfl, rfl, rfl, rfl, rfl, rfl, rfl, rfl, rfl, trivial⟩ ⟨hX, ⟨by omega, fun _ => rfl, fun h => by omega, fun h => by omega, hS99⟩⟩ ?_
    rintro τ0 ⟨i, n⟩ A0 ⟨hX, hI0⟩
    obtain ⟨hI, hn0, hn1, hn2, hS99⟩ := hI0
    refine W_seq ?_
    refine W_region ?_
    refine wl_val (rn_lss rfl rfl) ?_
    refine wl_nil ?_
    refine W_seq ?_
    refine W_cond rfl (fun hc6 => ?_) (fun hc6 => ?_)
    · have hlt := of_decide_eq_true hc6; simp only [Int.ofNat_lt] at hlt
      have h01 : i = 0 ∨ i = 1 := by have : i < 2 := hlt; omega
      obtain ⟨x, hxx⟩ : ∃ x, ([a, b] : Str)[i]? = some x := ⟨_, List.getElem?_eq_getElem hlt⟩
      have hx01 : (i = 0 ∧ x = a) ∨ (i = 1 ∧ x = b) := by rcases h01 with rfl | rfl; exact .inl ⟨rfl, by simpa using hxx.symm⟩; exact .inr ⟨rfl, by simpa using hxx.symm⟩
      have hx8 := x.toNat_lt; have hlow := lowN_lt x
      have hn15 : n ≤ 15 := by rcases h01 with h | h; have := hn0 h; omega; exact (hn1 h).1
      refine W_skip ?_
      refine W_seq ?_
      refine W_block ?_   -- block 4
      refine W_seq ?_
      refine W_region ?_
      refine wl_val (rn_indexAddr sl_164 rfl rfl (by omega)) ?_
      refine wl_val (rn_load p_5 rfl (hS99.at0 (eC_at hxx) rfl)) ?_
      refine wl_val (rn_assign (by conv => lhs; whnf)) ?_
      refine wl_nil ?_
      refine W_seq ?_
      refine W_region ?_
      refine wl_val (rn_assign (by conv => lhs; whnf)) ?_
      refine wl_nil ?_
      refine W_seq ?_
      refine W_block ?_   -- block 5
      refine W_seq ?_
      refine W_region ?_
      refine wl_val (rn_move (by conv => lhs; whnf)) ?_
      refine wl_val (rn_eql rfl rfl) ?_
      refine wl_val (rn_move (by conv => lhs; whnf)) ?_
      refine wl_split (d := 109) rfl (fun hg109 => ?_) (fun hg109 => ?_)
      · refine wl_yes rfl (congrArg Value.bool hg109) ?_
        refine wl_val (rn_move (by conv => lhs; whnf)) ?_
        refine wl_val (rn_pickT (congrArg Value.bool hg109) (by conv => lhs; whnf)) ?_
        refine wl_val (rn_assign (by conv => lhs; whnf)) ?_
        refine wl_nil ?_
        refine W_condF rfl ?_
        refine W_seq ?_
        refine W_region ?_
        refine wl_val (rn_move (by conv => lhs; whnf)) ?_
        refine wl_val (rn_leq rfl rfl) ?_
        refine wl_val (rn_move (by conv => lhs; whnf)) ?_
        refine wl_split (d := 115) rfl (fun hg115 => ?_) (fun hg115 => ?_)
        · have q1 := of_decide_eq_true hg115
          refine wl_yes rfl (congrArg Value.bool hg115) ?_
          refine wl_val (rn_move (by conv => lhs; whnf)) ?_
          refine wl_yes rfl (congrArg Value.bool hg115) ?_
          refine wl_val (rn_leq rfl rfl) ?_
          refine wl_val (rn_pickT (congrArg Value.bool hg115) (by conv => lhs; whnf)) ?_
          refine wl_val (rn_assign (by conv => lhs; whnf)) ?_
          refine wl_nil ?_
          refine W_cond rfl (fun hc8 => ?_) (fun hc8 => ?_)
          · have q2 := of_decide_eq_true hc8
            have hyd : 48 ≤ x.toNat ∧ x.toNat ≤ 57 := by omega
            refine W_region ?_
            refine wl_val (rn_move (by conv => lhs; whnf)) ?_
            refine wl_val (Rn.cast (rn_subK rfl rfl (wrapB (by omega))) (v' := .int .u8 ((x.toNat - 48 : Nat) : Int)) (congrArg (Value.int .u8) (by omega))) ?_
            have hdd := dig_num hyd
            generalize x.toNat - 48 = d at hdd ⊢
            refine wl_val (rn_assign (by conv => lhs; whnf)) ?_
            refine wl_nil ?_
            refine W_seq ?_
            refine W_seq ?_
            refine W_region ?_
            refine wl_val (rn_move (by conv => lhs; whnf)) ?_
            refine wl_val (rn_move (by conv => lhs; whnf)) ?_
            refine wl_val (Rn.cast (rn_convert ui_3 ui_5 rfl (by decide)) (v' := .int .u8 16) rfl) ?_
            refine wl_val (rn_geq rfl rfl) ?_
            refine wl_nil ?_
            refine W_cond rfl (fun hc9 => ?_) (fun hc9 => ?_)
            · have q5 := of_decide_eq_true hc9
              have hxd := dig_big hdd (by omega)
              refine W_seq ?_
              refine W_region ?_
              refine wl_val (rn_mkIface (by kernel_rfl) rfl) ?_
              refine wl_val (rn_assign (by conv => lhs; whnf)) ?_
              refine wl_val (rn_assign (by conv => lhs; whnf)) ?_
              refine wl_nil ?_
              refine W_ret ?_
              first | exact ⟨_, resR2 (res1_tmp rfl) (res1_tmp rfl), hX, ⟨0, _, rfl, .inr ⟨by rcases hx01 with ⟨_, e⟩ | ⟨_, e⟩; subst e; exact .inl hxd; subst e; exact .inr hxd, rfl⟩⟩⟩ | exact ⟨_, resR2 (res1_tmp rfl) (res1_tmp rfl), hX, ⟨n, _, rfl, .inl ⟨rfl, by omega, hgood⟩⟩⟩
            · have q5 := of_decide_eq_false hc9
              have hd15 : d ≤ 15 := by omega
              refine W_skip ?_
              refine W_seq ?_
              refine W_seq ?_
              refine W_region ?_
              refine wl_val (rn_move (by conv => lhs; whnf)) ?_
              refine wl_val (rn_move (by conv => lhs; whnf)) ?_
              refine wl_val (rn_geq rfl rfl) ?_
              refine wl_nil ?_
              refine W_cond rfl (fun hc10 => ?_) (fun hc10 => ?_)
              · exact absurd (of_decide_eq_true hc10) (by omega)
              · refine W_skip ?_
                refine W_seq ?_
                refine W_region ?_
                refine wl_val (rn_move (by conv => lhs; whnf)) ?_
                refine wl_val (rn_move (by conv => lhs; whnf)) ?_
                refine wl_val (Rn.cast (rn_convert ui_3 ui_260 rfl (by decide)) (v' := .int .u64 ((16 : Nat) : Int)) rfl) ?_
                refine wl_val (rn_mulN (b := 16) rfl rfl (wrap_u64 (by omega))) ?_
                refine wl_val (rn_assign (by conv => lhs; whnf)) ?_
                refine wl_nil ?_
                refine W_seq ?_
                refine W_region ?_
                refine wl_val (rn_move (by conv => lhs; whnf)) ?_
                refine wl_val (rn_move (by conv => lhs; whnf)) ?_
                refine wl_val (rn_convert ui_5 ui_260 rfl (wrap_u64 (by omega))) ?_
                refine wl_val (rn_addN rfl rfl (wrap_u64 (by omega))) ?_
                refine wl_val (rn_assign (by conv => lhs; whnf)) ?_
                refine wl_nil ?_
                refine W_seq ?_
                refine W_seq ?_
                refine W_region ?_
                refine wl_val (rn_move (by conv => lhs; whnf)) ?_
                refine wl_val (rn_move (by conv => lhs; whnf)) ?_
                refine wl_val (rn_lss rfl rfl) ?_
                refine wl_val (rn_move (by conv => lhs; whnf)) ?_
                refine wl_split (d := 155) rfl (fun hg155 => ?_) (fun hg155 => ?_)
                · exact absurd (of_decide_eq_true hg155) (by omega)
                · refine wl_yes rfl (congrArg Value.bool hg155) ?_
                  refine wl_val (rn_move (by conv => lhs; whnf)) ?_
                  refine wl_yes rfl (congrArg Value.bool hg155) ?_
                  refine wl_val (rn_move (by conv => lhs; whnf)) ?_
                  refine wl_yes rfl (congrArg Value.bool hg155) ?_
                  refine wl_val (rn_gtr rfl rfl) ?_
                  refine wl_val (rn_pickF (congrArg Value.bool hg155) (by conv => lhs; whnf)) ?_
                  refine wl_nil ?_
                  refine W_cond rfl (fun hc11 => ?_) (fun hc11 => ?_)
                  · exact absurd (of_decide_eq_true hc11) (by omega)
                  · refine W_skip ?_
                    refine W_region ?_
                    refine wl_val (rn_move (by conv => lhs; whnf)) ?_
                    refine wl_val (rn_assign (by conv => lhs; whnf)) ?_
                    refine wl_nil ?_
                    refine W_region ?_
                    refine wl_val (rn_add rfl rfl (by omega)) ?_
                    refine wl_val (rn_move (by conv => lhs; whnf)) ?_
                    refine wl_nil ?_
                    exact ⟨rfl, (i + 1, _), ⟨rfl, rfl, rfl, rfl, rfl, rfl, rfl, rfl, rfl, trivial⟩, ⟨hX, ⟨by omega, fun h => by omega, fun h => ⟨by have := hn0 (by omega); omega, fun ha => by have := hn0 (by omega); rcases hx01 with ⟨_, e⟩ | ⟨h2, _⟩; subst e; have := hdd ha; omega; omega⟩, fun h => ⟨by omega, fun ha hb => by have := (hn1 (by omega)).2 ha; rcases hx01 with ⟨h2, _⟩ | ⟨_, e⟩; omega; subst e; have := hdd hb; omega⟩, hS99⟩⟩, by show 2 - (i + 1) < 2 - i; have : i < 2 := hlt; omega⟩
          · have q2 := of_decide_eq_false hc8
            have hnd : ¬ (48 ≤ x.toNat ∧ x.toNat ≤ 57) := by omega
            refine W_seq ?_
            refine W_region ?_
            refine wl_val (rn_move (by conv => lhs; whnf)) ?_
            refine wl_call e_285 rfl (lower_ok A0 x) ?_; intro v123 w2 hE2 hR2
            replace hX := hX.tr hE2
            replace hS99 := hS99.ext hE2 (fun _ h => h.elim)
            subst hR2
            refine wl_val (rn_leq rfl rfl) ?_
            refine wl_val (rn_move (by conv => lhs; whnf)) ?_
            refine wl_split (d := 125) rfl (fun hg125 => ?_) (fun hg125 => ?_)
            · have q3 := of_decide_eq_true hg125
              refine wl_yes rfl (congrArg Value.bool hg125) ?_
              refine wl_val (rn_move (by conv => lhs; whnf)) ?_
              refine wl_yes rfl (congrArg Value.bool hg125) ?_
              refine wl_call e_285 rfl (lower_ok w2 x) ?_; intro v127 w3 hE3 hR3
              replace hX := hX.tr hE3
              replace hS99 := hS99.ext hE3 (fun _ h => h.elim)
              subst hR3
              refine wl_yes rfl (congrArg Value.bool hg125) ?_
              refine wl_val (rn_leq rfl rfl) ?_
              refine wl_val (rn_pickT (congrArg Value.bool hg125) (by conv => lhs; whnf)) ?_
              refine wl_val (rn_assign (by conv => lhs; whnf)) ?_
              refine wl_nil ?_
              refine W_cond rfl (fun hc12 => ?_) (fun hc12 => ?_)
              · have q4 := of_decide_eq_true hc12
                refine W_region ?_
                refine wl_val (rn_move (by conv => lhs; whnf)) ?_
                refine wl_call e_285 rfl (lower_ok w3 x) ?_; intro v131 w4 hE4 hR4
                replace hX := hX.tr hE4
                replace hS99 := hS99.ext hE4 (fun _ h => h.elim)
                subst hR4
                refine wl_val (Rn.cast (rn_subK rfl rfl (wrapB (by omega))) (v' := .int .u8 ((lowN x - 97 : Nat) : Int)) (congrArg (Value.int .u8) (by omega))) ?_
                refine wl_val (Rn.cast (rn_addK rfl rfl (wrapB (by omega))) (v' := .int .u8 ((lowN x - 87 : Nat) : Int)) (congrArg (Value.int .u8) (by omega))) ?_
                have hdd := dig_low hnd
                generalize lowN x - 87 = d at hdd ⊢
                refine wl_val (rn_assign (by conv => lhs; whnf)) ?_
                refine wl_nil ?_
                refine W_seq ?_
                refine W_seq ?_
                refine W_region ?_
                refine wl_val (rn_move (by conv => lhs; whnf)) ?_
                refine wl_val (rn_move (by conv => lhs; whnf)) ?_
                refine wl_val (Rn.cast (rn_convert ui_3 ui_5 rfl (by decide)) (v' := .int .u8 16) rfl) ?_
                refine wl_val (rn_geq rfl rfl) ?_
                refine wl_nil ?_
                refine W_cond rfl (fun hc9 => ?_) (fun hc9 => ?_)
                · have q5 := of_decide_eq_true hc9
                  have hxd := dig_big hdd (by omega)
                  refine W_seq ?_
                  refine W_region ?_
                  refine wl_val (rn_mkIface (by kernel_rfl) rfl) ?_
                  refine wl_val (rn_assign (by conv => lhs; whnf)) ?_
                  refine wl_val (rn_assign (by conv => lhs; whnf)) ?_
                  refine wl_nil ?_
                  refine W_ret ?_
                  first | exact ⟨_, resR2 (res1_tmp rfl) (res1_tmp rfl), hX, ⟨0, _, rfl, .inr ⟨by rcases hx01 with ⟨_, e⟩ | ⟨_, e⟩; subst e; exact .inl hxd; subst e; exact .inr hxd, rfl⟩⟩⟩ | exact ⟨_, resR2 (res1_tmp rfl) (res1_tmp rfl), hX, ⟨n, _, rfl, .inl ⟨rfl, by omega, hgood⟩⟩⟩
                · have q5 := of_decide_eq_false hc9
                  have hd15 : d ≤ 15 := by omega
                  refine W_skip ?_
                  refine W_seq ?_
                  refine W_seq ?_
                  refine W_region ?_
                  refine wl_val (rn_move (by conv => lhs; whnf)) ?_
                  refine wl_val (rn_move (by conv => lhs; whnf)) ?_
                  refine wl_val (rn_geq rfl rfl) ?_
                  refine wl_nil ?_
                  refine W_cond rfl (fun hc10 => ?_) (fun hc10 => ?_)
                  · exact absurd (of_decide_eq_true hc10) (by omega)
                  · refine W_skip ?_
                    refine W_seq ?_
                    refine W_region ?_
                    refine wl_val (rn_move (by conv => lhs; whnf)) ?_
                    refine wl_val (rn_move (by conv => lhs; whnf)) ?_
                    refine wl_val (Rn.cast (rn_convert ui_3 ui_260 rfl (by decide)) (v' := .int .u64 ((16 : Nat) : Int)) rfl) ?_
                    refine wl_val (rn_mulN (b := 16) rfl rfl (wrap_u64 (by omega))) ?_
                    refine wl_val (rn_assign (by conv => lhs; whnf)) ?_
                    refine wl_nil ?_
                    refine W_seq ?_
                    refine W_region ?_
                    refine wl_val (rn_move (by conv => lhs; whnf)) ?_
                    refine wl_val (rn_move (by conv => lhs; whnf)) ?_
                    refine wl_val (rn_convert ui_5 ui_260 rfl (wrap_u64 (by omega))) ?_
                    refine wl_val (rn_addN rfl rfl (wrap_u64 (by omega))) ?_
                    refine wl_val (rn_assign (by conv => lhs; whnf)) ?_
                    refine wl_nil ?_
                    refine W_seq ?_
                    refine W_seq ?_
                    refine W_region ?_
                    refine wl_val (rn_move (by conv => lhs; whnf)) ?_
                    refine wl_val (rn_move (by conv => lhs; whnf)) ?_
                    refine wl_val (rn_lss rfl rfl) ?_
                    refine wl_val (rn_move (by conv => lhs; whnf)) ?_
                    refine wl_split (d := 155) rfl (fun hg155 => ?_) (fun hg155 => ?_)
                    · exact absurd (of_decide_eq_true hg155) (by omega)
                    · refine wl_yes rfl (congrArg Value.bool hg155) ?_
                      refine wl_val (rn_move (by conv => lhs; whnf)) ?_
                      refine wl_yes rfl (congrArg Value.bool hg155) ?_
                      refine wl_val (rn_move (by conv => lhs; whnf)) ?_
                      refine wl_yes rfl (congrArg Value.bool hg155) ?_
                      refine wl_val (rn_gtr rfl rfl) ?_
                      refine wl_val (rn_pickF (congrArg Value.bool hg155) (by conv => lhs; whnf)) ?_
                      refine wl_nil ?_
                      refine W_cond rfl (fun hc11 => ?_) (fun hc11 => ?_)
                      · exact absurd (of_decide_eq_true hc11) (by omega)
                      · refine W_skip ?_
                        refine W_region ?_
                        refine wl_val (rn_move (by conv => lhs; whnf)) ?_
                        refine wl_val (rn_assign (by conv => lhs; whnf)) ?_
                        refine wl_nil ?_
                        refine W_region ?_
                        refine wl_val (rn_add rfl rfl (by omega)) ?_
                        refine wl_val (rn_move (by conv => lhs; whnf)) ?_
                        refine wl_nil ?_
                        exact ⟨rfl, (i + 1, _), ⟨rfl, rfl, rfl, rfl, rfl, rfl, rfl, rfl, rfl, trivial⟩, ⟨hX, ⟨by omega, fun h => by omega, fun h => ⟨by have := hn0 (by omega); omega, fun ha => by have := hn0 (by omega); rcases hx01 with ⟨_, e⟩ | ⟨h2, _⟩; subst e; have := hdd ha; omega; omega⟩, fun h => ⟨by omega, fun ha hb => by have := (hn1 (by omega)).2 ha; rcases hx01 with ⟨h2, _⟩ | ⟨_, e⟩; omega; subst e; have := hdd hb; omega⟩, hS99⟩⟩, by show 2 - (i + 1) < 2 - i; have : i < 2 := hlt; omega⟩
              · have q4 := of_decide_eq_false hc12
                have hxd := dig_no hnd (by omega)
                refine W_seq ?_
                refine W_region ?_
                refine wl_val (rn_mkIface (by kernel_rfl) rfl) ?_
                refine wl_val (rn_assign (by conv => lhs; whnf)) ?_
                refine wl_val (rn_assign (by conv => lhs; whnf)) ?_
                refine wl_nil ?_
                refine W_ret ?_
                first | exact ⟨_, resR2 (res1_tmp rfl) (res1_tmp rfl), hX, ⟨0, _, rfl, .inr ⟨by rcases hx01 with ⟨_, e⟩ | ⟨_, e⟩; subst e; exact .inl hxd; subst e; exact .inr hxd, rfl⟩⟩⟩ | exact ⟨_, resR2 (res1_tmp rfl) (res1_tmp rfl), hX, ⟨n, _, rfl, .inl ⟨rfl, by omega, hgood⟩⟩⟩
            · have q3 := of_decide_eq_false hg125
              have hxd := dig_no hnd (by omega)
              refine wl_no rfl (congrArg Value.bool hg125) ?_
              refine wl_no rfl (congrArg Value.bool hg125) ?_
              refine wl_no rfl (congrArg Value.bool hg125) ?_
              refine wl_val (rn_pickF (congrArg Value.bool hg125) (by conv => lhs; whnf)) ?_
              refine wl_val (rn_assign (by conv => lhs; whnf)) ?_
              refine wl_nil ?_
              refine W_condF rfl ?_
              refine W_seq ?_
              refine W_region ?_
              refine wl_val (rn_mkIface (by kernel_rfl) rfl) ?_
              refine wl_val (rn_assign (by conv => lhs; whnf)) ?_
              refine wl_val (rn_assign (by conv => lhs; whnf)) ?_
              refine wl_nil ?_
              refine W_ret ?_
              first | exact ⟨_, resR2 (res1_tmp rfl) (res1_tmp rfl), hX, ⟨0, _, rfl, .inr ⟨by rcases hx01 with ⟨_, e⟩ | ⟨_, e⟩; subst e; exact .inl hxd; subst e; exact .inr hxd, rfl⟩⟩⟩ | exact ⟨_, resR2 (res1_tmp rfl) (res1_tmp rfl), hX, ⟨n, _, rfl, .inl ⟨rfl, by omega, hgood⟩⟩⟩
        · have q1 := of_decide_eq_false hg115
          have hnd : ¬ (48 ≤ x.toNat ∧ x.toNat ≤ 57) := by omega
          refine wl_no rfl (congrArg Value.bool hg115) ?_
          refine wl_no rfl (congrArg Value.bool hg115) ?_
          refine wl_val (rn_pickF (congrArg Value.bool hg115) (by conv => lhs; whnf)) ?_
          refine wl_val (rn_assign (by conv => lhs; whnf)) ?_
          refine wl_nil ?_
          refine W_condF rfl ?_
          refine W_seq ?_
          refine W_region ?_
          refine wl_val (rn_move (by conv => lhs; whnf)) ?_
          refine wl_call e_285 rfl (lower_ok A0 x) ?_; intro v123 w5 hE5 hR5
          replace hX := hX.tr hE5
          replace hS99 := hS99.ext hE5 (fun _ h => h.elim)
          subst hR5
          refine wl_val (rn_leq rfl rfl) ?_
          refine wl_val (rn_move (by conv => lhs; whnf)) ?_
          refine wl_split (d := 125) rfl (fun hg125 => ?_) (fun hg125 => ?_)
          · have q3 := of_decide_eq_true hg125
            refine wl_yes rfl (congrArg Value.bool hg125) ?_
            refine wl_val (rn_move (by conv => lhs; whnf)) ?_
            refine wl_yes rfl (congrArg Value.bool hg125) ?_
            refine wl_call e_285 rfl (lower_ok w5 x) ?_; intro v127 w6 hE6 hR6
            replace hX := hX.tr hE6
            replace hS99 := hS99.ext hE6 (fun _ h => h.elim)
            subst hR6
            refine wl_yes rfl (congrArg Value.bool hg125) ?_
            refine wl_val (rn_leq rfl rfl) ?_
            refine wl_val (rn_pickT (congrArg Value.bool hg125) (by conv => lhs; whnf)) ?_
            refine wl_val (rn_assign (by conv => lhs; whnf)) ?_
            refine wl_nil ?_
            refine W_cond rfl (fun hc12 => ?_) (fun hc12 => ?_)
            · have q4 := of_decide_eq_true hc12
              refine W_region ?_
              refine wl_val (rn_move (by conv => lhs; whnf)) ?_
              refine wl_call e_285 rfl (lower_ok w6 x) ?_; intro v131 w7 hE7 hR7
              replace hX := hX.tr hE7
              replace hS99 := hS99.ext hE7 (fun _ h => h.elim)
              subst hR7
              refine wl_val (Rn.cast (rn_subK rfl rfl (wrapB (by omega))) (v' := .int .u8 ((lowN x - 97 : Nat) : Int)) (congrArg (Value.int .u8) (by omega))) ?_
              refine wl_val (Rn.cast (rn_addK rfl rfl (wrapB (by omega))) (v' := .int .u8 ((lowN x - 87 : Nat) : Int)) (congrArg (Value.int .u8) (by omega))) ?_
              have hdd := dig_low hnd
              generalize lowN x - 87 = d at hdd ⊢
              refine wl_val (rn_assign (by conv => lhs; whnf)) ?_
              refine wl_nil ?_
              refine W_seq ?_
              refine W_seq ?_
              refine W_region ?_
              refine wl_val (rn_move (by conv => lhs; whnf)) ?_
              refine wl_val (rn_move (by conv => lhs; whnf)) ?_
              refine wl_val (Rn.cast (rn_convert ui_3 ui_5 rfl (by decide)) (v' := .int .u8 16) rfl) ?_
              refine wl_val (rn_geq rfl rfl) ?_
              refine wl_nil ?_
              refine W_cond rfl (fun hc9 => ?_) (fun hc9 => ?_)
              · have q5 := of_decide_eq_true hc9
                have hxd := dig_big hdd (by omega)
                refine W_seq ?_
                refine W_region ?_
                refine wl_val (rn_mkIface (by kernel_rfl) rfl) ?_
                refine wl_val (rn_assign (by conv => lhs; whnf)) ?_
                refine wl_val (rn_assign (by conv => lhs; whnf)) ?_
                refine wl_nil ?_
                refine W_ret ?_
                first | exact ⟨_, resR2 (res1_tmp rfl) (res1_tmp rfl), hX, ⟨0, _, rfl, .inr ⟨by rcases hx01 with ⟨_, e⟩ | ⟨_, e⟩; subst e; exact .inl hxd; subst e; exact .inr hxd, rfl⟩⟩⟩ | exact ⟨_, resR2 (res1_tmp rfl) (res1_tmp rfl), hX, ⟨n, _, rfl, .inl ⟨rfl, by omega, hgood⟩⟩⟩
              · have q5 := of_decide_eq_false hc9
                have hd15 : d ≤ 15 := by omega
                refine W_skip ?_
                refine W_seq ?_
                refine W_seq ?_
                refine W_region ?_
                refine wl_val (rn_move (by conv => lhs; whnf)) ?_
                refine wl_val (rn_move (by conv => lhs; whnf)) ?_
                refine wl_val (rn_geq rfl rfl) ?_
                refine wl_nil ?_
                refine W_cond rfl (fun hc10 => ?_) (fun hc10 => ?_)
                · exact absurd (of_decide_eq_true hc10) (by omega)
                · refine W_skip ?_
                  refine W_seq ?_
                  refine W_region ?_
                  refine wl_val (rn_move (by conv => lhs; whnf)) ?_
                  refine wl_val (rn_move (by conv => lhs; whnf)) ?_
                  refine wl_val (Rn.cast (rn_convert ui_3 ui_260 rfl (by decide)) (v' := .int .u64 ((16 : Nat) : Int)) rfl) ?_
                  refine wl_val (rn_mulN (b := 16) rfl rfl (wrap_u64 (by omega))) ?_
                  refine wl_val (rn_assign (by conv => lhs; whnf)) ?_
                  refine wl_nil ?_
                  refine W_seq ?_
                  refine W_region ?_
                  refine wl_val (rn_move (by conv => lhs; whnf)) ?_
                  refine wl_val (rn_move (by conv => lhs; whnf)) ?_
                  refine wl_val (rn_convert ui_5 ui_260 rfl (wrap_u64 (by omega))) ?_
                  refine wl_val (rn_addN rfl rfl (wrap_u64 (by omega))) ?_
                  refine wl_val (rn_assign (by conv => lhs; whnf)) ?_
                  refine wl_nil ?_
                  refine W_seq ?_
                  refine W_seq ?_
                  refine W_region ?_
                  refine wl_val (rn_move (by conv => lhs; whnf)) ?_
                  refine wl_val (rn_move (by conv => lhs; whnf)) ?_
                  refine wl_val (rn_lss rfl rfl) ?_
                  refine wl_val (rn_move (by conv => lhs; whnf)) ?_
                  refine wl_split (d := 155) rfl (fun hg155 => ?_) (fun hg155 => ?_)
                  · exact absurd (of_decide_eq_true hg155) (by omega)
                  · refine wl_yes rfl (congrArg Value.bool hg155) ?_
                    refine wl_val (rn_move (by conv => lhs; whnf)) ?_
                    refine wl_yes rfl (congrArg Value.bool hg155) ?_
                    refine wl_val (rn_move (by conv => lhs; whnf)) ?_
                    refine wl_yes rfl (congrArg Value.bool hg155) ?_
                    refine wl_val (rn_gtr rfl rfl) ?_
                    refine wl_val (rn_pickF (congrArg Value.bool hg155) (by conv => lhs; whnf)) ?_
                    refine wl_nil ?_
                    refine W_cond rfl (fun hc11 => ?_) (fun hc11 => ?_)
                    · exact absurd (of_decide_eq_true hc11) (by omega)
                    · refine W_skip ?_
                      refine W_region ?_
                      refine wl_val (rn_move (by conv => lhs; whnf)) ?_
                      refine wl_val (rn_assign (by conv => lhs; whnf)) ?_
                      refine wl_nil ?_
                      refine W_region ?_
                      refine wl_val (rn_add rfl rfl (by omega)) ?_
                      refine wl_val (rn_move (by conv => lhs; whnf)) ?_
                      refine wl_nil ?_
                      exact ⟨rfl, (i + 1, _), ⟨rfl, rfl, rfl, rfl, rfl, rfl, rfl, rfl, rfl, trivial⟩, ⟨hX, ⟨by omega, fun h => by omega, fun h => ⟨by have := hn0 (by omega); omega, fun ha => by have := hn0 (by omega); rcases hx01 with ⟨_, e⟩ | ⟨h2, _⟩; subst e; have := hdd ha; omega; omega⟩, fun h => ⟨by omega, fun ha hb => by have := (hn1 (by omega)).2 ha; rcases hx01 with ⟨h2, _⟩ | ⟨_, e⟩; omega; subst e; have := hdd hb; omega⟩, hS99⟩⟩, by show 2 - (i + 1) < 2 - i; have : i < 2 := hlt; omega⟩
            · have q4 := of_decide_eq_false hc12
              have hxd := dig_no hnd (by omega)
              refine W_seq ?_
              refine W_region ?_
              refine wl_val (rn_mkIface (by kernel_rfl) rfl) ?_
              refine wl_val (rn_assign (by conv => lhs; whnf)) ?_
              refine wl_val (rn_assign (by conv => lhs; whnf)) ?_
              refine wl_nil ?_
              refine W_ret ?_
              first | exact ⟨_, resR2 (res1_tmp rfl) (res1_tmp rfl), hX, ⟨0, _, rfl, .inr ⟨by rcases hx01 with ⟨_, e⟩ | ⟨_, e⟩; subst e; exact .inl hxd; subst e; exact .inr hxd, rfl⟩⟩⟩ | exact ⟨_, resR2 (res1_tmp rfl) (res1_tmp rfl), hX, ⟨n, _, rfl, .inl ⟨rfl, by omega, hgood⟩⟩⟩
          · have q3 := of_decide_eq_false hg125
            have hxd := dig_no hnd (by omega)
            refine wl_no rfl (congrArg Value.bool hg125) ?_
            refine wl_no rfl (congrArg Value.bool hg125) ?_
            refine wl_no rfl (congrArg Value.bool hg125) ?_
            refine wl_val (rn_pickF (congrArg Value.bool hg125) (by conv => lhs; whnf)) ?_
            refine wl_val (rn_assign (by conv => lhs; whnf)) ?_
            refine wl_nil ?_
            refine W_condF rfl ?_
            refine W_seq ?_
            refine W_region ?_
            refine wl_val (rn_mkIface (by kernel_rfl) rfl) ?_
            refine wl_val (rn_assign (by conv => lhs; whnf)) ?_
            refine wl_val (rn_assign (by conv => lhs; whnf)) ?_
            refine wl_nil ?_
            refine W_ret ?_
            first | exact ⟨_, resR2 (res1_tmp rfl) (res1_tmp rfl), hX, ⟨0, _, rfl, .inr ⟨by rcases hx01 with ⟨_, e⟩ | ⟨_, e⟩; subst e; exact .inl hxd; subst e; exact .inr hxd, rfl⟩⟩⟩ | exact ⟨_, resR2 (res1_tmp rfl) (res1_tmp rfl), hX, ⟨n, _, rfl, .inl ⟨rfl, by omega, hgood⟩⟩⟩
      · refine wl_no rfl (congrArg Value.bool hg109) ?_
        refine wl_val (rn_pickF (congrArg Value.bool hg109) (by conv => lhs; whnf)) ?_
        refine wl_val (rn_assign (by conv => lhs; whnf)) ?_
        refine wl_nil ?_
        refine W_condF rfl ?_
        refine W_seq ?_
        refine W_region ?_
        refine wl_val (rn_move (by conv => lhs; whnf)) ?_
        refine wl_val (rn_leq rfl rfl) ?_
        refine wl_val (rn_move (by conv => lhs; whnf)) ?_
        refine wl_split (d := 115) rfl (fun hg115 => ?_) (fun hg115 => ?_)
        · have q1 := of_decide_eq_true hg115
          refine wl_yes rfl (congrArg Value.bool hg115) ?_
          refine wl_val (rn_move (by conv => lhs; whnf)) ?_
          refine wl_yes rfl (congrArg Value.bool hg115) ?_
          refine wl_val (rn_leq rfl rfl) ?_
          refine wl_val (rn_pickT (congrArg Value.bool hg115) (by conv => lhs; whnf)) ?_
          refine wl_val (rn_assign (by conv => lhs; whnf)) ?_
          refine wl_nil ?_
          refine W_cond rfl (fun hc8 => ?_) (fun hc8 => ?_)
          · have q2 := of_decide_eq_true hc8
            have hyd : 48 ≤ x.toNat ∧ x.toNat ≤ 57 := by omega
            refine W_region ?_
            refine wl_val (rn_move (by conv => lhs; whnf)) ?_
            refine wl_val (Rn.cast (rn_subK rfl rfl (wrapB (by omega))) (v' := .int .u8 ((x.toNat - 48 : Nat) : Int)) (congrArg (Value.int .u8) (by omega))) ?_
            have hdd := dig_num hyd
            generalize x.toNat - 48 = d at hdd ⊢
            refine wl_val (rn_assign (by conv => lhs; whnf)) ?_
            refine wl_nil ?_
            refine W_seq ?_
            refine W_seq ?_
            refine W_region ?_
            refine wl_val (rn_move (by conv => lhs; whnf)) ?_
            refine wl_val (rn_move (by conv => lhs; whnf)) ?_
            refine wl_val (Rn.cast (rn_convert ui_3 ui_5 rfl (by decide)) (v' := .int .u8 16) rfl) ?_
            refine wl_val (rn_geq rfl rfl) ?_
            refine wl_nil ?_
            refine W_cond rfl (fun hc9 => ?_) (fun hc9 => ?_)
            · have q5 := of_decide_eq_true hc9
              have hxd := dig_big hdd (by omega)
              refine W_seq ?_
              refine W_region ?_
              refine wl_val (rn_mkIface (by kernel_rfl) rfl) ?_
              refine wl_val (rn_assign (by conv => lhs; whnf)) ?_
              refine wl_val (rn_assign (by conv => lhs; whnf)) ?_
              refine wl_nil ?_
              refine W_ret ?_
              first | exact ⟨_, resR2 (res1_tmp rfl) (res1_tmp rfl), hX, ⟨0, _, rfl, .inr ⟨by rcases hx01 with ⟨_, e⟩ | ⟨_, e⟩; subst e; exact .inl hxd; subst e; exact .inr hxd, rfl⟩⟩⟩ | exact ⟨_, resR2 (res1_tmp rfl) (res1_tmp rfl), hX, ⟨n, _, rfl, .inl ⟨rfl, by omega, hgood⟩⟩⟩
            · have q5 := of_decide_eq_false hc9
              have hd15 : d ≤ 15 := by omega
              refine W_skip ?_
              refine W_seq ?_
              refine W_seq ?_
              refine W_region ?_
              refine wl_val (rn_move (by conv => lhs; whnf)) ?_
              refine wl_val (rn_move (by conv => lhs; whnf)) ?_
              refine wl_val (rn_geq rfl rfl) ?_
              refine wl_nil ?_
              refine W_cond rfl (fun hc10 => ?_) (fun hc10 => ?_)
              · exact absurd (of_decide_eq_true hc10) (by omega)
              · refine W_skip ?_
                refine W_seq ?_
                refine W_region ?_
                refine wl_val (rn_move (by conv => lhs; whnf)) ?_
                refine wl_val (rn_move (by conv => lhs; whnf)) ?_
                refine wl_val (Rn.cast (rn_convert ui_3 ui_260 rfl (by decide)) (v' := .int .u64 ((16 : Nat) : Int)) rfl) ?_
                refine wl_val (rn_mulN (b := 16) rfl rfl (wrap_u64 (by omega))) ?_
                refine wl_val (rn_assign (by conv => lhs; whnf)) ?_
                refine wl_nil ?_
                refine W_seq ?_
                refine W_region ?_
                refine wl_val (rn_move (by conv => lhs; whnf)) ?_
                refine wl_val (rn_move (by conv => lhs; whnf)) ?_
                refine wl_val (rn_convert ui_5 ui_260 rfl (wrap_u64 (by omega))) ?_
                refine wl_val (rn_addN rfl rfl (wrap_u64 (by omega))) ?_
                refine wl_val (rn_assign (by conv => lhs; whnf)) ?_
                refine wl_nil ?_
                refine W_seq ?_
                refine W_seq ?_
                refine W_region ?_
                refine wl_val (rn_move (by conv => lhs; whnf)) ?_
                refine wl_val (rn_move (by conv => lhs; whnf)) ?_
                refine wl_val (rn_lss rfl rfl) ?_
                refine wl_val (rn_move (by conv => lhs; whnf)) ?_
                refine wl_split (d := 155) rfl (fun hg155 => ?_) (fun hg155 => ?_)
                · exact absurd (of_decide_eq_true hg155) (by omega)
                · refine wl_yes rfl (congrArg Value.bool hg155) ?_
                  refine wl_val (rn_move (by conv => lhs; whnf)) ?_
                  refine wl_yes rfl (congrArg Value.bool hg155) ?_
                  refine wl_val (rn_move (by conv => lhs; whnf)) ?_
                  refine wl_yes rfl (congrArg Value.bool hg155) ?_
                  refine wl_val (rn_gtr rfl rfl) ?_
                  refine wl_val (rn_pickF (congrArg Value.bool hg155) (by conv => lhs; whnf)) ?_
                  refine wl_nil ?_
                  refine W_cond rfl (fun hc11 => ?_) (fun hc11 => ?_)
                  · exact absurd (of_decide_eq_true hc11) (by omega)
                  · refine W_skip ?_
                    refine W_region ?_
                    refine wl_val (rn_move (by conv => lhs; whnf)) ?_
                    refine wl_val (rn_assign (by conv => lhs; whnf)) ?_
                    refine wl_nil ?_
                    refine W_region ?_
                    refine wl_val (rn_add rfl rfl (by omega)) ?_
                    refine wl_val (rn_move (by conv => lhs; whnf)) ?_
                    refine wl_nil ?_
                    exact ⟨rfl, (i + 1, _), ⟨rfl, rfl, rfl, rfl, rfl, rfl, rfl, rfl, rfl, trivial⟩, ⟨hX, ⟨by omega, fun h => by omega, fun h => ⟨by have := hn0 (by omega); omega, fun ha => by have := hn0 (by omega); rcases hx01 with ⟨_, e⟩ | ⟨h2, _⟩; subst e; have := hdd ha; omega; omega⟩, fun h => ⟨by omega, fun ha hb => by have := (hn1 (by omega)).2 ha; rcases hx01 with ⟨h2, _⟩ | ⟨_, e⟩; omega; subst e; have := hdd hb; omega⟩, hS99⟩⟩, by show 2 - (i + 1) < 2 - i; have : i < 2 := hlt; omega⟩
          · have q2 := of_decide_eq_false hc8
            have hnd : ¬ (48 ≤ x.toNat ∧ x.toNat ≤ 57) := by omega
            refine W_seq ?_
            refine W_region ?_
            refine wl_val (rn_move (by conv => lhs; whnf)) ?_
            refine wl_call e_285 rfl (lower_ok A0 x) ?_; intro v123 w8 hE8 hR8
            replace hX := hX.tr hE8
            replace hS99 := hS99.ext hE8 (fun _ h => h.elim)
            subst hR8
            refine wl_val (rn_leq rfl rfl) ?_
            refine wl_val (rn_move (by conv => lhs; whnf)) ?_
            refine wl_split (d := 125) rfl (fun hg125 => ?_) (fun hg125 => ?_)
            · have q3 := of_decide_eq_true hg125
              refine wl_yes rfl (congrArg Value.bool hg125) ?_
              refine wl_val (rn_move (by conv => lhs; whnf)) ?_
              refine wl_yes rfl (congrArg Value.bool hg125) ?_
              refine wl_call e_285 rfl (lower_ok w8 x) ?_; intro v127 w9 hE9 hR9
              replace hX := hX.tr hE9
              replace hS99 := hS99.ext hE9 (fun _ h => h.elim)
              subst hR9
              refine wl_yes rfl (congrArg Value.bool hg125) ?_
              refine wl_val (rn_leq rfl rfl) ?_
              refine wl_val (rn_pickT (congrArg Value.bool hg125) (by conv => lhs; whnf)) ?_
              refine wl_val (rn_assign (by conv => lhs; whnf)) ?_
              refine wl_nil ?_
              refine W_cond rfl (fun hc12 => ?_) (fun hc12 => ?_)
              · have q4 := of_decide_eq_true hc12
                refine W_region ?_
                refine wl_val (rn_move (by conv => lhs; whnf)) ?_
                refine wl_call e_285 rfl (lower_ok w9 x) ?_; intro v131 w10 hE10 hR10
                replace hX := hX.tr hE10
                replace hS99 := hS99.ext hE10 (fun _ h => h.elim)
                subst hR10
                refine wl_val (Rn.cast (rn_subK rfl rfl (wrapB (by omega))) (v' := .int .u8 ((lowN x - 97 : Nat) : Int)) (congrArg (Value.int .u8) (by omega))) ?_
                refine wl_val (Rn.cast (rn_addK rfl rfl (wrapB (by omega))) (v' := .int .u8 ((lowN x - 87 : Nat) : Int)) (congrArg (Value.int .u8) (by omega))) ?_
                have hdd := dig_low hnd
                generalize lowN x - 87 = d at hdd ⊢
                refine wl_val (rn_assign (by conv => lhs; whnf)) ?_
                refine wl_nil ?_
                refine W_seq ?_
                refine W_seq ?_
                refine W_region ?_
                refine wl_val (rn_move (by conv => lhs; whnf)) ?_
                refine wl_val (rn_move (by conv => lhs; whnf)) ?_
                refine wl_val (Rn.cast (rn_convert ui_3 ui_5 rfl (by decide)) (v' := .int .u8 16) rfl) ?_
                refine wl_val (rn_geq rfl rfl) ?_
                refine wl_nil ?_
                refine W_cond rfl (fun hc9 => ?_) (fun hc9 => ?_)
                · have q5 := of_decide_eq_true hc9
                  have hxd := dig_big hdd (by omega)
                  refine W_seq ?_
                  refine W_region ?_
                  refine wl_val (rn_mkIface (by kernel_rfl) rfl) ?_
                  refine wl_val (rn_assign (by conv => lhs; whnf)) ?_
                  refine wl_val (rn_assign (by conv => lhs; whnf)) ?_
                  refine wl_nil ?_
                  refine W_ret ?_
                  first | exact ⟨_, resR2 (res1_tmp rfl) (res1_tmp rfl), hX, ⟨0, _, rfl, .inr ⟨by rcases hx01 with ⟨_, e⟩ | ⟨_, e⟩; subst e; exact .inl hxd; subst e; exact .inr hxd, rfl⟩⟩⟩ | exact ⟨_, resR2 (res1_tmp rfl) (res1_tmp rfl), hX, ⟨n, _, rfl, .inl ⟨rfl, by omega, hgood⟩⟩⟩
                · have q5 := of_decide_eq_false hc9
                  have hd15 : d ≤ 15 := by omega
                  refine W_skip ?_
                  refine W_seq ?_
                  refine W_seq ?_
                  refine W_region ?_
                  refine wl_val (rn_move (by conv => lhs; whnf)) ?_
                  refine wl_val (rn_move (by conv => lhs; whnf)) ?_
                  refine wl_val (rn_geq rfl rfl) ?_
                  refine wl_nil ?_
                  refine W_cond rfl (fun hc10 => ?_) (fun hc10 => ?_)
                  · exact absurd (of_decide_eq_true hc10) (by omega)
                  · refine W_skip ?_
                    refine W_seq ?_
                    refine W_region ?_
                    refine wl_val (rn_move (by conv => lhs; whnf)) ?_
                    refine wl_val (rn_move (by conv => lhs; whnf)) ?_
                    refine wl_val (Rn.cast (rn_convert ui_3 ui_260 rfl (by decide)) (v' := .int .u64 ((16 : Nat) : Int)) rfl) ?_
                    refine wl_val (rn_mulN (b := 16) rfl rfl (wrap_u64 (by omega))) ?_
                    refine wl_val (rn_assign (by conv => lhs; whnf)) ?_
                    refine wl_nil ?_
                    refine W_seq ?_
                    refine W_region ?_
                    refine wl_val (rn_move (by conv => lhs; whnf)) ?_
                    refine wl_val (rn_move (by conv => lhs; whnf)) ?_
                    refine wl_val (rn_convert ui_5 ui_260 rfl (wrap_u64 (by omega))) ?_
                    refine wl_val (rn_addN rfl rfl (wrap_u64 (by omega))) ?_
                    refine wl_val (rn_assign (by conv => lhs; whnf)) ?_
                    refine wl_nil ?_
                    refine W_seq ?_
                    refine W_seq ?_
                    refine W_region ?_
                    refine wl_val (rn_move (by conv => lhs; whnf)) ?_
                    refine wl_val (rn_move (by conv => lhs; whnf)) ?_
                    refine wl_val (rn_lss rfl rfl) ?_
                    refine wl_val (rn_move (by conv => lhs; whnf)) ?_
                    refine wl_split (d := 155) rfl (fun hg155 => ?_) (fun hg155 => ?_)
                    · exact absurd (of_decide_eq_true hg155) (by omega)
                    · refine wl_yes rfl (congrArg Value.bool hg155) ?_
                      refine wl_val (rn_move (by conv => lhs; whnf)) ?_
                      refine wl_yes rfl (congrArg Value.bool hg155) ?_
                      refine wl_val (rn_move (by conv => lhs; whnf)) ?_
                      refine wl_yes rfl (congrArg Value.bool hg155) ?_
                      refine wl_val (rn_gtr rfl rfl) ?_
                      refine wl_val (rn_pickF (congrArg Value.bool hg155) (by conv => lhs; whnf)) ?_
                      refine wl_nil ?_
                      refine W_cond rfl (fun hc11 => ?_) (fun hc11 => ?_)
                      · exact absurd (of_decide_eq_true hc11) (by omega)
                      · refine W_skip ?_
                        refine W_region ?_
                        refine wl_val (rn_move (by conv => lhs; whnf)) ?_
                        refine wl_val (rn_assign (by conv => lhs; whnf)) ?_
                        refine wl_nil ?_
                        refine W_region ?_
                        refine wl_val (rn_add rfl rfl (by omega)) ?_
                        refine wl_val (rn_move (by conv => lhs; whnf)) ?_
                        refine wl_nil ?_
                        exact ⟨rfl, (i + 1, _), ⟨rfl, rfl, rfl, rfl, rfl, rfl, rfl, rfl, rfl, trivial⟩, ⟨hX, ⟨by omega, fun h => by omega, fun h => ⟨by have := hn0 (by omega); omega, fun ha => by have := hn0 (by omega); rcases hx01 with ⟨_, e⟩ | ⟨h2, _⟩; subst e; have := hdd ha; omega; omega⟩, fun h => ⟨by omega, fun ha hb => by have := (hn1 (by omega)).2 ha; rcases hx01 with ⟨h2, _⟩ | ⟨_, e⟩; omega; subst e; have := hdd hb; omega⟩, hS99⟩⟩, by show 2 - (i + 1) < 2 - i; have : i < 2 := hlt; omega⟩
              · have q4 := of_decide_eq_false hc12
                have hxd := dig_no hnd (by omega)
                refine W_seq ?_
                refine W_region ?_
                refine wl_val (rn_mkIface (by kernel_rfl) rfl) ?_
                refine wl_val (rn_assign (by conv => lhs; whnf)) ?_
                refine wl_val (rn_assign (by conv => lhs; whnf)) ?_
                refine wl_nil ?_
                refine W_ret ?_
                first | exact ⟨_, resR2 (res1_tmp rfl) (res1_tmp rfl), hX, ⟨0, _, rfl, .inr ⟨by rcases hx01 with ⟨_, e⟩ | ⟨_, e⟩; subst e; exact .inl hxd; subst e; exact .inr hxd, rfl⟩⟩⟩ | exact ⟨_, resR2 (res1_tmp rfl) (res1_tmp rfl), hX, ⟨n, _, rfl, .inl ⟨rfl, by omega, hgood⟩⟩⟩
            · have q3 := of_decide_eq_false hg125
              have hxd := dig_no hnd (by omega)
              refine wl_no rfl (congrArg Value.bool hg125) ?_
              refine wl_no rfl (congrArg Value.bool hg125) ?_
              refine wl_no rfl (congrArg Value.bool hg125) ?_
              refine wl_val (rn_pickF (congrArg Value.bool hg125) (by conv => lhs; whnf)) ?_
              refine wl_val (rn_assign (by conv => lhs; whnf)) ?_
              refine wl_nil ?_
              refine W_condF rfl ?_
              refine W_seq ?_
              refine W_region ?_
              refine wl_val (rn_mkIface (by kernel_rfl) rfl) ?_
              refine wl_val (rn_assign (by conv => lhs; whnf)) ?_
              refine wl_val (rn_assign (by conv => lhs; whnf)) ?_
              refine wl_nil ?_
              refine W_ret ?_
              first | exact ⟨_, resR2 (res1_tmp rfl) (res1_tmp rfl), hX, ⟨0, _, rfl, .inr ⟨by rcases hx01 with ⟨_, e⟩ | ⟨_, e⟩; subst e; exact .inl hxd; subst e; exact .inr hxd, rfl⟩⟩⟩ | exact ⟨_, resR2 (res1_tmp rfl) (res1_tmp rfl), hX, ⟨n, _, rfl, .inl ⟨rfl, by omega, hgood⟩⟩⟩
        · have q1 := of_decide_eq_false hg115
          have hnd : ¬ (48 ≤ x.toNat ∧ x.toNat ≤ 57) := by omega
          refine wl_no rfl (congrArg Value.bool hg115) ?_
          refine wl_no rfl (congrArg Value.bool hg115) ?_
          refine wl_val (rn_pickF (congrArg Value.bool hg115) (by conv => lhs; whnf)) ?_
          refine wl_val (rn_assign (by conv => lhs; whnf)) ?_
          refine wl_nil ?_
          refine W_condF rfl ?_
          refine W_seq ?_
          refine W_region ?_
          refine wl_val (rn_move (by conv => lhs; whnf)) ?_
          refine wl_call e_285 rfl (lower_ok A0 x) ?_; intro v123 w11 hE11 hR11
          replace hX := hX.tr hE11
          replace hS99 := hS99.ext hE11 (fun _ h => h.elim)
          subst hR11
          refine wl_val (rn_leq rfl rfl) ?_
          refine wl_val (rn_move (by conv => lhs; whnf)) ?_
          refine wl_split (d := 125) rfl (fun hg125 => ?_) (fun hg125 => ?_)
          · have q3 := of_decide_eq_true hg125
            refine wl_yes rfl (congrArg Value.bool hg125) ?_
            refine wl_val (rn_move (by conv => lhs; whnf)) ?_
            refine wl_yes rfl (congrArg Value.bool hg125) ?_
            refine wl_call e_285 rfl (lower_ok w11 x) ?_; intro v127 w12 hE12 hR12
            replace hX := hX.tr hE12
            replace hS99 := hS99.ext hE12 (fun _ h => h.elim)
            subst hR12
            refine wl_yes rfl (congrArg Value.bool hg125) ?_
            refine wl_val (rn_leq rfl rfl) ?_
            refine wl_val (rn_pickT (congrArg Value.bool hg125) (by conv => lhs; whnf)) ?_
            refine wl_val (rn_assign (by conv => lhs; whnf)) ?_
            refine wl_nil ?_
            refine W_cond rfl (fun hc12 => ?_) (fun hc12 => ?_)
            · have q4 := of_decide_eq_true hc12
              refine W_region ?_
              refine wl_val (rn_move (by conv => lhs; whnf)) ?_
              refine wl_call e_285 rfl (lower_ok w12 x) ?_; intro v131 w13 hE13 hR13
              replace hX := hX.tr hE13
              replace hS99 := hS99.ext hE13 (fun _ h => h.elim)
              subst hR13
              refine wl_val (Rn.cast (rn_subK rfl rfl (wrapB (by omega))) (v' := .int .u8 ((lowN x - 97 : Nat) : Int)) (congrArg (Value.int .u8) (by omega))) ?_
              refine wl_val (Rn.cast (rn_addK rfl rfl (wrapB (by omega))) (v' := .int .u8 ((lowN x - 87 : Nat) : Int)) (congrArg (Value.int .u8) (by omega))) ?_
              have hdd := dig_low hnd
              generalize lowN x - 87 = d at hdd ⊢
              refine wl_val (rn_assign (by conv => lhs; whnf)) ?_
              refine wl_nil ?_
              refine W_seq ?_
              refine W_seq ?_
              refine W_region ?_
              refine wl_val (rn_move (by conv => lhs; whnf)) ?_
              refine wl_val (rn_move (by conv => lhs; whnf)) ?_
              refine wl_val (Rn.cast (rn_convert ui_3 ui_5 rfl (by decide)) (v' := .int .u8 16) rfl) ?_
              refine wl_val (rn_geq rfl rfl) ?_
              refine wl_nil ?_
              refine W_cond rfl (fun hc9 => ?_) (fun hc9 => ?_)
              · have q5 := of_decide_eq_true hc9
                have hxd := dig_big hdd (by omega)
                refine W_seq ?_
                refine W_region ?_
                refine wl_val (rn_mkIface (by kernel_rfl) rfl) ?_
                refine wl_val (rn_assign (by conv => lhs; whnf)) ?_
                refine wl_val (rn_assign (by conv => lhs; whnf)) ?_
                refine wl_nil ?_
                refine W_ret ?_
                first | exact ⟨_, resR2 (res1_tmp rfl) (res1_tmp rfl), hX, ⟨0, _, rfl, .inr ⟨by rcases hx01 with ⟨_, e⟩ | ⟨_, e⟩; subst e; exact .inl hxd; subst e; exact .inr hxd, rfl⟩⟩⟩ | exact ⟨_, resR2 (res1_tmp rfl) (res1_tmp rfl), hX, ⟨n, _, rfl, .inl ⟨rfl, by omega, hgood⟩⟩⟩
              · have q5 := of_decide_eq_false hc9
                have hd15 : d ≤ 15 := by omega
                refine W_skip ?_
                refine W_seq ?_
                refine W_seq ?_
                refine W_region ?_
                refine wl_val (rn_move (by conv => lhs; whnf)) ?_
                refine wl_val (rn_move (by conv => lhs; whnf)) ?_
                refine wl_val (rn_geq rfl rfl) ?_
                refine wl_nil ?_
                refine W_cond rfl (fun hc10 => ?_) (fun hc10 => ?_)
                · exact absurd (of_decide_eq_true hc10) (by omega)
                · refine W_skip ?_
                  refine W_seq ?_
                  refine W_region ?_
                  refine wl_val (rn_move (by conv => lhs; whnf)) ?_
                  refine wl_val (rn_move (by conv => lhs; whnf)) ?_
                  refine wl_val (Rn.cast (rn_convert ui_3 ui_260 rfl (by decide)) (v' := .int .u64 ((16 : Nat) : Int)) rfl) ?_
                  refine wl_val (rn_mulN (b := 16) rfl rfl (wrap_u64 (by omega))) ?_
                  refine wl_val (rn_assign (by conv => lhs; whnf)) ?_
                  refine wl_nil ?_
                  refine W_seq ?_
                  refine W_region ?_
                  refine wl_val (rn_move (by conv => lhs; whnf)) ?_
                  refine wl_val (rn_move (by conv => lhs; whnf)) ?_
                  refine wl_val (rn_convert ui_5 ui_260 rfl (wrap_u64 (by omega))) ?_
                  refine wl_val (rn_addN rfl rfl (wrap_u64 (by omega))) ?_
                  refine wl_val (rn_assign (by conv => lhs; whnf)) ?_
                  refine wl_nil ?_
                  refine W_seq ?_
                  refine W_seq ?_
                  refine W_region ?_
                  refine wl_val (rn_move (by conv => lhs; whnf)) ?_
                  refine wl_val (rn_move (by conv => lhs; whnf)) ?_
                  refine wl_val (rn_lss rfl rfl) ?_
                  refine wl_val (rn_move (by conv => lhs; whnf)) ?_
                  refine wl_split (d := 155) rfl (fun hg155 => ?_) (fun hg155 => ?_)
                  · exact absurd (of_decide_eq_true hg155) (by omega)
                  · refine wl_yes rfl (congrArg Value.bool hg155) ?_
                    refine wl_val (rn_move (by conv => lhs; whnf)) ?_
                    refine wl_yes rfl (congrArg Value.bool hg155) ?_
                    refine wl_val (rn_move (by conv => lhs; whnf)) ?_
                    refine wl_yes rfl (congrArg Value.bool hg155) ?_
                    refine wl_val (rn_gtr rfl rfl) ?_
                    refine wl_val (rn_pickF (congrArg Value.bool hg155) (by conv => lhs; whnf)) ?_
                    refine wl_nil ?_
                    refine W_cond rfl (fun hc11 => ?_) (fun hc11 => ?_)
                    · exact absurd (of_decide_eq_true hc11) (by omega)
                    · refine W_skip ?_
                      refine W_region ?_
                      refine wl_val (rn_move (by conv => lhs; whnf)) ?_
                      refine wl_val (rn_assign (by conv => lhs; whnf)) ?_
                      refine wl_nil ?_
                      refine W_region ?_
                      refine wl_val (rn_add rfl rfl (by omega)) ?_
                      refine wl_val (rn_move (by conv => lhs; whnf)) ?_
                      refine wl_nil ?_
                      exact ⟨rfl, (i + 1, _), ⟨rfl, rfl, rfl, rfl, rfl, rfl, rfl, rfl, rfl, trivial⟩, ⟨hX, ⟨by omega, fun h => by omega, fun h => ⟨by have := hn0 (by omega); omega, fun ha => by have := hn0 (by omega); rcases hx01 with ⟨_, e⟩ | ⟨h2, _⟩; subst e; have := hdd ha; omega; omega⟩, fun h => ⟨by omega, fun ha hb => by have := (hn1 (by omega)).2 ha; rcases hx01 with ⟨h2, _⟩ | ⟨_, e⟩; omega; subst e; have := hdd hb; omega⟩, hS99⟩⟩, by show 2 - (i + 1) < 2 - i; have : i < 2 := hlt; omega⟩
            · have q4 := of_decide_eq_false hc12
              have hxd := dig_no hnd (by omega)
              refine W_seq ?_
              refine W_region ?_
              refine wl_val (rn_mkIface (by kernel_rfl) rfl) ?_
              refine wl_val (rn_assign (by conv => lhs; whnf)) ?_
              refine wl_val (rn_assign (by conv => lhs; whnf)) ?_
              refine wl_nil ?_
              refine W_ret ?_
              first | exact ⟨_, resR2 (res1_tmp rfl) (res1_tmp rfl), hX, ⟨0, _, rfl, .inr ⟨by rcases hx01 with ⟨_, e⟩ | ⟨_, e⟩; subst e; exact .inl hxd; subst e; exact .inr hxd, rfl⟩⟩⟩ | exact ⟨_, resR2 (res1_tmp rfl) (res1_tmp rfl), hX, ⟨n, _, rfl, .inl ⟨rfl, by omega, hgood⟩⟩⟩
          · have q3 := of_decide_eq_false hg125
            have hxd := dig_no hnd (by omega)
            refine wl_no rfl (congrArg Value.bool hg125) ?_
            refine wl_no rfl (congrArg Value.bool hg125) ?_
            refine wl_no rfl (congrArg Value.bool hg125) ?_
            refine wl_val (rn_pickF (congrArg Value.bool hg125) (by conv => lhs; whnf)) ?_
            refine wl_val (rn_assign (by conv => lhs; whnf)) ?_
            refine wl_nil ?_
            refine W_condF rfl ?_
            refine W_seq ?_
            refine W_region ?_
            refine wl_val (rn_mkIface (by kernel_rfl) rfl) ?_
            refine wl_val (rn_assign (by conv => lhs; whnf)) ?_
            refine wl_val (rn_assign (by conv => lhs; whnf)) ?_
            refine wl_nil ?_
            refine W_ret ?_
            first | exact ⟨_, resR2 (res1_tmp rfl) (res1_tmp rfl), hX, ⟨0, _, rfl, .inr ⟨by rcases hx01 with ⟨_, e⟩ | ⟨_, e⟩; subst e; exact .inl hxd; subst e; exact .inr hxd, rfl⟩⟩⟩ | exact ⟨_, resR2 (res1_tmp rfl) (res1_tmp rfl), hX, ⟨n, _, rfl, .inl ⟨rfl, by omega, hgood⟩⟩⟩
    · have hge := of_decide_eq_false hc6; simp only [Int.ofNat_lt, Nat.not_lt] at hge
      have hi2 : i = 2 := by have : 2 ≤ i := hge; omega
      obtain ⟨hn255, hgood⟩ := hn2 hi2
      refine W_exit ?_   -- exit 3
      refine W_seq ?_
      refine W_seq ?_
      refine W_region ?_
      refine wl_val (rn_move (by conv => lhs; whnf)) ?_
      refine wl_val (rn_move (by conv => lhs; whnf)) ?_
      refine wl_no rfl rfl ?_
      refine wl_no rfl rfl ?_
      refine wl_no rfl rfl ?_
      refine wl_val (rn_pickF rfl (by conv => lhs; whnf)) ?_
      refine wl_nil ?_
      refine W_condF rfl ?_
      refine W_skip ?_
      refine W_seq ?_
      refine W_region ?_
      refine wl_val (rn_move (by conv => lhs; whnf)) ?_
      refine wl_val (rn_assign (by conv => lhs; whnf)) ?_
      refine wl_val (rn_assign (by conv => lhs; whnf)) ?_
      refine wl_nil ?_
      refine W_ret ?_
      first | exact ⟨_, resR2 (res1_tmp rfl) (res1_tmp rfl), hX, ⟨0, _, rfl, .inr ⟨by rcases hx01 with ⟨_, e⟩ | ⟨_, e⟩; subst e; exact .inl hxd; subst e; exact .inr hxd, rfl⟩⟩⟩ | exact ⟨_, resR2 (res1_tmp rfl) (res1_tmp rfl), hX, ⟨n, _, rfl, .inl ⟨rfl, by omega, hgood⟩⟩⟩
-- strconv.ParseUint
theorem parseU_ok (w : World) (a b : UInt8) (hS : ErrS w) : Fn Tryz.prog 268 #[Sv [a, b], .int .i64 16, .int .i64 8] w fun u w' => ∃ (n : Nat) (e : Value), u = .tuple #[.int .u64 (n : Nat), e] ∧ PU a b n e := by
  have hX := Ext.refl Non w
  refine fn_of_W (args := [_, _, _]) Tryz.func268 rfl (by kernel_rfl) rfl ?_
  refine W_seq ?_
  refine W_region ?_
  refine wl_val (rn_assign (by conv => lhs; whnf)) ?_
  refine wl_val (rn_assign (by conv => lhs; whnf)) ?_
  refine wl_nil ?_
  refine W_seq ?_
  refine W_region ?_
  refine wl_val (rn_move (by conv => lhs; whnf)) ?_
  refine wl_val (rn_move (by conv => lhs; whnf)) ?_
  refine wl_val (rn_move (by conv => lhs; whnf)) ?_
  refine wl_call e_278 rfl (iparseU_ok w a b) ?_; intro v14 w1 hE1 hR1
  replace hX := hX.tr hE1
  replace hS := hS.non hE1
  obtain ⟨n, e, rfl, hP⟩ := hR1
  have hie : IsE e := by rcases hP with ⟨h, _⟩ | ⟨_, h⟩; exact .inl h; exact .inr ⟨_, _, h⟩
  refine wl_val (rn_move (by conv => lhs; whnf)) ?_
  refine wl_val (rn_extract rfl rfl) ?_
  refine wl_val (rn_extract rfl rfl) ?_
  refine wl_val (rn_assign (by conv => lhs; whnf)) ?_
  refine wl_val (rn_assign (by conv => lhs; whnf)) ?_
  refine wl_nil ?_
  refine W_seq ?_
  refine W_seq ?_
  refine W_region ?_
  refine wl_val (rn_move (by conv => lhs; whnf)) ?_
  refine wl_val (rn_errQ (by kernel_rfl) rfl hie) ?_
  refine wl_nil ?_
  refine W_cond rfl (fun hc0 => ?_) (fun hc0 => ?_)
  · have hc0 : isErr e = true := hc0
    have hbad : (dig a = 16 ∨ dig b = 16) ∧ e = .iface 317 (.int .i64 2) := by rcases hP with ⟨h, _⟩ | h; subst h; cases hc0; exact h
    obtain ⟨hbad, rfl⟩ := hbad
    refine W_seq ?_
    refine W_region ?_
    refine wl_val (rn_move (by conv => lhs; whnf)) ?_
    refine wl_val (rn_move (by conv => lhs; whnf)) ?_
    refine wl_val (rn_move (by conv => lhs; whnf)) ?_
    refine wl_val (rn_move (by conv => lhs; whnf)) ?_
    refine wl_val (rn_move (by conv => lhs; whnf)) ?_
    refine wl_call e_239 rfl (toError_ok w1 _ [a, b] 16 8 (Nat.le_of_ble_eq_true rfl) hS) ?_; intro v24 w2 hE2 hR2
    replace hX := hX.tr hE2
    replace hS := hS.non hE2
    obtain ⟨t24, z24, rfl⟩ := hR2
    refine wl_val (rn_assign (by conv => lhs; whnf)) ?_
    refine wl_val (rn_assign (by conv => lhs; whnf)) ?_
    refine wl_nil ?_
    refine W_ret ?_
    exact ⟨_, resR2 (res1_tmp rfl) (res1_tmp rfl), hX, ⟨n, _, rfl, .inr ⟨hbad, _, _, rfl⟩⟩⟩
  · have hc0 : isErr e = false := hc0
    have hok : e = .nilIface ∧ n < 256 ∧ (dig a ≠ 16 → dig b ≠ 16 → n = dig a * 16 + dig b) := by rcases hP with h | ⟨_, h⟩; exact h; subst h; cases hc0
    obtain ⟨rfl, hok⟩ := hok
    refine W_skip ?_
    refine W_seq ?_
    refine W_region ?_
    refine wl_val (rn_move (by conv => lhs; whnf)) ?_
    refine wl_val (rn_assign (by conv => lhs; whnf)) ?_
    refine wl_val (rn_assign (by conv => lhs; whnf)) ?_
    refine wl_nil ?_
    refine W_ret ?_
    exact ⟨_, resR2 (res1_tmp rfl) (res1_tmp rfl), hX, ⟨n, _, rfl, .inl ⟨rfl, hok⟩⟩⟩
end Go.Proofs.YthcclgoidchkdaaGreatDoorC

/- The text of a word: the program's and the document's. -/
set_option linter.unusedVariables false
set_option linter.unusedSimpArgs false
set_option maxRecDepth 100000
namespace Go.Proofs.YthcclgoidchkdaaGreatDoorC
open Go.RowKit
theorem drop_at {s : Str} {i : Nat} {c : UInt8} (h : s[i]? = some c) : s.drop i = c :: s.drop (i + 1) := by
  obtain ⟨h1, h2⟩ := List.getElem?_eq_some_iff.1 h
  rw [List.drop_eq_getElem_cons h1, h2]
theorem two_at {s : Str} {i : Nat} {a b : UInt8} (h : s[i]? = some a) (h2 : s[i + 1]? = some b) : (s.drop i).take (i + 2 - i) = [a, b] := by
  rw [drop_at h, drop_at h2, Nat.add_sub_cancel_left]; rfl
theorem unL_short {s : Str} {i : Nat} (h : s[i]? = some 37) (hl : s.length ≤ i + 2) : unL (s.drop i) = none := by
  rw [drop_at h]
  have h1 : (s.drop (i + 1)).length ≤ 1 := by rw [List.length_drop]; omega
  unfold unL
  rw [if_neg (by decide), if_neg (by decide)]
  rcases hd : s.drop (i + 1) with _ | ⟨x, _ | ⟨y, t⟩⟩
  · rfl
  · rfl
  · rw [hd] at h1; simp at h1
theorem unL_three {s : Str} {i : Nat} {a b : UInt8} (h : s[i]? = some 37) (ha : s[i + 1]? = some a) (hb : s[i + 2]? = some b) : unL (s.drop i) = if dig a = 16 ∨ dig b = 16 then none else if plainC (numC a b) = true then none else (unL (s.drop (i + 3))).map (numC a b :: ·) := by
  rw [drop_at h, drop_at ha, drop_at hb, unL_mark]
theorem unR_ne {s : Str} (h0 : ¬ s = [37]) (h1 : ¬ s = []) : unR s = unL s := by unfold unR; rw [if_neg h0, if_neg h1]
theorem unL_cons {c : UInt8} {r q : Str} (hc : ¬ c = 37) (h : unL (c :: r) = some q) : ∃ q', unL r = some q' ∧ q = c :: q' := by
  unfold unL at h
  split at h
  · cases h
  · rw [Option.map_eq_some_iff] at h
    obtain ⟨t, h1, h2⟩ := h
    exact ⟨t, h1, h2.symm⟩
theorem un_three {a b : UInt8} {n : Nat} {r q t l : Str} (hg : dig a ≠ 16 → dig b ≠ 16 → n = dig a * 16 + dig b) (h : (if dig a = 16 ∨ dig b = 16 then none else if plainC (numC a b) = true then none else (unL r).map (numC a b :: ·)) = some q) (ht : t = l ++ q) : ∃ q2, unL r = some q2 ∧ t = (l ++ [UInt8.ofNat n]) ++ q2 := by
  split at h
  · cases h
  · rename_i h1
    split at h
    · cases h
    · rw [Option.map_eq_some_iff] at h
      obtain ⟨q2, h2, h3⟩ := h
      refine ⟨q2, h2, ?_⟩
      rw [ht, ← h3, hg (fun e => h1 (.inl e)) (fun e => h1 (.inr e))]
      simp [numC]
theorem c37 {c : UInt8} (h : (c.toNat : Int) = 37) : c = 37 := UInt8.toNat_inj.1 (by have : (37 : UInt8).toNat = 37 := rfl; omega)
theorem c37n {c : UInt8} (h : ¬ (c.toNat : Int) = 37) : ¬ c = 37 := fun e => h (by rw [e]; rfl)
-- bellman/op.Unword
set_option maxHeartbeats 3200000 in
theorem ounword_ok (w : World) (s : Str) (hn : s.length ≤ 4000) (hS : ErrS w) : Fn Tryz.prog 241 #[Sv s] w fun u w' => u = .tuple #[Sv ((unR s).getD []), .bool (unR s).isSome] := by
  have hS2 := hS.two
  have hX := Ext.refl Non w
  refine fn_of_W (args := [_]) Tryz.func241 rfl (by kernel_rfl) rfl ?_
  refine W_seq ?_
  refine W_region ?_
  refine wl_val (rn_assign (by conv => lhs; whnf)) ?_
  refine wl_val (rn_assign (by conv => lhs; whnf)) ?_
  refine wl_nil ?_
  refine W_seq ?_
  refine W_seq ?_
  refine W_region ?_
  refine wl_val (rn_move (by conv => lhs; whnf)) ?_
  refine wl_val (rn_seql rfl rfl) ?_
  refine wl_nil ?_
  refine W_cond rfl (fun hc0 => ?_) (fun hc0 => ?_)
  · refine W_seq ?_
    refine W_region ?_
    refine wl_val (rn_assign (by conv => lhs; whnf)) ?_
    refine wl_val (rn_assign (by conv => lhs; whnf)) ?_
    refine wl_nil ?_
    refine W_ret ?_
    first | exact ⟨_, resR2 (res1_tmp rfl) (res1_tmp rfl), hX, by rw [show s = [37] from of_decide_eq_true hc0]; rfl⟩ | exact ⟨_, resR2 (res1_tmp rfl) (res1_tmp rfl), hX, by rw [hnone]; rfl⟩ | exact ⟨_, resR2 (res1_tmp rfl) (res1_tmp rfl), hX, by rw [hyes]; rfl⟩
  · have h37 : ¬ s = [37] := of_decide_eq_false hc0
    refine W_skip ?_
    refine W_seq ?_
    refine W_region ?_
    refine wl_allocT z_166 ?_; intro b4 w1 hb4 hE1 hZ4
    have hq4 : w.heap.size ≤ b4 := Nat.le_trans hX.size hb4
    have hL := Bld.fresh hZ4
    replace hX := hX.tr hE1
    replace hS := hS.non hE1
    refine wl_nil ?_
    refine W_seq ?_
    refine W_seq ?_
    refine W_region ?_
    refine wl_val (rn_assign (by conv => lhs; whnf)) ?_
    refine wl_nil ?_
    refine W_block ?_   -- block 0
    refine W_loopS (S := Nat × Value × Option Nat × Str) [0, 4, 5] (fun ⟨i, vb, ob, l⟩ => [Sv s, .pointer (some ⟨b4, 0, none⟩), .int .i64 (i : Nat)]) (fun ⟨i, vb, ob, l⟩ A => (Ext Non w A) ∧ (i ≤ s.length ∧ l.length ≤ i ∧ Bld A b4 vb ob l ∧ (∀ j, ob = some j → w.heap.size ≤ j) ∧ ErrS A ∧ ∀ t, unL s = some t → ∃ q, unL (s.drop i) = some q ∧ t = l ++ q)) (fun ⟨i, vb, ob, l⟩ => s.length - i) (0, .slice none 0 0, none, []) ⟨rfl, rfl, rfl, trivial⟩ ⟨hX, ⟨Nat.zero_le _, Nat.le_refl _, hL, (fun j h => by cases h), hS, fun t ht => ⟨t, ht, rfl⟩⟩⟩ ?_
    rintro τ0 ⟨i, vb, ob, l⟩ A0 ⟨hX, hI0⟩
    obtain ⟨hI, hll, hL, ho, hS, hU⟩ := hI0
    have hfl : unL (s.drop i) = none → unR s = none := fun h => by (cases hr : unR s with | none => rfl | some t => (have hs0 : ¬ s = [] := fun e => by rw [e] at hr; cases hr); rw [unR_ne h37 hs0] at hr; obtain ⟨q, h1, _⟩ := hU t hr; rw [h] at h1; cases h1)
    refine W_seq ?_
    refine W_seq ?_
    refine W_region ?_
    refine wl_val (rn_move (by conv => lhs; whnf)) ?_
    refine wl_val (rn_move (by conv => lhs; whnf)) ?_
    refine wl_val (rn_slen us_9 rfl) ?_
    refine wl_val (rn_lss rfl rfl) ?_
    refine wl_nil ?_
    refine W_cond rfl (fun hc1 => ?_) (fun hc1 => ?_)
    · have hlt := of_decide_eq_true hc1; simp only [Int.ofNat_lt] at hlt
      obtain ⟨c, hcc⟩ : ∃ c, (s)[i]? = some c := ⟨_, List.getElem?_eq_getElem hlt⟩
      have hx8 := c.toNat_lt
      have hdr := drop_at hcc
      refine W_skip ?_
      refine W_seq ?_
      refine W_block ?_   -- block 1
      refine W_seq ?_
      refine W_seq ?_
      refine W_region ?_
      refine wl_val (rn_move (by conv => lhs; whnf)) ?_
      refine wl_val (rn_move (by conv => lhs; whnf)) ?_
      refine wl_val (rn_sindex us_9 rfl rfl (by omega) hcc) ?_
      refine wl_val (rn_neq rfl rfl) ?_
      refine wl_nil ?_
      refine W_cond rfl (fun hc2 => ?_) (fun hc2 => ?_)
      · have q3 := c37n (of_decide_eq_true hc2)
        refine W_seq ?_
        refine W_region ?_
        refine wl_val (rn_move (by conv => lhs; whnf)) ?_
        refine wl_val (rn_move (by conv => lhs; whnf)) ?_
        refine wl_val (rn_sindex us_9 rfl rfl (by omega) hcc) ?_
        have hXo := hX
        refine wl_callM e_143 rfl (writeByte_ok A0 b4 _ (c) hL (by omega)) ?_; rintro v24 w2 hE2 ⟨rfl, vb24, ob24, hL, hf24⟩
        replace hX := hX.own2 hE2 (fun i h => by rcases h with h | h; exact .inr (by omega); exact .inr (ho i h))
        replace hS := hS.ext hE2 (B := w.heap.size) (fun i h => by rcases h with h | h; omega; exact ho i h) hS2
        replace ho : ∀ j, ob24 = some j → w.heap.size ≤ j := fun j hj => by rcases hf24 j hj with h | h; exact ho j h; exact Nat.le_trans hXo.size h
        refine wl_nil ?_
        refine W_exit ?_   -- exit 1
        refine W_region ?_
        refine wl_val (rn_move (by conv => lhs; whnf)) ?_
        refine wl_val (rn_add rfl rfl (by omega)) ?_
        refine wl_val (rn_assign (by conv => lhs; whnf)) ?_
        refine wl_nil ?_
        exact ⟨rfl, (i + 1, _, _, l ++ [c]), ⟨rfl, rfl, rfl, trivial⟩, ⟨hX, ⟨hlt, by simp only [List.length_append, List.length_cons, List.length_nil]; omega, hL, ho, hS, fun t ht => by obtain ⟨q, h1, h2⟩ := hU t ht; rw [hdr] at h1; obtain ⟨q2, h4, h5⟩ := unL_cons q3 h1; exact ⟨q2, h4, by rw [h2, h5]; simp⟩⟩⟩, by show s.length - (i + 1) < s.length - i; omega⟩
      · have q3 := of_decide_eq_false hc2
        obtain rfl : c = 37 := c37 (by simpa using q3)
        refine W_skip ?_
        refine W_seq ?_
        refine W_seq ?_
        refine W_region ?_
        refine wl_val (rn_move (by conv => lhs; whnf)) ?_
        refine wl_val (rn_add rfl rfl (by omega)) ?_
        refine wl_val (rn_move (by conv => lhs; whnf)) ?_
        refine wl_val (rn_slen us_9 rfl) ?_
        refine wl_val (rn_geq rfl rfl) ?_
        refine wl_nil ?_
        refine W_cond rfl (fun hc3 => ?_) (fun hc3 => ?_)
        · have q4 := of_decide_eq_true hc3
          have hnone := hfl (unL_short hcc (by omega))
          refine W_seq ?_
          refine W_region ?_
          refine wl_val (rn_assign (by conv => lhs; whnf)) ?_
          refine wl_val (rn_assign (by conv => lhs; whnf)) ?_
          refine wl_nil ?_
          refine W_ret ?_
          first | exact ⟨_, resR2 (res1_tmp rfl) (res1_tmp rfl), hX, by rw [show s = [37] from of_decide_eq_true hc0]; rfl⟩ | exact ⟨_, resR2 (res1_tmp rfl) (res1_tmp rfl), hX, by rw [hnone]; rfl⟩ | exact ⟨_, resR2 (res1_tmp rfl) (res1_tmp rfl), hX, by rw [hyes]; rfl⟩
        · have q4 := of_decide_eq_false hc3
          obtain ⟨a, ha⟩ : ∃ a, s[i + 1]? = some a := ⟨_, List.getElem?_eq_getElem (by omega)⟩
          obtain ⟨b, hb⟩ : ∃ b, s[i + 2]? = some b := ⟨_, List.getElem?_eq_getElem (by omega)⟩
          have h3 := unL_three hcc ha hb
          refine W_skip ?_
          refine W_seq ?_
          refine W_region ?_
          refine wl_val (rn_move (by conv => lhs; whnf)) ?_
          refine wl_val (rn_move (by conv => lhs; whnf)) ?_
          refine wl_val (Rn.cast (rn_add rfl rfl (by omega)) (v' := .int .i64 ((i + 1 : Nat) : Int)) rfl) ?_
          refine wl_val (rn_move (by conv => lhs; whnf)) ?_
          refine wl_val (Rn.cast (rn_add rfl rfl (by omega)) (v' := .int .i64 ((i + 3 : Nat) : Int)) rfl) ?_
          refine wl_val (Rn.cast (rn_sslice us_9 (l := i + 1) (h := i + 1 + 2) rfl ⟨_, rfl⟩ ⟨_, rfl⟩ (by omega) (by omega)) (v' := Sv [a, b]) (congrArg Sv (two_at ha hb))) ?_
          refine wl_call e_268 rfl (parseU_ok A0 a b hS) ?_; intro v37 w3 hE3 hR3
          replace hX := hX.tr hE3
          replace hL := hL.ext hE3 id (fun _ _ h => h)
          replace hS := hS.non hE3
          obtain ⟨n, e, rfl, hP⟩ := hR3
          refine wl_val (rn_move (by conv => lhs; whnf)) ?_
          refine wl_val (rn_extract rfl rfl) ?_
          refine wl_val (rn_extract rfl rfl) ?_
          refine wl_val (rn_assign (by conv => lhs; whnf)) ?_
          refine wl_val (rn_assign (by conv => lhs; whnf)) ?_
          refine wl_nil ?_
          refine W_seq ?_
          refine W_seq ?_
          refine W_region ?_
          refine wl_val (rn_move (by conv => lhs; whnf)) ?_
          refine wl_val (rn_errQ (by kernel_rfl) rfl hP.is) ?_
          refine wl_nil ?_
          refine W_cond rfl (fun hc4 => ?_) (fun hc4 => ?_)
          · have hc4 : isErr e = true := hc4
            have hbad : dig a = 16 ∨ dig b = 16 := by rcases hP with ⟨h, _⟩ | ⟨h, _⟩; subst h; cases hc4; exact h
            have hnone := hfl (by rw [h3, if_pos hbad])
            refine W_seq ?_
            refine W_region ?_
            refine wl_val (rn_assign (by conv => lhs; whnf)) ?_
            refine wl_val (rn_assign (by conv => lhs; whnf)) ?_
            refine wl_nil ?_
            refine W_ret ?_
            first | exact ⟨_, resR2 (res1_tmp rfl) (res1_tmp rfl), hX, by rw [show s = [37] from of_decide_eq_true hc0]; rfl⟩ | exact ⟨_, resR2 (res1_tmp rfl) (res1_tmp rfl), hX, by rw [hnone]; rfl⟩ | exact ⟨_, resR2 (res1_tmp rfl) (res1_tmp rfl), hX, by rw [hyes]; rfl⟩
          · have hc4 : isErr e = false := hc4
            have hok : n < 256 ∧ (dig a ≠ 16 → dig b ≠ 16 → n = dig a * 16 + dig b) := by rcases hP with ⟨_, h⟩ | ⟨_, s2, z2, h⟩; exact h; subst h; cases hc4
            obtain ⟨hn256, hgood⟩ := hok
            have hcn : (UInt8.ofNat n).toNat = n := by simp; omega
            refine W_skip ?_
            refine W_seq ?_
            refine W_region ?_
            refine wl_val (rn_move (by conv => lhs; whnf)) ?_
            refine wl_val (Rn.cast (rn_convert ui_260 ui_5 rfl (wrapB (by omega))) (v' := .int .u8 (UInt8.ofNat n).toNat) (congrArg (Value.int .u8) (by rw [hcn]))) ?_
            have hXo := hX
            refine wl_callM e_143 rfl (writeByte_ok w3 b4 _ (UInt8.ofNat n) hL (by omega)) ?_; rintro v44 w4 hE4 ⟨rfl, vb44, ob44, hL, hf44⟩
            replace hX := hX.own2 hE4 (fun i h => by rcases h with h | h; exact .inr (by omega); exact .inr (ho i h))
            replace hS := hS.ext hE4 (B := w.heap.size) (fun i h => by rcases h with h | h; omega; exact ho i h) hS2
            replace ho : ∀ j, ob44 = some j → w.heap.size ≤ j := fun j hj => by rcases hf44 j hj with h | h; exact ho j h; exact Nat.le_trans hXo.size h
            refine wl_nil ?_
            refine W_region ?_
            refine wl_val (rn_move (by conv => lhs; whnf)) ?_
            refine wl_val (Rn.cast (rn_add rfl rfl (by omega)) (v' := .int .i64 ((i + 2 : Nat) : Int)) rfl) ?_
            refine wl_val (rn_assign (by conv => lhs; whnf)) ?_
            refine wl_nil ?_
            refine W_region ?_
            refine wl_val (rn_move (by conv => lhs; whnf)) ?_
            refine wl_val (rn_add rfl rfl (by omega)) ?_
            refine wl_val (rn_assign (by conv => lhs; whnf)) ?_
            refine wl_nil ?_
            exact ⟨rfl, (i + 3, _, _, l ++ [UInt8.ofNat n]), ⟨rfl, rfl, rfl, trivial⟩, ⟨hX, ⟨by omega, by simp only [List.length_append, List.length_cons, List.length_nil]; omega, hL, ho, hS, fun t ht => by obtain ⟨q, h1, h2⟩ := hU t ht; rw [h3] at h1; exact un_three hgood h1 h2⟩⟩, by show s.length - (i + 3) < s.length - i; omega⟩
    · have hge := of_decide_eq_false hc1; simp only [Int.ofNat_lt, Nat.not_lt] at hge
      have hres : ∀ t, unR s = some t → t = l := fun t ht => by (have hs0 : ¬ s = [] := fun e => by rw [e] at ht; cases ht); rw [unR_ne h37 hs0] at ht; obtain ⟨q, h1, h2⟩ := hU t ht; rw [List.drop_of_length_le hge] at h1; simp only [unL, Option.some.injEq] at h1; rw [h2, ← h1, List.append_nil]
      refine W_exit ?_   -- exit 0
      refine W_seq ?_
      refine W_region ?_
      refine wl_callM e_95 rfl (bstring_ok A0 b4 (B := w.heap.size) hL hq4 ho) ?_; rintro v47 w5 hE5 rfl
      replace hX := hX.own2 hE5 (fun i h => .inr h)
      replace hS := hS.ext hE5 (B := w.heap.size) (fun i h => h) hS2
      refine wl_val (rn_assign (by conv => lhs; whnf)) ?_
      refine wl_nil ?_
      refine W_seq ?_
      refine W_seq ?_
      refine W_region ?_
      refine wl_val (rn_move (by conv => lhs; whnf)) ?_
      refine wl_call e_92 rfl (oword_ok w5 l (by omega)) ?_; intro v49 w6 hE6 hR6
      replace hX := hX.tr hE6
      replace hS := hS.non hE6
      subst hR6
      refine wl_val (rn_move (by conv => lhs; whnf)) ?_
      refine wl_val (rn_sneq rfl rfl) ?_
      refine wl_nil ?_
      refine W_cond rfl (fun hc5 => ?_) (fun hc5 => ?_)
      · have q5 := of_decide_eq_true hc5
        have hnone : unR s = none := by cases hr : unR s with | none => rfl | some t => have := word_unR hr; rw [hres t hr] at this; exact absurd this q5
        refine W_seq ?_
        refine W_region ?_
        refine wl_val (rn_assign (by conv => lhs; whnf)) ?_
        refine wl_val (rn_assign (by conv => lhs; whnf)) ?_
        refine wl_nil ?_
        refine W_ret ?_
        first | exact ⟨_, resR2 (res1_tmp rfl) (res1_tmp rfl), hX, by rw [show s = [37] from of_decide_eq_true hc0]; rfl⟩ | exact ⟨_, resR2 (res1_tmp rfl) (res1_tmp rfl), hX, by rw [hnone]; rfl⟩ | exact ⟨_, resR2 (res1_tmp rfl) (res1_tmp rfl), hX, by rw [hyes]; rfl⟩
      · have q5 : wordR l = s := by simpa using of_decide_eq_false hc5
        have hyes : unR s = some l := (unR_iff s l).2 q5
        refine W_skip ?_
        refine W_seq ?_
        refine W_region ?_
        refine wl_val (rn_move (by conv => lhs; whnf)) ?_
        refine wl_val (rn_assign (by conv => lhs; whnf)) ?_
        refine wl_val (rn_assign (by conv => lhs; whnf)) ?_
        refine wl_nil ?_
        refine W_ret ?_
        first | exact ⟨_, resR2 (res1_tmp rfl) (res1_tmp rfl), hX, by rw [show s = [37] from of_decide_eq_true hc0]; rfl⟩ | exact ⟨_, resR2 (res1_tmp rfl) (res1_tmp rfl), hX, by rw [hnone]; rfl⟩ | exact ⟨_, resR2 (res1_tmp rfl) (res1_tmp rfl), hX, by rw [hyes]; rfl⟩
end Go.Proofs.YthcclgoidchkdaaGreatDoorC

/- Operations as lines: the program's and the document's. -/
set_option linter.unusedVariables false
set_option linter.unusedSimpArgs false
set_option maxRecDepth 100000
namespace Go.Proofs.YthcclgoidchkdaaGreatDoorC
open Go.RowKit Go.Shelf
theorem op_eqs (x y : OpD) : EqS Tryz.prog 2 69 (.agg x.enc.toArray) (.agg y.enc.toArray) (decide (x = y)) := by
  have h := eqs_struct (P := Tryz.prog) (t := 69) (m := 1) (xs := x.enc.toArray) (ys := y.enc.toArray) (by kernel_rfl) sh_69 fs_69
    (EqF.cons rfl (part_1 p_3 rfl) (part_1 p_3 rfl) (eqs_int ui_3) (EqF.cons rfl (part_1 p_3 rfl) (part_1 p_3 rfl) (eqs_int ui_3) (EqF.cons rfl (part_1 p_9 rfl) (part_1 p_9 rfl) (eqs_str us_9) (EqF.cons rfl (part_1 p_9 rfl) (part_1 p_9 rfl) (eqs_str us_9) (EqF.cons rfl (part_1 p_4 rfl) (part_1 p_4 rfl) (eqs_bool ub_4) .nil)))))
  rw [show decide (x = y) = (decide (x.kind = y.kind) && (decide (x.sub = y.sub) && (decide (x.text = y.text) && (decide (x.payload = y.payload) && (decide (x.keep = y.keep) && true))))) from ?_]
  · exact h
  · obtain ⟨a, b, c, d, e⟩ := x; obtain ⟨a', b', c', d', e'⟩ := y
    by_cases h1 : a = a' <;> by_cases h2 : b = b' <;> by_cases h3 : c = c' <;> by_cases h4 : d = d' <;> by_cases h5 : e = e' <;> simp [h1, h2, h3, h4, h5]
theorem mp_so : MapT Tryz.prog 215 9 69 (.agg (oK 0 false).enc.toArray) := ⟨by kernel_rfl, by kernel_rfl, by kernel_rfl⟩
abbrev nL : List (Str × OpD) → List (Str × Value) := List.map fun p => (p.1, .agg p.2.enc.toArray)
theorem join_ok (w : World) (l : List Str) {v : Value} (hs : Sl Non w v 1 (l.map eS)) (hl : l ≠ []) (hn : (Lib.join l [32]).length ≤ 100000000) (hn2 : l.length ≤ 1000000) : Fn Tryz.prog 52 #[v, Sv [32]] w fun u w' => u = Sv (Lib.join l [32]) := by
  obtain ⟨⟨a, c, hv, hc1, hc2, hc3⟩, heach⟩ := hs
  rcases hc3 with h0 | ⟨b, q, rfl, hlt, _, hcell⟩
  · exact absurd (by simpa using h0) hl
  subst hv
  have hx : (l.map fun s : Str => (⟨s.toArray⟩ : ByteArray)).map (·.data.toList) = l := by simp [List.map_map, Function.comp_def]
  have hf : ∀ m : List Str, (m.map eS).flatten = m.map Sv := fun m => by induction m with
    | nil => rfl
    | cons x m ih => simp [eS, ih]
  have h := Any.strings_Join Tryz.lays156 bld_extra b q c (l.map fun s : Str => (⟨s.toArray⟩ : ByteArray)) ⟨([32] : Str).toArray⟩ w (fun j x hj => by
      rw [List.getElem?_map, Option.map_eq_some_iff] at hj
      obtain ⟨s, h1, h2⟩ := hj
      rw [hcell j (by rw [hf, List.length_map]; exact (List.getElem?_eq_some_iff.1 h1).1), hf, List.getElem?_map, h1, ← h2]; rfl)
    hlt (by rw [List.length_map]; omega) (by rw [List.length_map]; simpa using hc1) (by rw [hx]; exact Nat.le_trans hn (by decide))
  rw [List.length_map] at h ⊢
  refine Calls.mono h fun e w' hy => ?_
  obtain ⟨h1, h2⟩ := hy
  rw [hx] at h1
  exact ⟨_, h1, Ext.of_below h2, rfl⟩
-- bellman/op.names
theorem names_ok (w : World)  : Fn Tryz.prog 142 #[] w fun u w' => ∃ b, u = .map (some b) ∧ IsMp w' b (nL namesO) ∧ w.heap.size ≤ b := by
  have hX := Ext.refl Non w
  refine fn_of_W (args := []) Tryz.func142 rfl (by kernel_rfl) rfl ?_
  refine W_seq ?_
  refine W_region ?_
  refine wl_val (rn_assign (by conv => lhs; whnf)) ?_
  refine wl_nil ?_
  refine W_seq ?_
  refine W_region ?_
  refine wl_makeMap ?_; intro b1 w1 hb1 hE1 hM
  have hq1 : w.heap.size ≤ b1 := Nat.le_trans hX.size hb1
  replace hX := hX.tr hE1
  refine wl_val (rn_build' b_69 rfl rfl (cs := (oK 1 false).enc) rfl) ?_
  refine wl_insert mp_so rfl rfl rfl hM ?_; intro w2 hE2 hM hz2
  replace hX := hX.mine hE2 (.inr hq1)
  refine wl_val (rn_build' b_69 rfl rfl (cs := (oK 2 false).enc) rfl) ?_
  refine wl_insert mp_so rfl rfl rfl hM ?_; intro w3 hE3 hM hz3
  replace hX := hX.mine hE3 (.inr hq1)
  refine wl_val (rn_build' b_69 rfl rfl (cs := (oK 3 false).enc) rfl) ?_
  refine wl_insert mp_so rfl rfl rfl hM ?_; intro w4 hE4 hM hz4
  replace hX := hX.mine hE4 (.inr hq1)
  refine wl_val (rn_build' b_69 rfl rfl (cs := (oK 3 true).enc) rfl) ?_
  refine wl_insert mp_so rfl rfl rfl hM ?_; intro w5 hE5 hM hz5
  replace hX := hX.mine hE5 (.inr hq1)
  refine wl_val (rn_build' b_69 rfl rfl (cs := (oK 4 false).enc) rfl) ?_
  refine wl_insert mp_so rfl rfl rfl hM ?_; intro w6 hE6 hM hz6
  replace hX := hX.mine hE6 (.inr hq1)
  refine wl_val (rn_build' b_69 rfl rfl (cs := (oK 5 false).enc) rfl) ?_
  refine wl_insert mp_so rfl rfl rfl hM ?_; intro w7 hE7 hM hz7
  replace hX := hX.mine hE7 (.inr hq1)
  refine wl_val (rn_move (by conv => lhs; whnf)) ?_
  refine wl_val (rn_assign (by conv => lhs; whnf)) ?_
  refine wl_nil ?_
  refine W_ret ?_
  exact ⟨_, resR1 (res1_tmp rfl), hX, ⟨b1, rfl, hM, hq1⟩⟩
-- bellman/op.name
set_option maxHeartbeats 1600000 in
theorem name_ok (w : World) (x : OpD) : Fn Tryz.prog 91 #[.agg x.enc.toArray] w fun u w' => u = Sv (nameR x) := by
  have hX := Ext.refl Non w
  refine fn_of_W (args := [_]) Tryz.func91 rfl (by kernel_rfl) rfl ?_
  refine W_seq ?_
  refine W_region ?_
  refine wl_boxS rfl ?_; intro b1 w1 hb1 hE1 hB1
  have hq1 : w.heap.size ≤ b1 := Nat.le_trans hX.size hb1
  have hl1 : Mine Non w b1 := .inr hq1
  replace hX := hX.tr hE1
  refine wl_val (rn_assign (by conv => lhs; whnf)) ?_
  refine wl_nil ?_
  refine W_seq ?_
  refine W_seq ?_
  refine W_region ?_
  refine wl_call e_142 rfl (names_ok w1) ?_; intro v5 w2 hE2 hR2
  replace hX := hX.tr hE2
  replace hB1 := hB1.ext hE2 id
  obtain ⟨b5, rfl, hM5, hq5⟩ := hR2
  have hz5 := hM5.lt; have hx1 := hB1.lt
  refine wl_range mp_so rfl hM5 ?_; intro b6 w3 hb6 hE3 hI6
  have hq6 : w.heap.size ≤ b6 := Nat.le_trans hX.size hb6
  have hne6 := hI6.ne; have h16 : b1 < b6 := Nat.lt_of_lt_of_le hB1.lt hb6; have hz6 := hI6.lt
  replace hX := hX.tr hE3
  replace hB1 := hB1.ext hE3 id
  refine wl_nil ?_
  refine W_block ?_   -- block 0
  refine W_loopS (S := List (Str × OpD)) [1, 2, 6] (fun left => [.pointer (some ⟨b1, 0, none⟩), Sv [], .pointer (some ⟨b6, 0, none⟩)]) (fun left A => (Ext Non w A) ∧ (IsBox A b1 x.enc) ∧ (Mine Non w b1) ∧ (IsGo A b6 b5 (nL namesO) (nL left) ∧ (∀ p ∈ left, p ∈ namesO) ∧ ∀ p ∈ namesO, p.2.kind = x.kind → p.2.keep = x.keep → p ∈ left)) (fun left => left.length) namesO ⟨rfl, rfl, rfl, trivial⟩ ⟨hX, hB1, hl1, ⟨hI6, fun p h => h, fun p h _ _ => h⟩⟩ ?_
  rintro τ0 left A0 ⟨hX, hB1, hl1, hI0⟩
  obtain ⟨hI6, hsub, hall⟩ := hI0
  have hz6 := hI6.lt; have hz5 := hI6.mp.lt
  refine W_seq ?_
  refine W_region ?_
  refine wl_nextQ rfl hI6 ?_; intro w4 q hE4 hN7
  have hsz7 := hE4.size
  replace hX := hX.mine hE4 (.inr hq6); replace hB1 := hB1.ext hE4 (fun e => by omega)
  refine wl_val (rn_nx0 rfl) ?_
  refine wl_nil ?_
  refine W_seq ?_
  refine W_cond rfl (fun hc0 => ?_) (fun hc0 => ?_)
  · obtain ⟨pp, rfl⟩ : ∃ pp, q = some pp := by cases q with | none => cases hc0 | some pp => exact ⟨pp, rfl⟩
    obtain ⟨l1, l2, hl, hI6, hA7⟩ := hN7
    obtain ⟨m1, m2, g1, g2, g3⟩ := List.append_eq_map_iff.1 hl.symm
    obtain ⟨p, m3, g4, g5, g6⟩ := List.map_eq_cons_iff.1 g3
    subst g5; have hpm : p ∈ namesO := hsub p (by rw [g1, g4]; simp)
    refine W_skip ?_
    refine W_block ?_   -- block 1
    refine W_seq ?_
    refine W_region ?_
    refine wl_val (rn_entry rfl hA7) ?_
    refine wl_val (rn_extract rfl rfl) ?_
    refine wl_val (rn_extract rfl rfl) ?_
    refine wl_alloc z_69 ?_; intro b4 w5 hb4 hE5 hB4
    have hn1_4 : b1 < b4 := Nat.lt_of_lt_of_le hB1.lt hb4
    have hq4 : w.heap.size ≤ b4 := Nat.le_trans hX.size hb4
    have hl4 : Mine Non w b4 := .inr hq4
    replace hX := hX.tr hE5
    replace hB1 := hB1.ext hE5 id
    replace hI6 := hI6.ext hE5 id id
    refine wl_val (rn_assign (by conv => lhs; whnf)) ?_
    have hBo := hB4
    refine wl_storeB s_69 rfl rfl rfl (OpD.one _) hB4 rfl ?_; intro w6 hE6 hB4 hz6
    replace hX := hX.mine hE6 hl4
    replace hB1 := hB1.ext hE6 (fun h => by omega)
    replace hI6 := hI6.ext hE6 (fun h => by omega) (fun h => by omega)
    refine wl_nil ?_
    refine W_seq ?_
    refine W_region ?_
    refine wl_val (rn_fieldAddr f_69_0 (by decide) rfl) ?_
    refine wl_val (rn_load1 p_3 rfl hB4 rfl) ?_
    refine wl_val (rn_fieldAddr f_69_0 (by decide) rfl) ?_
    refine wl_val (rn_load1 p_3 rfl hB1 rfl) ?_
    refine wl_val (rn_eql rfl rfl) ?_
    refine wl_val (rn_move (by conv => lhs; whnf)) ?_
    refine wl_split (d := 17) rfl (fun hg17 => ?_) (fun hg17 => ?_)
    · have q1 : p.2.kind = x.kind := of_decide_eq_true hg17
      refine wl_yes rfl (congrArg Value.bool hg17) ?_
      refine wl_val (rn_fieldAddr f_69_4 (by decide) rfl) ?_
      refine wl_yes rfl (congrArg Value.bool hg17) ?_
      refine wl_val (rn_load1 p_4 rfl hB4 rfl) ?_
      refine wl_yes rfl (congrArg Value.bool hg17) ?_
      refine wl_val (rn_fieldAddr f_69_4 (by decide) rfl) ?_
      refine wl_yes rfl (congrArg Value.bool hg17) ?_
      refine wl_val (rn_load1 p_4 rfl hB1 rfl) ?_
      refine wl_yes rfl (congrArg Value.bool hg17) ?_
      refine wl_val (rn_beql ub_4 rfl rfl) ?_
      refine wl_val (rn_pickT (congrArg Value.bool hg17) (by conv => lhs; whnf)) ?_
      refine wl_nil ?_
      refine W_cond rfl (fun hc1 => ?_) (fun hc1 => ?_)
      · have q2 : p.2.keep = x.keep := of_decide_eq_true hc1
        have hres := names_hit p hpm q1 q2
        refine W_seq ?_
        refine W_region ?_
        refine wl_val (rn_move (by conv => lhs; whnf)) ?_
        refine wl_val (rn_assign (by conv => lhs; whnf)) ?_
        refine wl_nil ?_
        refine W_ret ?_
        exact ⟨_, resR1 (res1_tmp rfl), hX, by rw [hres]; rfl⟩
      · have q2 : ¬ p.2.keep = x.keep := of_decide_eq_false hc1
        refine W_skip ?_
        exact ⟨rfl, (m1 ++ m3), ⟨rfl, rfl, rfl, trivial⟩, ⟨hX, hB1, hl1, ⟨by simpa only [nL, List.map_append, g2, g6] using hI6, fun p' hp' => hsub p' (by rw [g1, g4]; simp only [List.mem_append, List.mem_cons] at hp' ⊢; rcases hp' with h | h; exact .inl h; exact .inr (.inr h)), fun p' hp' h1 h2 => by have := hall p' hp' h1 h2; rw [g1, g4] at this; simp only [List.mem_append, List.mem_cons] at this ⊢; rcases this with h | h | h; exact .inl h; subst h; (first | exact absurd h1 q1 | exact absurd h2 q2); exact .inr h⟩⟩, by show (m1 ++ m3).length < left.length; rw [g1, g4]; simp⟩
    · have q1 : ¬ p.2.kind = x.kind := of_decide_eq_false hg17
      refine wl_no rfl (congrArg Value.bool hg17) ?_
      refine wl_no rfl (congrArg Value.bool hg17) ?_
      refine wl_no rfl (congrArg Value.bool hg17) ?_
      refine wl_no rfl (congrArg Value.bool hg17) ?_
      refine wl_no rfl (congrArg Value.bool hg17) ?_
      refine wl_val (rn_pickF (congrArg Value.bool hg17) (by conv => lhs; whnf)) ?_
      refine wl_nil ?_
      refine W_condF rfl ?_
      refine W_skip ?_
      exact ⟨rfl, (m1 ++ m3), ⟨rfl, rfl, rfl, trivial⟩, ⟨hX, hB1, hl1, ⟨by simpa only [nL, List.map_append, g2, g6] using hI6, fun p' hp' => hsub p' (by rw [g1, g4]; simp only [List.mem_append, List.mem_cons] at hp' ⊢; rcases hp' with h | h; exact .inl h; exact .inr (.inr h)), fun p' hp' h1 h2 => by have := hall p' hp' h1 h2; rw [g1, g4] at this; simp only [List.mem_append, List.mem_cons] at this ⊢; rcases this with h | h | h; exact .inl h; subst h; (first | exact absurd h1 q1 | exact absurd h2 q2); exact .inr h⟩⟩, by show (m1 ++ m3).length < left.length; rw [g1, g4]; simp⟩
  · have hq0 : q = none := by cases q with | none => rfl | some pp => cases hc0
    subst hq0
    have hl0 : left = [] := by have := hN7; simp only [Nx, List.map_eq_nil_iff] at this; exact this
    have hres : nameR x = [] := names_miss fun p hp hm => by have := hall p hp hm.1 hm.2; rw [hl0] at this; cases this
    refine W_exit ?_   -- exit 0
    refine W_seq ?_
    refine W_region ?_
    refine wl_val (rn_assign (by conv => lhs; whnf)) ?_
    refine wl_nil ?_
    refine W_ret ?_
    exact ⟨_, resR1 (res1_tmp rfl), hX, by rw [hres]; rfl⟩
end Go.Proofs.YthcclgoidchkdaaGreatDoorC

/- Plain operations; their lines: the program's and the document's. -/
set_option linter.unusedVariables false
set_option linter.unusedSimpArgs false
set_option maxRecDepth 100000
namespace Go.Proofs.YthcclgoidchkdaaGreatDoorC
open Go.RowKit
def plainDB (x : OpD) : Bool := if x.kind = 3 then decide (x.sub = 0) else if x.kind < 1 ∨ 5 < x.kind ∨ x.sub < 0 ∨ 9999 < x.sub ∨ x.payload ≠ [] ∨ x.keep = true then false else decide (x.kind < 3) || decide (x.text = [])
theorem plainD_eq (x : OpD) : plainDB x = plainR x := by
  have h : plainDB x = true ↔ plainR x = true := by
    rw [plain_iff]
    unfold plainDB PlainP
    split
    · rename_i h; constructor
      · intro h2; exact .inl ⟨h, by simpa using h2⟩
      · rintro (⟨_, h2⟩ | ⟨h2, _⟩ | ⟨h2, _⟩)
        · simpa using h2
        · omega
        · omega
    · rename_i h
      split
      · rename_i h2; constructor
        · intro h3; cases h3
        · rintro (⟨h3, _⟩ | ⟨h3, h4, h5, h6, h7⟩ | ⟨h3, h4, h5, h6, h7, h8⟩)
          · exact absurd h3 h
          · rcases h2 with h2 | h2 | h2 | h2 | h2 | h2
            · omega
            · omega
            · omega
            · omega
            · exact absurd h6 h2
            · rw [h7] at h2; cases h2
          · rcases h2 with h2 | h2 | h2 | h2 | h2 | h2
            · omega
            · omega
            · omega
            · omega
            · exact absurd h7 h2
            · rw [h8] at h2; cases h2
      · rename_i h2
        simp only [not_or, Classical.not_not, Bool.not_eq_true, ne_eq] at h2
        obtain ⟨a1, a2, a3, a4, a5, a6⟩ := h2
        rw [Bool.or_eq_true, decide_eq_true_eq, decide_eq_true_eq]
        constructor
        · rintro (h3 | h3)
          · exact .inr (.inl ⟨by omega, by omega, by omega, a5, a6⟩)
          · by_cases h4 : x.kind < 3
            · exact .inr (.inl ⟨by omega, by omega, by omega, a5, a6⟩)
            · exact .inr (.inr ⟨by omega, by omega, by omega, h3, a5, a6⟩)
        · rintro (⟨h3, _⟩ | ⟨h3, _⟩ | ⟨h3, _, _, h4, _⟩)
          · exact absurd h3 h
          · left; omega
          · exact .inr h4
  cases h1 : plainDB x <;> cases h2 : plainR x <;> simp_all
theorem plainD_last {x : OpD} (h0 : ¬ x.kind = 3) (h1 : 1 ≤ x.kind) (h2 : x.kind ≤ 5) (h3 : 0 ≤ x.sub) (h4 : x.sub ≤ 9999) (h5 : x.payload = []) (h6 : x.keep = false) (h7 : 3 ≤ x.kind) : decide (x.text = []) = plainDB x := by
  unfold plainDB
  rw [if_neg h0, if_neg, decide_eq_false (show ¬ x.kind < 3 by omega), Bool.false_or]
  rintro (h | h | h | h | h | h)
  · omega
  · omega
  · omega
  · omega
  · exact h h5
  · rw [h6] at h; cases h
theorem itoa_sub {n : Int} (h : 0 ≤ n) : Lib.itoa n = Lib.decDigits n.toNat := by unfold Lib.itoa; rw [if_neg (by omega)]
theorem ndig_pow : ∀ (k n : Nat), n < 10 ^ (k + 1) → Lib.nDigits n ≤ k + 1
  | 0, n, h => by rw [Lib.nDigits_small (by simpa using h)]; exact Nat.le_refl _
  | k + 1, n, h => by
    by_cases h1 : n < 10
    · rw [Lib.nDigits_small h1]; omega
    · rw [Lib.nDigits_big h1]
      have := ndig_pow k (n / 10) (by rw [Nat.pow_succ] at h; omega)
      omega
theorem dec_len6 {n : Nat} (h : n ≤ 1000000) : (Lib.decDigits n).length ≤ 7 := by
  rw [Lib.decDigits_length]; exact ndig_pow 6 n (by omega)
-- bellman/op.told
set_option maxHeartbeats 1600000 in
theorem told_ok (w : World) (x : OpD) : Fn Tryz.prog 99 #[.agg x.enc.toArray] w fun u w' => u = .agg (toldR x).enc.toArray := by
  have hX := Ext.refl Non w
  refine fn_of_W (args := [_]) Tryz.func99 rfl (by kernel_rfl) rfl ?_
  refine W_seq ?_
  refine W_region ?_
  refine wl_boxS rfl ?_; intro b1 w1 hb1 hE1 hB1
  have hq1 : w.heap.size ≤ b1 := Nat.le_trans hX.size hb1
  have hl1 : Mine Non w b1 := .inr hq1
  replace hX := hX.tr hE1
  refine wl_alloc z_69 ?_; intro b2 w2 hb2 hE2 hB2
  have hn1_2 : b1 < b2 := Nat.lt_of_lt_of_le hB1.lt hb2
  have hq2 : w.heap.size ≤ b2 := Nat.le_trans hX.size hb2
  have hl2 : Mine Non w b2 := .inr hq2
  replace hX := hX.tr hE2
  replace hB1 := hB1.ext hE2 id
  refine wl_nil ?_
  refine W_seq ?_
  refine W_region ?_
  refine wl_val (rn_fieldAddr f_69_0 (by decide) rfl) ?_
  refine wl_val (rn_load1 p_3 rfl hB1 rfl) ?_
  refine wl_val (rn_fieldAddr f_69_4 (by decide) rfl) ?_
  refine wl_val (rn_load1 p_4 rfl hB1 rfl) ?_
  refine wl_val (rn_build' b_69 rfl rfl (cs := (oK x.kind x.keep).enc) rfl) ?_
  refine wl_alloc z_69 ?_; intro b3 w3 hb3 hE3 hB3
  have hn1_3 : b1 < b3 := Nat.lt_of_lt_of_le hB1.lt hb3
  have hn2_3 : b2 < b3 := Nat.lt_of_lt_of_le hB2.lt hb3
  have hq3 : w.heap.size ≤ b3 := Nat.le_trans hX.size hb3
  have hl3 : Mine Non w b3 := .inr hq3
  replace hX := hX.tr hE3
  replace hB1 := hB1.ext hE3 id; replace hB2 := hB2.ext hE3 id
  refine wl_storeB s_69 rfl rfl rfl (OpD.one _) hB3 rfl ?_; intro w4 hE4 hB3 hz4
  replace hX := hX.mine hE4 hl3
  replace hB1 := hB1.ext hE4 (fun h => by omega); replace hB2 := hB2.ext hE4 (fun h => by omega)
  refine wl_nil ?_
  refine W_seq ?_
  refine W_seq ?_
  refine W_region ?_
  refine wl_val (rn_fieldAddr f_69_0 (by decide) rfl) ?_
  refine wl_val (rn_load1 p_3 rfl hB1 rfl) ?_
  refine wl_nil ?_
  refine W_block ?_   -- block 0
  refine W_seq ?_
  refine W_seq ?_
  refine W_region ?_
  refine wl_val (rn_eql rfl rfl) ?_
  refine wl_val (rn_assign (by conv => lhs; whnf)) ?_
  refine wl_nil ?_
  refine W_cond rfl (fun hc0 => ?_) (fun hc0 => ?_)
  · have qc0T := of_decide_eq_true hc0
    refine W_skip ?_
    refine W_condT (congrArg Value.bool hc0) ?_
    refine W_drawF (fun i => i = b3) mixed ?_; intro w5 hE5
    replace hX := hX.tr hE5
    replace hB1 := hB1.ext hE5 id; replace hB2 := hB2.ext hE5 id; replace hB3 := hB3.ext hE5 id
    have hS := Ext.refl (fun i => i = b3) w5
    have hzd3 := hB3.lt
    refine wd_take 0 _ _ rfl (by kernel_rfl) hS (yd_do fun A hA => rn_fieldAddr f_69_1 (by decide) rfl) ?_
    refine wd_take 1 _ _ rfl (by kernel_rfl) hS (yd_do fun A hA => rn_load1 p_3 rfl (hB1.ext hA (fun e => by omega)) rfl) ?_
    refine wd_take 2 _ _ rfl (by kernel_rfl) hS (yd_do fun A hA => rn_fieldAddr f_69_2 (by decide) rfl) ?_
    refine wd_take 3 _ _ rfl (by kernel_rfl) hS (yd_do fun A hA => rn_load1 p_9 rfl (hB1.ext hA (fun e => by omega)) rfl) ?_
    refine wd_take 4 _ _ rfl (by kernel_rfl) hS (yd_do fun A hA => rn_fieldAddr f_69_1 (by decide) rfl) ?_
    refine wd_only 5 _ rfl (by kernel_rfl) ?_
    refine s1_do ?_
    refine wl_store1 (b := b3) p_3 rfl (by conv => lhs; whnf) rfl rfl hB3 (Nat.le_of_ble_eq_true rfl) ?_; intro w6 hE6 hB3 hz6
    replace hS := hS.mine hE6 (by first | exact .inl rfl | exact .inl (.inl rfl) | exact .inl (.inr rfl) | exact .inl (.inr (.inr rfl)))
    refine wl_nil ⟨hS, ?_⟩
    refine wd_take 6 _ _ rfl (by kernel_rfl) hS (yd_do fun A hA => rn_fieldAddr f_69_2 (by decide) rfl) ?_
    refine wd_only 7 _ rfl (by kernel_rfl) ?_
    refine s1_do ?_
    refine wl_store1 (b := b3) p_9 rfl (by conv => lhs; whnf) rfl rfl hB3 (Nat.le_of_ble_eq_true rfl) ?_; intro w7 hE7 hB3 hz7
    replace hS := hS.mine hE7 (by first | exact .inl rfl | exact .inl (.inl rfl) | exact .inl (.inr rfl) | exact .inl (.inr (.inr rfl)))
    refine wl_nil ⟨hS, ?_⟩
    refine wd_done (by kernel_rfl) ?_ _
    replace hX := hX.mine hS hl3
    replace hB1 := hB1.ext hS (fun e => by omega); replace hB2 := hB2.ext hS (fun e => by omega)
    refine W_seq ?_
    refine W_region ?_
    refine wl_val (rn_loadB s_69 rfl rfl hB3) ?_
    refine wl_storeB s_69 rfl rfl rfl (fun v hv => by have hv2 : v ∈ [Value.int .i64 x.kind, _, _, _, _] := hv; simp only [List.mem_cons, List.not_mem_nil, or_false] at hv2; rcases hv2 with rfl | rfl | rfl | rfl | rfl <;> rfl) hB2 rfl ?_; intro w8 hE8 hB2 hz8
    replace hX := hX.mine hE8 hl2
    replace hB1 := hB1.ext hE8 (fun h => by omega); replace hB3 := hB3.ext hE8 (fun h => by omega)
    refine wl_nil ?_
    refine W_ret ?_
    first | exact ⟨_, resR1 (res1_box s_69 rfl hB2 rfl), hX, by unfold toldR; rw [if_pos (by omega)] <;> rfl⟩ | exact ⟨_, resR1 (res1_box s_69 rfl hB2 rfl), hX, by unfold toldR; rw [if_neg (by omega), if_pos (by omega)] <;> rfl⟩ | exact ⟨_, resR1 (res1_box s_69 rfl hB2 rfl), hX, by unfold toldR; rw [if_neg (by omega), if_neg (by omega), if_pos (by omega)] <;> rfl⟩ | exact ⟨_, resR1 (res1_box s_69 rfl hB2 rfl), hX, by unfold toldR; rw [if_neg (by omega), if_neg (by omega), if_neg (by omega)] <;> rfl⟩
  · have qc0F := of_decide_eq_false hc0
    refine W_region ?_
    refine wl_val (rn_eql rfl rfl) ?_
    refine wl_val (rn_assign (by conv => lhs; whnf)) ?_
    refine wl_nil ?_
    refine W_cond rfl (fun hc1 => ?_) (fun hc1 => ?_)
    · have qc1T := of_decide_eq_true hc1
      refine W_drawF (fun i => i = b3) mixed ?_; intro w9 hE9
      replace hX := hX.tr hE9
      replace hB1 := hB1.ext hE9 id; replace hB2 := hB2.ext hE9 id; replace hB3 := hB3.ext hE9 id
      have hS := Ext.refl (fun i => i = b3) w9
      have hzd3 := hB3.lt
      refine wd_take 0 _ _ rfl (by kernel_rfl) hS (yd_do fun A hA => rn_fieldAddr f_69_1 (by decide) rfl) ?_
      refine wd_take 1 _ _ rfl (by kernel_rfl) hS (yd_do fun A hA => rn_load1 p_3 rfl (hB1.ext hA (fun e => by omega)) rfl) ?_
      refine wd_take 2 _ _ rfl (by kernel_rfl) hS (yd_do fun A hA => rn_fieldAddr f_69_2 (by decide) rfl) ?_
      refine wd_take 3 _ _ rfl (by kernel_rfl) hS (yd_do fun A hA => rn_load1 p_9 rfl (hB1.ext hA (fun e => by omega)) rfl) ?_
      refine wd_take 4 _ _ rfl (by kernel_rfl) hS (yd_do fun A hA => rn_fieldAddr f_69_1 (by decide) rfl) ?_
      refine wd_only 5 _ rfl (by kernel_rfl) ?_
      refine s1_do ?_
      refine wl_store1 (b := b3) p_3 rfl (by conv => lhs; whnf) rfl rfl hB3 (Nat.le_of_ble_eq_true rfl) ?_; intro w10 hE10 hB3 hz10
      replace hS := hS.mine hE10 (by first | exact .inl rfl | exact .inl (.inl rfl) | exact .inl (.inr rfl) | exact .inl (.inr (.inr rfl)))
      refine wl_nil ⟨hS, ?_⟩
      refine wd_take 6 _ _ rfl (by kernel_rfl) hS (yd_do fun A hA => rn_fieldAddr f_69_2 (by decide) rfl) ?_
      refine wd_only 7 _ rfl (by kernel_rfl) ?_
      refine s1_do ?_
      refine wl_store1 (b := b3) p_9 rfl (by conv => lhs; whnf) rfl rfl hB3 (Nat.le_of_ble_eq_true rfl) ?_; intro w11 hE11 hB3 hz11
      replace hS := hS.mine hE11 (by first | exact .inl rfl | exact .inl (.inl rfl) | exact .inl (.inr rfl) | exact .inl (.inr (.inr rfl)))
      refine wl_nil ⟨hS, ?_⟩
      refine wd_done (by kernel_rfl) ?_ _
      replace hX := hX.mine hS hl3
      replace hB1 := hB1.ext hS (fun e => by omega); replace hB2 := hB2.ext hS (fun e => by omega)
      refine W_seq ?_
      refine W_region ?_
      refine wl_val (rn_loadB s_69 rfl rfl hB3) ?_
      refine wl_storeB s_69 rfl rfl rfl (fun v hv => by have hv2 : v ∈ [Value.int .i64 x.kind, _, _, _, _] := hv; simp only [List.mem_cons, List.not_mem_nil, or_false] at hv2; rcases hv2 with rfl | rfl | rfl | rfl | rfl <;> rfl) hB2 rfl ?_; intro w12 hE12 hB2 hz12
      replace hX := hX.mine hE12 hl2
      replace hB1 := hB1.ext hE12 (fun h => by omega); replace hB3 := hB3.ext hE12 (fun h => by omega)
      refine wl_nil ?_
      refine W_ret ?_
      first | exact ⟨_, resR1 (res1_box s_69 rfl hB2 rfl), hX, by unfold toldR; rw [if_pos (by omega)] <;> rfl⟩ | exact ⟨_, resR1 (res1_box s_69 rfl hB2 rfl), hX, by unfold toldR; rw [if_neg (by omega), if_pos (by omega)] <;> rfl⟩ | exact ⟨_, resR1 (res1_box s_69 rfl hB2 rfl), hX, by unfold toldR; rw [if_neg (by omega), if_neg (by omega), if_pos (by omega)] <;> rfl⟩ | exact ⟨_, resR1 (res1_box s_69 rfl hB2 rfl), hX, by unfold toldR; rw [if_neg (by omega), if_neg (by omega), if_neg (by omega)] <;> rfl⟩
    · have qc1F := of_decide_eq_false hc1
      refine W_seq ?_
      refine W_region ?_
      refine wl_val (rn_eql rfl rfl) ?_
      refine wl_val (rn_assign (by conv => lhs; whnf)) ?_
      refine wl_nil ?_
      refine W_cond rfl (fun hc2 => ?_) (fun hc2 => ?_)
      · have qc2T := of_decide_eq_true hc2
        refine W_drawF (fun i => i = b3) mixed ?_; intro w13 hE13
        replace hX := hX.tr hE13
        replace hB1 := hB1.ext hE13 id; replace hB2 := hB2.ext hE13 id; replace hB3 := hB3.ext hE13 id
        have hS := Ext.refl (fun i => i = b3) w13
        have hzd3 := hB3.lt
        refine wd_take 0 _ _ rfl (by kernel_rfl) hS (yd_do fun A hA => rn_fieldAddr f_69_2 (by decide) rfl) ?_
        refine wd_take 1 _ _ rfl (by kernel_rfl) hS (yd_do fun A hA => rn_load1 p_9 rfl (hB1.ext hA (fun e => by omega)) rfl) ?_
        refine wd_take 2 _ _ rfl (by kernel_rfl) hS (yd_do fun A hA => rn_fieldAddr f_69_3 (by decide) rfl) ?_
        refine wd_take 3 _ _ rfl (by kernel_rfl) hS (yd_do fun A hA => rn_load1 p_9 rfl (hB1.ext hA (fun e => by omega)) rfl) ?_
        refine wd_take 4 _ _ rfl (by kernel_rfl) hS (yd_do fun A hA => rn_fieldAddr f_69_2 (by decide) rfl) ?_
        refine wd_only 5 _ rfl (by kernel_rfl) ?_
        refine s1_do ?_
        refine wl_store1 (b := b3) p_9 rfl (by conv => lhs; whnf) rfl rfl hB3 (Nat.le_of_ble_eq_true rfl) ?_; intro w14 hE14 hB3 hz14
        replace hS := hS.mine hE14 (by first | exact .inl rfl | exact .inl (.inl rfl) | exact .inl (.inr rfl) | exact .inl (.inr (.inr rfl)))
        refine wl_nil ⟨hS, ?_⟩
        refine wd_take 6 _ _ rfl (by kernel_rfl) hS (yd_do fun A hA => rn_fieldAddr f_69_3 (by decide) rfl) ?_
        refine wd_only 7 _ rfl (by kernel_rfl) ?_
        refine s1_do ?_
        refine wl_store1 (b := b3) p_9 rfl (by conv => lhs; whnf) rfl rfl hB3 (Nat.le_of_ble_eq_true rfl) ?_; intro w15 hE15 hB3 hz15
        replace hS := hS.mine hE15 (by first | exact .inl rfl | exact .inl (.inl rfl) | exact .inl (.inr rfl) | exact .inl (.inr (.inr rfl)))
        refine wl_nil ⟨hS, ?_⟩
        refine wd_done (by kernel_rfl) ?_ _
        replace hX := hX.mine hS hl3
        replace hB1 := hB1.ext hS (fun e => by omega); replace hB2 := hB2.ext hS (fun e => by omega)
        refine W_seq ?_
        refine W_region ?_
        refine wl_val (rn_loadB s_69 rfl rfl hB3) ?_
        refine wl_storeB s_69 rfl rfl rfl (fun v hv => by have hv2 : v ∈ [Value.int .i64 x.kind, _, _, _, _] := hv; simp only [List.mem_cons, List.not_mem_nil, or_false] at hv2; rcases hv2 with rfl | rfl | rfl | rfl | rfl <;> rfl) hB2 rfl ?_; intro w16 hE16 hB2 hz16
        replace hX := hX.mine hE16 hl2
        replace hB1 := hB1.ext hE16 (fun h => by omega); replace hB3 := hB3.ext hE16 (fun h => by omega)
        refine wl_nil ?_
        refine W_ret ?_
        first | exact ⟨_, resR1 (res1_box s_69 rfl hB2 rfl), hX, by unfold toldR; rw [if_pos (by omega)] <;> rfl⟩ | exact ⟨_, resR1 (res1_box s_69 rfl hB2 rfl), hX, by unfold toldR; rw [if_neg (by omega), if_pos (by omega)] <;> rfl⟩ | exact ⟨_, resR1 (res1_box s_69 rfl hB2 rfl), hX, by unfold toldR; rw [if_neg (by omega), if_neg (by omega), if_pos (by omega)] <;> rfl⟩ | exact ⟨_, resR1 (res1_box s_69 rfl hB2 rfl), hX, by unfold toldR; rw [if_neg (by omega), if_neg (by omega), if_neg (by omega)] <;> rfl⟩
      · have qc2F := of_decide_eq_false hc2
        refine W_seq ?_
        refine W_seq ?_
        refine W_region ?_
        refine wl_val (rn_eql rfl rfl) ?_
        refine wl_val (rn_assign (by conv => lhs; whnf)) ?_
        refine wl_nil ?_
        refine W_cond rfl (fun hc3 => ?_) (fun hc3 => ?_)
        · have qc3T := of_decide_eq_true hc3
          refine W_skip ?_
          refine W_condT (congrArg Value.bool hc3) ?_
          refine W_region ?_
          refine wl_val (rn_fieldAddr f_69_1 (by decide) rfl) ?_
          refine wl_val (rn_load1 p_3 rfl hB1 rfl) ?_
          refine wl_val (rn_fieldAddr f_69_1 (by decide) rfl) ?_
          refine wl_store1 (b := b3) p_3 rfl (by conv => lhs; whnf) rfl rfl hB3 (Nat.le_of_ble_eq_true rfl) ?_; intro w17 hE17 hB3 hz17
          replace hX := hX.mine hE17 hl3
          replace hB1 := hB1.ext hE17 (fun h => by omega); replace hB2 := hB2.ext hE17 (fun h => by omega)
          refine wl_nil ?_
          refine W_seq ?_
          refine W_region ?_
          refine wl_val (rn_loadB s_69 rfl rfl hB3) ?_
          refine wl_storeB s_69 rfl rfl rfl (fun v hv => by have hv2 : v ∈ [Value.int .i64 x.kind, _, _, _, _] := hv; simp only [List.mem_cons, List.not_mem_nil, or_false] at hv2; rcases hv2 with rfl | rfl | rfl | rfl | rfl <;> rfl) hB2 rfl ?_; intro w18 hE18 hB2 hz18
          replace hX := hX.mine hE18 hl2
          replace hB1 := hB1.ext hE18 (fun h => by omega); replace hB3 := hB3.ext hE18 (fun h => by omega)
          refine wl_nil ?_
          refine W_ret ?_
          first | exact ⟨_, resR1 (res1_box s_69 rfl hB2 rfl), hX, by unfold toldR; rw [if_pos (by omega)] <;> rfl⟩ | exact ⟨_, resR1 (res1_box s_69 rfl hB2 rfl), hX, by unfold toldR; rw [if_neg (by omega), if_pos (by omega)] <;> rfl⟩ | exact ⟨_, resR1 (res1_box s_69 rfl hB2 rfl), hX, by unfold toldR; rw [if_neg (by omega), if_neg (by omega), if_pos (by omega)] <;> rfl⟩ | exact ⟨_, resR1 (res1_box s_69 rfl hB2 rfl), hX, by unfold toldR; rw [if_neg (by omega), if_neg (by omega), if_neg (by omega)] <;> rfl⟩
        · have qc3F := of_decide_eq_false hc3
          refine W_region ?_
          refine wl_val (rn_eql rfl rfl) ?_
          refine wl_val (rn_assign (by conv => lhs; whnf)) ?_
          refine wl_nil ?_
          refine W_cond rfl (fun hc4 => ?_) (fun hc4 => ?_)
          · have qc4T := of_decide_eq_true hc4
            refine W_region ?_
            refine wl_val (rn_fieldAddr f_69_1 (by decide) rfl) ?_
            refine wl_val (rn_load1 p_3 rfl hB1 rfl) ?_
            refine wl_val (rn_fieldAddr f_69_1 (by decide) rfl) ?_
            refine wl_store1 (b := b3) p_3 rfl (by conv => lhs; whnf) rfl rfl hB3 (Nat.le_of_ble_eq_true rfl) ?_; intro w19 hE19 hB3 hz19
            replace hX := hX.mine hE19 hl3
            replace hB1 := hB1.ext hE19 (fun h => by omega); replace hB2 := hB2.ext hE19 (fun h => by omega)
            refine wl_nil ?_
            refine W_seq ?_
            refine W_region ?_
            refine wl_val (rn_loadB s_69 rfl rfl hB3) ?_
            refine wl_storeB s_69 rfl rfl rfl (fun v hv => by have hv2 : v ∈ [Value.int .i64 x.kind, _, _, _, _] := hv; simp only [List.mem_cons, List.not_mem_nil, or_false] at hv2; rcases hv2 with rfl | rfl | rfl | rfl | rfl <;> rfl) hB2 rfl ?_; intro w20 hE20 hB2 hz20
            replace hX := hX.mine hE20 hl2
            replace hB1 := hB1.ext hE20 (fun h => by omega); replace hB3 := hB3.ext hE20 (fun h => by omega)
            refine wl_nil ?_
            refine W_ret ?_
            first | exact ⟨_, resR1 (res1_box s_69 rfl hB2 rfl), hX, by unfold toldR; rw [if_pos (by omega)] <;> rfl⟩ | exact ⟨_, resR1 (res1_box s_69 rfl hB2 rfl), hX, by unfold toldR; rw [if_neg (by omega), if_pos (by omega)] <;> rfl⟩ | exact ⟨_, resR1 (res1_box s_69 rfl hB2 rfl), hX, by unfold toldR; rw [if_neg (by omega), if_neg (by omega), if_pos (by omega)] <;> rfl⟩ | exact ⟨_, resR1 (res1_box s_69 rfl hB2 rfl), hX, by unfold toldR; rw [if_neg (by omega), if_neg (by omega), if_neg (by omega)] <;> rfl⟩
          · have qc4F := of_decide_eq_false hc4
            refine W_skip ?_
            refine W_seq ?_
            refine W_region ?_
            refine wl_val (rn_loadB s_69 rfl rfl hB3) ?_
            refine wl_storeB s_69 rfl rfl rfl (fun v hv => by have hv2 : v ∈ [Value.int .i64 x.kind, _, _, _, _] := hv; simp only [List.mem_cons, List.not_mem_nil, or_false] at hv2; rcases hv2 with rfl | rfl | rfl | rfl | rfl <;> rfl) hB2 rfl ?_; intro w21 hE21 hB2 hz21
            replace hX := hX.mine hE21 hl2
            replace hB1 := hB1.ext hE21 (fun h => by omega); replace hB3 := hB3.ext hE21 (fun h => by omega)
            refine wl_nil ?_
            refine W_ret ?_
            first | exact ⟨_, resR1 (res1_box s_69 rfl hB2 rfl), hX, by unfold toldR; rw [if_pos (by omega)] <;> rfl⟩ | exact ⟨_, resR1 (res1_box s_69 rfl hB2 rfl), hX, by unfold toldR; rw [if_neg (by omega), if_pos (by omega)] <;> rfl⟩ | exact ⟨_, resR1 (res1_box s_69 rfl hB2 rfl), hX, by unfold toldR; rw [if_neg (by omega), if_neg (by omega), if_pos (by omega)] <;> rfl⟩ | exact ⟨_, resR1 (res1_box s_69 rfl hB2 rfl), hX, by unfold toldR; rw [if_neg (by omega), if_neg (by omega), if_neg (by omega)] <;> rfl⟩
-- bellman/op.Plain
set_option maxHeartbeats 1600000 in
theorem plain_ok (w : World) (x : OpD) : Fn Tryz.prog 58 #[.agg x.enc.toArray] w fun u w' => u = .bool (plainR x) := by
  have hX := Ext.refl Non w
  refine fn_of_W (args := [_]) Tryz.func58 rfl (by kernel_rfl) rfl ?_
  refine W_seq ?_
  refine W_region ?_
  refine wl_boxS rfl ?_; intro b1 w1 hb1 hE1 hB1
  have hq1 : w.heap.size ≤ b1 := Nat.le_trans hX.size hb1
  have hl1 : Mine Non w b1 := .inr hq1
  replace hX := hX.tr hE1
  refine wl_val (rn_assign (by conv => lhs; whnf)) ?_
  refine wl_nil ?_
  refine W_seq ?_
  refine W_drawE mixed ?_; intro w2 hE2
  replace hX := hX.tr hE2
  replace hB1 := hB1.ext hE2 id
  have hS := Ext.refl Non w2
  refine wd_take 0 _ _ rfl (by kernel_rfl) hS (yd_do fun A hA => rn_loadB s_69 rfl rfl (hB1.ext hA id)) ?_
  refine wd_only 1 _ rfl (by kernel_rfl) ?_
  refine s1_do ?_
  refine wl_call e_91 rfl (name_ok w2 x) ?_; intro v4 w3 hE3 hR3
  replace hS := hS.tr hE3
  subst hR3
  refine wl_nil ⟨hS, ?_⟩
  refine wd_take 2 _ _ rfl (by kernel_rfl) hS (yd_do fun A hA => rn_sneq rfl rfl) ?_
  refine wd_take 3 _ _ rfl (by kernel_rfl) hS (yd_do fun A hA => rn_move (by conv => lhs; whnf)) ?_
  refine wd_split (d := 6) rfl (fun hg6 => ?_) (fun hg6 => ?_)
  · have n1 : ¬ nameR x = [] := of_decide_eq_true hg6
    refine wd_take 4 _ _ rfl (by kernel_rfl) hS (yd_yes rfl (congrArg Value.bool hg6) fun A hA => rn_loadB s_69 rfl rfl (hB1.ext hA id)) ?_
    refine wd_take 6 _ _ rfl (by kernel_rfl) hS (yd_yes rfl (congrArg Value.bool hg6) fun A hA => rn_loadB s_69 rfl rfl (hB1.ext hA id)) ?_
    refine wd_only 5 _ rfl (by kernel_rfl) ?_
    refine s1_yes rfl (congrArg Value.bool hg6) ?_
    refine wl_call e_99 rfl (told_ok w3 x) ?_; intro v8 w4 hE4 hR4
    replace hS := hS.tr hE4
    subst hR4
    refine wl_nil ⟨hS, ?_⟩
    refine wd_take 7 _ _ rfl (by kernel_rfl) hS (yd_yes rfl (congrArg Value.bool hg6) fun A hA => rn_eqlS rfl rfl eg_69 (by decide) (op_eqs _ _)) ?_
    refine wd_take 8 _ _ rfl (by kernel_rfl) hS (yd_do fun A hA => rn_pickT (congrArg Value.bool hg6) (by conv => lhs; whnf)) ?_
    refine wd_take 9 _ _ rfl (by kernel_rfl) hS (yd_do fun A hA => rn_move (by conv => lhs; whnf)) ?_
    refine wd_split (d := 12) rfl (fun hg12 => ?_) (fun hg12 => ?_)
    · refine wd_take 10 _ _ rfl (by kernel_rfl) hS (yd_yes rfl (congrArg Value.bool hg12) fun A hA => rn_fieldAddr f_69_1 (by decide) rfl) ?_
      refine wd_take 11 _ _ rfl (by kernel_rfl) hS (yd_yes rfl (congrArg Value.bool hg12) fun A hA => rn_load1 p_3 rfl (hB1.ext hA id) rfl) ?_
      refine wd_take 12 _ _ rfl (by kernel_rfl) hS (yd_yes rfl (congrArg Value.bool hg12) fun A hA => rn_geq rfl rfl) ?_
      refine wd_take 13 _ _ rfl (by kernel_rfl) hS (yd_do fun A hA => rn_pickT (congrArg Value.bool hg12) (by conv => lhs; whnf)) ?_
      refine wd_take 14 _ _ rfl (by kernel_rfl) hS (yd_do fun A hA => rn_move (by conv => lhs; whnf)) ?_
      refine wd_split (d := 17) rfl (fun hg17 => ?_) (fun hg17 => ?_)
      · refine wd_take 15 _ _ rfl (by kernel_rfl) hS (yd_yes rfl (congrArg Value.bool hg17) fun A hA => rn_fieldAddr f_69_1 (by decide) rfl) ?_
        refine wd_take 16 _ _ rfl (by kernel_rfl) hS (yd_yes rfl (congrArg Value.bool hg17) fun A hA => rn_load1 p_3 rfl (hB1.ext hA id) rfl) ?_
        refine wd_take 17 _ _ rfl (by kernel_rfl) hS (yd_yes rfl (congrArg Value.bool hg17) fun A hA => rn_leq rfl rfl) ?_
        refine wd_take 18 _ _ rfl (by kernel_rfl) hS (yd_do fun A hA => rn_pickT (congrArg Value.bool hg17) (by conv => lhs; whnf)) ?_
        refine wd_take 19 _ _ rfl (by kernel_rfl) hS (yd_do fun A hA => rn_assign (by conv => lhs; whnf)) ?_
        refine wd_done (by kernel_rfl) ?_ _
        replace hX := hX.tr hS
        replace hB1 := hB1.ext hS id
        refine W_ret ?_
        exact ⟨_, resR1 (res1_tmp rfl), hX, congrArg Value.bool (by simp [plainR, *])⟩
      · refine wd_take 15 _ _ rfl (by kernel_rfl) hS (yd_no rfl (congrArg Value.bool hg17)) ?_
        refine wd_take 16 _ _ rfl (by kernel_rfl) hS (yd_no rfl (congrArg Value.bool hg17)) ?_
        refine wd_take 17 _ _ rfl (by kernel_rfl) hS (yd_no rfl (congrArg Value.bool hg17)) ?_
        refine wd_take 18 _ _ rfl (by kernel_rfl) hS (yd_do fun A hA => rn_pickF (congrArg Value.bool hg17) (by conv => lhs; whnf)) ?_
        refine wd_take 19 _ _ rfl (by kernel_rfl) hS (yd_do fun A hA => rn_assign (by conv => lhs; whnf)) ?_
        refine wd_done (by kernel_rfl) ?_ _
        replace hX := hX.tr hS
        replace hB1 := hB1.ext hS id
        refine W_ret ?_
        exact ⟨_, resR1 (res1_tmp rfl), hX, congrArg Value.bool (by simp [plainR, *])⟩
    · refine wd_take 10 _ _ rfl (by kernel_rfl) hS (yd_no rfl (congrArg Value.bool hg12)) ?_
      refine wd_take 11 _ _ rfl (by kernel_rfl) hS (yd_no rfl (congrArg Value.bool hg12)) ?_
      refine wd_take 12 _ _ rfl (by kernel_rfl) hS (yd_no rfl (congrArg Value.bool hg12)) ?_
      refine wd_take 13 _ _ rfl (by kernel_rfl) hS (yd_do fun A hA => rn_pickF (congrArg Value.bool hg12) (by conv => lhs; whnf)) ?_
      refine wd_take 14 _ _ rfl (by kernel_rfl) hS (yd_do fun A hA => rn_move (by conv => lhs; whnf)) ?_
      refine wd_take 15 _ _ rfl (by kernel_rfl) hS (yd_no rfl rfl) ?_
      refine wd_take 16 _ _ rfl (by kernel_rfl) hS (yd_no rfl rfl) ?_
      refine wd_take 17 _ _ rfl (by kernel_rfl) hS (yd_no rfl rfl) ?_
      refine wd_take 18 _ _ rfl (by kernel_rfl) hS (yd_do fun A hA => rn_pickF rfl (by conv => lhs; whnf)) ?_
      refine wd_take 19 _ _ rfl (by kernel_rfl) hS (yd_do fun A hA => rn_assign (by conv => lhs; whnf)) ?_
      refine wd_done (by kernel_rfl) ?_ _
      replace hX := hX.tr hS
      replace hB1 := hB1.ext hS id
      refine W_ret ?_
      exact ⟨_, resR1 (res1_tmp rfl), hX, congrArg Value.bool (by simp [plainR, *])⟩
  · have n1 : nameR x = [] := Classical.not_not.1 (of_decide_eq_false hg6)
    refine wd_take 4 _ _ rfl (by kernel_rfl) hS (yd_no rfl (congrArg Value.bool hg6)) ?_
    refine wd_take 6 _ _ rfl (by kernel_rfl) hS (yd_no rfl (congrArg Value.bool hg6)) ?_
    refine wd_only 5 _ rfl (by kernel_rfl) ?_
    refine s1_no rfl (congrArg Value.bool hg6) ⟨hS, ?_⟩
    refine wd_take 7 _ _ rfl (by kernel_rfl) hS (yd_no rfl (congrArg Value.bool hg6)) ?_
    refine wd_take 8 _ _ rfl (by kernel_rfl) hS (yd_do fun A hA => rn_pickF (congrArg Value.bool hg6) (by conv => lhs; whnf)) ?_
    refine wd_take 9 _ _ rfl (by kernel_rfl) hS (yd_do fun A hA => rn_move (by conv => lhs; whnf)) ?_
    refine wd_take 10 _ _ rfl (by kernel_rfl) hS (yd_no rfl rfl) ?_
    refine wd_take 11 _ _ rfl (by kernel_rfl) hS (yd_no rfl rfl) ?_
    refine wd_take 12 _ _ rfl (by kernel_rfl) hS (yd_no rfl rfl) ?_
    refine wd_take 13 _ _ rfl (by kernel_rfl) hS (yd_do fun A hA => rn_pickF rfl (by conv => lhs; whnf)) ?_
    refine wd_take 14 _ _ rfl (by kernel_rfl) hS (yd_do fun A hA => rn_move (by conv => lhs; whnf)) ?_
    refine wd_take 15 _ _ rfl (by kernel_rfl) hS (yd_no rfl rfl) ?_
    refine wd_take 16 _ _ rfl (by kernel_rfl) hS (yd_no rfl rfl) ?_
    refine wd_take 17 _ _ rfl (by kernel_rfl) hS (yd_no rfl rfl) ?_
    refine wd_take 18 _ _ rfl (by kernel_rfl) hS (yd_do fun A hA => rn_pickF rfl (by conv => lhs; whnf)) ?_
    refine wd_take 19 _ _ rfl (by kernel_rfl) hS (yd_do fun A hA => rn_assign (by conv => lhs; whnf)) ?_
    refine wd_done (by kernel_rfl) ?_ _
    replace hX := hX.tr hS
    replace hB1 := hB1.ext hS id
    refine W_ret ?_
    exact ⟨_, resR1 (res1_tmp rfl), hX, congrArg Value.bool (by simp [plainR, *])⟩
-- bellman/bellmanref19.Plain
set_option maxHeartbeats 1600000 in
theorem rplain_ok (w : World) (x : OpD) : Fn Tryz.prog 61 #[.agg x.enc.toArray] w fun u w' => u = .bool (plainR x) := by
  rw [← plainD_eq]
  have hX := Ext.refl Non w
  refine fn_of_W (args := [_]) Tryz.func61 rfl (by kernel_rfl) rfl ?_
  refine W_seq ?_
  refine W_region ?_
  refine wl_boxS rfl ?_; intro b1 w1 hb1 hE1 hB1
  have hq1 : w.heap.size ≤ b1 := Nat.le_trans hX.size hb1
  have hl1 : Mine Non w b1 := .inr hq1
  replace hX := hX.tr hE1
  refine wl_val (rn_assign (by conv => lhs; whnf)) ?_
  refine wl_nil ?_
  refine W_seq ?_
  refine W_seq ?_
  refine W_region ?_
  refine wl_val (rn_fieldAddr f_69_0 (by decide) rfl) ?_
  refine wl_val (rn_load1 p_3 rfl hB1 rfl) ?_
  refine wl_val (rn_eql rfl rfl) ?_
  refine wl_nil ?_
  refine W_cond rfl (fun hc0 => ?_) (fun hc0 => ?_)
  · have qc0T := of_decide_eq_true hc0
    refine W_seq ?_
    refine W_region ?_
    refine wl_val (rn_fieldAddr f_69_1 (by decide) rfl) ?_
    refine wl_val (rn_load1 p_3 rfl hB1 rfl) ?_
    refine wl_val (rn_eql rfl rfl) ?_
    refine wl_val (rn_assign (by conv => lhs; whnf)) ?_
    refine wl_nil ?_
    refine W_ret ?_
    first | exact ⟨_, resR1 (res1_tmp rfl), hX, congrArg Value.bool (plainD_last (by omega) (by omega) (by omega) (by omega) (by omega) (by simpa using hg32) hc1 (by omega))⟩ | exact ⟨_, resR1 (res1_tmp rfl), hX, congrArg Value.bool (by unfold plainDB; simp_all)⟩
  · have qc0F := of_decide_eq_false hc0
    refine W_skip ?_
    refine W_seq ?_
    refine W_seq ?_
    refine W_region ?_
    refine wl_val (rn_fieldAddr f_69_0 (by decide) rfl) ?_
    refine wl_val (rn_load1 p_3 rfl hB1 rfl) ?_
    refine wl_val (rn_lss rfl rfl) ?_
    refine wl_val (rn_move (by conv => lhs; whnf)) ?_
    refine wl_split (d := 12) rfl (fun hg12 => ?_) (fun hg12 => ?_)
    · have qg12T := of_decide_eq_true hg12
      refine wl_no rfl (congrArg Value.bool hg12) ?_
      refine wl_no rfl (congrArg Value.bool hg12) ?_
      refine wl_no rfl (congrArg Value.bool hg12) ?_
      refine wl_val (rn_pickT (congrArg Value.bool hg12) (by conv => lhs; whnf)) ?_
      refine wl_val (rn_move (by conv => lhs; whnf)) ?_
      refine wl_no rfl rfl ?_
      refine wl_no rfl rfl ?_
      refine wl_no rfl rfl ?_
      refine wl_val (rn_pickT rfl (by conv => lhs; whnf)) ?_
      refine wl_val (rn_move (by conv => lhs; whnf)) ?_
      refine wl_no rfl rfl ?_
      refine wl_no rfl rfl ?_
      refine wl_no rfl rfl ?_
      refine wl_val (rn_pickT rfl (by conv => lhs; whnf)) ?_
      refine wl_val (rn_move (by conv => lhs; whnf)) ?_
      refine wl_no rfl rfl ?_
      refine wl_no rfl rfl ?_
      refine wl_no rfl rfl ?_
      refine wl_val (rn_pickT rfl (by conv => lhs; whnf)) ?_
      refine wl_val (rn_move (by conv => lhs; whnf)) ?_
      refine wl_no rfl rfl ?_
      refine wl_no rfl rfl ?_
      refine wl_val (rn_pickT rfl (by conv => lhs; whnf)) ?_
      refine wl_nil ?_
      refine W_condT rfl ?_
      refine W_seq ?_
      refine W_region ?_
      refine wl_val (rn_assign (by conv => lhs; whnf)) ?_
      refine wl_nil ?_
      refine W_ret ?_
      first | exact ⟨_, resR1 (res1_tmp rfl), hX, congrArg Value.bool (plainD_last (by omega) (by omega) (by omega) (by omega) (by omega) (by simpa using hg32) hc1 (by omega))⟩ | exact ⟨_, resR1 (res1_tmp rfl), hX, congrArg Value.bool (by unfold plainDB; simp_all)⟩
    · have qg12F := of_decide_eq_false hg12
      refine wl_yes rfl (congrArg Value.bool hg12) ?_
      refine wl_val (rn_fieldAddr f_69_0 (by decide) rfl) ?_
      refine wl_yes rfl (congrArg Value.bool hg12) ?_
      refine wl_val (rn_load1 p_3 rfl hB1 rfl) ?_
      refine wl_yes rfl (congrArg Value.bool hg12) ?_
      refine wl_val (rn_gtr rfl rfl) ?_
      refine wl_val (rn_pickF (congrArg Value.bool hg12) (by conv => lhs; whnf)) ?_
      refine wl_val (rn_move (by conv => lhs; whnf)) ?_
      refine wl_split (d := 17) rfl (fun hg17 => ?_) (fun hg17 => ?_)
      · have qg17T := of_decide_eq_true hg17
        refine wl_no rfl (congrArg Value.bool hg17) ?_
        refine wl_no rfl (congrArg Value.bool hg17) ?_
        refine wl_no rfl (congrArg Value.bool hg17) ?_
        refine wl_val (rn_pickT (congrArg Value.bool hg17) (by conv => lhs; whnf)) ?_
        refine wl_val (rn_move (by conv => lhs; whnf)) ?_
        refine wl_no rfl rfl ?_
        refine wl_no rfl rfl ?_
        refine wl_no rfl rfl ?_
        refine wl_val (rn_pickT rfl (by conv => lhs; whnf)) ?_
        refine wl_val (rn_move (by conv => lhs; whnf)) ?_
        refine wl_no rfl rfl ?_
        refine wl_no rfl rfl ?_
        refine wl_no rfl rfl ?_
        refine wl_val (rn_pickT rfl (by conv => lhs; whnf)) ?_
        refine wl_val (rn_move (by conv => lhs; whnf)) ?_
        refine wl_no rfl rfl ?_
        refine wl_no rfl rfl ?_
        refine wl_val (rn_pickT rfl (by conv => lhs; whnf)) ?_
        refine wl_nil ?_
        refine W_condT rfl ?_
        refine W_seq ?_
        refine W_region ?_
        refine wl_val (rn_assign (by conv => lhs; whnf)) ?_
        refine wl_nil ?_
        refine W_ret ?_
        first | exact ⟨_, resR1 (res1_tmp rfl), hX, congrArg Value.bool (plainD_last (by omega) (by omega) (by omega) (by omega) (by omega) (by simpa using hg32) hc1 (by omega))⟩ | exact ⟨_, resR1 (res1_tmp rfl), hX, congrArg Value.bool (by unfold plainDB; simp_all)⟩
      · have qg17F := of_decide_eq_false hg17
        refine wl_yes rfl (congrArg Value.bool hg17) ?_
        refine wl_val (rn_fieldAddr f_69_1 (by decide) rfl) ?_
        refine wl_yes rfl (congrArg Value.bool hg17) ?_
        refine wl_val (rn_load1 p_3 rfl hB1 rfl) ?_
        refine wl_yes rfl (congrArg Value.bool hg17) ?_
        refine wl_val (rn_lss rfl rfl) ?_
        refine wl_val (rn_pickF (congrArg Value.bool hg17) (by conv => lhs; whnf)) ?_
        refine wl_val (rn_move (by conv => lhs; whnf)) ?_
        refine wl_split (d := 22) rfl (fun hg22 => ?_) (fun hg22 => ?_)
        · have qg22T := of_decide_eq_true hg22
          refine wl_no rfl (congrArg Value.bool hg22) ?_
          refine wl_no rfl (congrArg Value.bool hg22) ?_
          refine wl_no rfl (congrArg Value.bool hg22) ?_
          refine wl_val (rn_pickT (congrArg Value.bool hg22) (by conv => lhs; whnf)) ?_
          refine wl_val (rn_move (by conv => lhs; whnf)) ?_
          refine wl_no rfl rfl ?_
          refine wl_no rfl rfl ?_
          refine wl_no rfl rfl ?_
          refine wl_val (rn_pickT rfl (by conv => lhs; whnf)) ?_
          refine wl_val (rn_move (by conv => lhs; whnf)) ?_
          refine wl_no rfl rfl ?_
          refine wl_no rfl rfl ?_
          refine wl_val (rn_pickT rfl (by conv => lhs; whnf)) ?_
          refine wl_nil ?_
          refine W_condT rfl ?_
          refine W_seq ?_
          refine W_region ?_
          refine wl_val (rn_assign (by conv => lhs; whnf)) ?_
          refine wl_nil ?_
          refine W_ret ?_
          first | exact ⟨_, resR1 (res1_tmp rfl), hX, congrArg Value.bool (plainD_last (by omega) (by omega) (by omega) (by omega) (by omega) (by simpa using hg32) hc1 (by omega))⟩ | exact ⟨_, resR1 (res1_tmp rfl), hX, congrArg Value.bool (by unfold plainDB; simp_all)⟩
        · have qg22F := of_decide_eq_false hg22
          refine wl_yes rfl (congrArg Value.bool hg22) ?_
          refine wl_val (rn_fieldAddr f_69_1 (by decide) rfl) ?_
          refine wl_yes rfl (congrArg Value.bool hg22) ?_
          refine wl_val (rn_load1 p_3 rfl hB1 rfl) ?_
          refine wl_yes rfl (congrArg Value.bool hg22) ?_
          refine wl_val (rn_gtr rfl rfl) ?_
          refine wl_val (rn_pickF (congrArg Value.bool hg22) (by conv => lhs; whnf)) ?_
          refine wl_val (rn_move (by conv => lhs; whnf)) ?_
          refine wl_split (d := 27) rfl (fun hg27 => ?_) (fun hg27 => ?_)
          · have qg27T := of_decide_eq_true hg27
            refine wl_no rfl (congrArg Value.bool hg27) ?_
            refine wl_no rfl (congrArg Value.bool hg27) ?_
            refine wl_no rfl (congrArg Value.bool hg27) ?_
            refine wl_val (rn_pickT (congrArg Value.bool hg27) (by conv => lhs; whnf)) ?_
            refine wl_val (rn_move (by conv => lhs; whnf)) ?_
            refine wl_no rfl rfl ?_
            refine wl_no rfl rfl ?_
            refine wl_val (rn_pickT rfl (by conv => lhs; whnf)) ?_
            refine wl_nil ?_
            refine W_condT rfl ?_
            refine W_seq ?_
            refine W_region ?_
            refine wl_val (rn_assign (by conv => lhs; whnf)) ?_
            refine wl_nil ?_
            refine W_ret ?_
            first | exact ⟨_, resR1 (res1_tmp rfl), hX, congrArg Value.bool (plainD_last (by omega) (by omega) (by omega) (by omega) (by omega) (by simpa using hg32) hc1 (by omega))⟩ | exact ⟨_, resR1 (res1_tmp rfl), hX, congrArg Value.bool (by unfold plainDB; simp_all)⟩
          · have qg27F := of_decide_eq_false hg27
            refine wl_yes rfl (congrArg Value.bool hg27) ?_
            refine wl_val (rn_fieldAddr f_69_3 (by decide) rfl) ?_
            refine wl_yes rfl (congrArg Value.bool hg27) ?_
            refine wl_val (rn_load1 p_9 rfl hB1 rfl) ?_
            refine wl_yes rfl (congrArg Value.bool hg27) ?_
            refine wl_val (rn_sneq rfl rfl) ?_
            refine wl_val (rn_pickF (congrArg Value.bool hg27) (by conv => lhs; whnf)) ?_
            refine wl_val (rn_move (by conv => lhs; whnf)) ?_
            refine wl_split (d := 32) rfl (fun hg32 => ?_) (fun hg32 => ?_)
            · refine wl_no rfl (congrArg Value.bool hg32) ?_
              refine wl_no rfl (congrArg Value.bool hg32) ?_
              refine wl_val (rn_pickT (congrArg Value.bool hg32) (by conv => lhs; whnf)) ?_
              refine wl_nil ?_
              refine W_condT rfl ?_
              refine W_seq ?_
              refine W_region ?_
              refine wl_val (rn_assign (by conv => lhs; whnf)) ?_
              refine wl_nil ?_
              refine W_ret ?_
              first | exact ⟨_, resR1 (res1_tmp rfl), hX, congrArg Value.bool (plainD_last (by omega) (by omega) (by omega) (by omega) (by omega) (by simpa using hg32) hc1 (by omega))⟩ | exact ⟨_, resR1 (res1_tmp rfl), hX, congrArg Value.bool (by unfold plainDB; simp_all)⟩
            · refine wl_yes rfl (congrArg Value.bool hg32) ?_
              refine wl_val (rn_fieldAddr f_69_4 (by decide) rfl) ?_
              refine wl_yes rfl (congrArg Value.bool hg32) ?_
              refine wl_val (rn_load1 p_4 rfl hB1 rfl) ?_
              refine wl_val (rn_pickF (congrArg Value.bool hg32) (by conv => lhs; whnf)) ?_
              refine wl_nil ?_
              refine W_cond rfl (fun hc1 => ?_) (fun hc1 => ?_)
              · refine W_seq ?_
                refine W_region ?_
                refine wl_val (rn_assign (by conv => lhs; whnf)) ?_
                refine wl_nil ?_
                refine W_ret ?_
                first | exact ⟨_, resR1 (res1_tmp rfl), hX, congrArg Value.bool (plainD_last (by omega) (by omega) (by omega) (by omega) (by omega) (by simpa using hg32) hc1 (by omega))⟩ | exact ⟨_, resR1 (res1_tmp rfl), hX, congrArg Value.bool (by unfold plainDB; simp_all)⟩
              · refine W_skip ?_
                refine W_seq ?_
                refine W_region ?_
                refine wl_val (rn_fieldAddr f_69_0 (by decide) rfl) ?_
                refine wl_val (rn_load1 p_3 rfl hB1 rfl) ?_
                refine wl_val (rn_lss rfl rfl) ?_
                refine wl_val (rn_move (by conv => lhs; whnf)) ?_
                refine wl_split (d := 39) rfl (fun hg39 => ?_) (fun hg39 => ?_)
                · have qg39T := of_decide_eq_true hg39
                  refine wl_no rfl (congrArg Value.bool hg39) ?_
                  refine wl_no rfl (congrArg Value.bool hg39) ?_
                  refine wl_no rfl (congrArg Value.bool hg39) ?_
                  refine wl_val (rn_pickT (congrArg Value.bool hg39) (by conv => lhs; whnf)) ?_
                  refine wl_val (rn_assign (by conv => lhs; whnf)) ?_
                  refine wl_nil ?_
                  refine W_ret ?_
                  first | exact ⟨_, resR1 (res1_tmp rfl), hX, congrArg Value.bool (plainD_last (by omega) (by omega) (by omega) (by omega) (by omega) (by simpa using hg32) hc1 (by omega))⟩ | exact ⟨_, resR1 (res1_tmp rfl), hX, congrArg Value.bool (by unfold plainDB; simp_all)⟩
                · have qg39F := of_decide_eq_false hg39
                  refine wl_yes rfl (congrArg Value.bool hg39) ?_
                  refine wl_val (rn_fieldAddr f_69_2 (by decide) rfl) ?_
                  refine wl_yes rfl (congrArg Value.bool hg39) ?_
                  refine wl_val (rn_load1 p_9 rfl hB1 rfl) ?_
                  refine wl_yes rfl (congrArg Value.bool hg39) ?_
                  refine wl_val (rn_seql rfl rfl) ?_
                  refine wl_val (rn_pickF (congrArg Value.bool hg39) (by conv => lhs; whnf)) ?_
                  refine wl_val (rn_assign (by conv => lhs; whnf)) ?_
                  refine wl_nil ?_
                  refine W_ret ?_
                  first | exact ⟨_, resR1 (res1_tmp rfl), hX, congrArg Value.bool (plainD_last (by omega) (by omega) (by omega) (by omega) (by omega) (by simpa using hg32) hc1 (by omega))⟩ | exact ⟨_, resR1 (res1_tmp rfl), hX, congrArg Value.bool (by unfold plainDB; simp_all)⟩
theorem rtext_ok (n : Nat) : ∀ (w : World) (hn : n ≤ 1000000), Fn Tryz.prog 53 #[.int .i64 (n : Nat)] w fun u w' => u = Sv (Lib.decDigits n) := by
  refine Nat.strongRecOn n ?_; intro n ih w hn

-- bellman/bellmanref19.Text
  have hX := Ext.refl Non w
  refine fn_of_W (args := [_]) Tryz.func53 rfl (by kernel_rfl) rfl ?_
  refine W_seq ?_
  refine W_region ?_
  refine wl_val (rn_assign (by conv => lhs; whnf)) ?_
  refine wl_nil ?_
  refine W_seq ?_
  refine W_seq ?_
  refine W_region ?_
  refine wl_val (rn_move (by conv => lhs; whnf)) ?_
  refine wl_val (rn_geq rfl rfl) ?_
  refine wl_nil ?_
  refine W_cond rfl (fun hc0 => ?_) (fun hc0 => ?_)
  · have q := of_decide_eq_true hc0
    refine W_seq ?_
    refine W_region ?_
    refine wl_val (rn_move (by conv => lhs; whnf)) ?_
    refine wl_val (rn_quoN (b := 10) rfl rfl (by decide) (wrap_id (by omega))) ?_
    refine wl_call e_53 rfl (ih (n / 10) (by omega) w (by omega)) ?_; intro v7 w1 hE1 hR1
    replace hX := hX.tr hE1
    subst hR1
    refine wl_val (rn_move (by conv => lhs; whnf)) ?_
    refine wl_val (rn_remN (b := 10) rfl rfl (by decide)) ?_
    refine wl_call e_53 rfl (ih (n % 10) (by omega) w1 (by omega)) ?_; intro v10 w2 hE2 hR2
    replace hX := hX.tr hE2
    subst hR2
    refine wl_val (rn_sadd rfl rfl (by have h1 := dec_len6 (n := n / 10) (by omega); have h2 := dec_len6 (n := n % 10) (by omega); omega)) ?_
    refine wl_val (rn_assign (by conv => lhs; whnf)) ?_
    refine wl_nil ?_
    refine W_ret ?_
    exact ⟨_, resR1 (res1_tmp rfl), hX, by rw [dec_snoc (n := n) (by omega)]; rfl⟩
  · have q := of_decide_eq_false hc0
    refine W_skip ?_
    refine W_seq ?_
    refine W_region ?_
    refine wl_val (rn_move (by conv => lhs; whnf)) ?_
    refine wl_val (rn_move (by conv => lhs; whnf)) ?_
    refine wl_val (rn_add rfl rfl (by omega)) ?_
    refine wl_val (Rn.cast (rn_sslice us_9 (l := n) (h := n + 1) (a := digs) rfl ⟨_, rfl⟩ ⟨_, rfl⟩ (by omega) (show n + 1 ≤ 10 by omega)) (v' := Sv (Lib.decDigits n)) (congrArg Sv ((one_at (digs_at (by omega))).trans (Lib.decDigits_one (by omega)).symm))) ?_
    refine wl_val (rn_assign (by conv => lhs; whnf)) ?_
    refine wl_nil ?_
    refine W_ret ?_
    exact ⟨_, resR1 (res1_tmp rfl), hX, rfl⟩
end Go.Proofs.YthcclgoidchkdaaGreatDoorC

/- The line of an operation: the program's and the document's. -/
set_option linter.unusedVariables false
set_option linter.unusedSimpArgs false
set_option maxRecDepth 100000
namespace Go.Proofs.YthcclgoidchkdaaGreatDoorC
open Go.RowKit
theorem line1 (n : Nat) (tx pl : Str) : lineR ⟨1, (n : Int), tx, pl, false⟩ = (([115, 117, 98, 32] ++ Lib.decDigits n) ++ [32]) ++ wordR tx := by unfold lineR wordsR; simp [nameR, join3, itoa_nat]
theorem line2 (n : Nat) (tx pl : Str) : lineR ⟨2, (n : Int), tx, pl, false⟩ = (([117, 110, 115, 117, 98, 32] ++ Lib.decDigits n) ++ [32]) ++ wordR tx := by unfold lineR wordsR; simp [nameR, join3, itoa_nat]
theorem line4 (n : Nat) (tx pl : Str) : lineR ⟨4, (n : Int), tx, pl, false⟩ = [112, 111, 108, 108, 32] ++ Lib.decDigits n := by unfold lineR wordsR; simp [nameR, join2, itoa_nat]
theorem line5 (n : Nat) (tx pl : Str) : lineR ⟨5, (n : Int), tx, pl, false⟩ = [100, 114, 111, 112, 115, 32] ++ Lib.decDigits n := by unfold lineR wordsR; simp [nameR, join2, itoa_nat]
theorem line3k (s : Int) (tx pl : Str) : lineR ⟨3, s, tx, pl, true⟩ = (([107, 101, 101, 112, 32] ++ wordR tx) ++ [32]) ++ wordR pl := by unfold lineR wordsR; simp [nameR, join3]
theorem line3p (s : Int) (tx pl : Str) : lineR ⟨3, s, tx, pl, false⟩ = (([112, 117, 98, 32] ++ wordR tx) ++ [32]) ++ wordR pl := by unfold lineR wordsR; simp [nameR, join3]
theorem Tab.gl {w : World} (h : Tab w) {B : Nat} (hB : w.heap.size ≤ B) : ∃ g, Tryz.prog.globalNamed "internal/strconv.uint64pow10" = some g ∧ g < B := by
  unfold Tab Lib.TabIs World.var? at h
  cases hg : Tryz.prog.globalNamed "internal/strconv.uint64pow10" with
  | none => rw [hg] at h; simp at h
  | some g =>
    rw [hg] at h
    simp only [Option.bind_some] at h
    refine ⟨g, rfl, ?_⟩
    rcases Nat.lt_or_ge g w.heap.size with h' | h'
    · omega
    · rw [Array.getElem?_eq_none h'] at h; cases h
theorem name_len (x : OpD) : (nameR x).length ≤ 5 := by unfold nameR; (repeat' split) <;> simp
-- bellman/bellmanref19.Line
set_option maxHeartbeats 1600000 in
theorem rline_ok (w : World) (x : OpD) (hxt : x.text.length ≤ 4000) (hxp : x.payload.length ≤ 4000) : Fn Tryz.prog 54 #[.agg x.enc.toArray] w fun u w' => u = .tuple #[Sv (if plainR x = true then lineR x else []), .int .i64 (if plainR x = true then 0 else 10)] := by
  obtain ⟨kd, sb, tx, pl, kp⟩ := x
  replace hxt : tx.length ≤ 4000 := hxt; replace hxp : pl.length ≤ 4000 := hxp
  have hX := Ext.refl Non w
  refine fn_of_W (args := [_]) Tryz.func54 rfl (by kernel_rfl) rfl ?_
  refine W_seq ?_
  refine W_region ?_
  refine wl_boxS rfl ?_; intro b1 w1 hb1 hE1 hB1
  have hq1 : w.heap.size ≤ b1 := Nat.le_trans hX.size hb1
  have hl1 : Mine Non w b1 := .inr hq1
  replace hX := hX.tr hE1
  refine wl_val (rn_assign (by conv => lhs; whnf)) ?_
  refine wl_val (rn_assign (by conv => lhs; whnf)) ?_
  refine wl_nil ?_
  refine W_seq ?_
  refine W_seq ?_
  refine W_region ?_
  refine wl_val (rn_loadB s_69 rfl rfl hB1) ?_
  refine wl_call e_61 rfl (rplain_ok w1 _) ?_; intro v6 w2 hE2 hR2
  replace hX := hX.tr hE2
  replace hB1 := hB1.ext hE2 id
  subst hR2
  refine wl_val (rn_not rfl) ?_
  refine wl_nil ?_
  refine W_cond rfl (fun hc0 => ?_) (fun hc0 => ?_)
  · have hp : plainR ⟨kd, sb, tx, pl, kp⟩ = false := by simpa using hc0
    refine W_seq ?_
    refine W_region ?_
    refine wl_val (rn_assign (by conv => lhs; whnf)) ?_
    refine wl_val (rn_assign (by conv => lhs; whnf)) ?_
    refine wl_nil ?_
    refine W_ret ?_
    exact ⟨_, resR2 (res1_tmp rfl) (res1_tmp rfl), hX, by rw [if_neg (by rw [hp]; decide), if_neg (by rw [hp]; decide)]; rfl⟩
  · have hp : plainR ⟨kd, sb, tx, pl, kp⟩ = true := by simpa using hc0
    have hP := (plain_iff _).1 hp
    have hsr : 0 ≤ sb ∧ sb ≤ 9999 := by rcases hP with ⟨_, h⟩ | ⟨_, h, h2, _⟩ | ⟨_, h, h2, _⟩; (have h : sb = 0 := h); omega; exact ⟨h, h2⟩; exact ⟨h, h2⟩
    obtain ⟨n, rfl⟩ : ∃ n : Nat, sb = (n : Int) := ⟨sb.toNat, by omega⟩
    have hn4 : n ≤ 9999 := by omega
    have hd4 := dec_len hn4; have hw1 := wordR_len tx; have hw2 := wordR_len pl
    refine W_skip ?_
    refine W_seq ?_
    refine W_seq ?_
    refine W_region ?_
    refine wl_val (rn_fieldAddr f_69_0 (by decide) rfl) ?_
    refine wl_val (rn_load1 p_3 rfl hB1 rfl) ?_
    refine wl_nil ?_
    refine W_block ?_   -- block 0
    refine W_seq ?_
    refine W_region ?_
    refine wl_val (rn_eql rfl rfl) ?_
    refine wl_val (rn_assign (by conv => lhs; whnf)) ?_
    refine wl_nil ?_
    refine W_cond rfl (fun hc1 => ?_) (fun hc1 => ?_)
    · obtain rfl : kd = 1 := of_decide_eq_true hc1
      obtain rfl : kp = false := by rcases hP with ⟨h, _⟩ | ⟨_, _, _, _, h⟩ | ⟨_, _, _, _, _, h⟩; simp at h; exact h; exact h
      refine W_seq ?_
      refine W_drawE mixed ?_; intro w3 hE3
      replace hX := hX.tr hE3
      replace hB1 := hB1.ext hE3 id
      have hS := Ext.refl Non w3
      refine wd_take 0 _ _ rfl (by kernel_rfl) hS (yd_do fun A hA => rn_fieldAddr f_69_1 (by decide) rfl) ?_
      refine wd_take 1 _ _ rfl (by kernel_rfl) hS (yd_do fun A hA => rn_load1 p_3 rfl (hB1.ext hA id) rfl) ?_
      refine wd_take 5 _ _ rfl (by kernel_rfl) hS (yd_do fun A hA => rn_fieldAddr f_69_2 (by decide) rfl) ?_
      refine wd_take 6 _ _ rfl (by kernel_rfl) hS (yd_do fun A hA => rn_load1 p_9 rfl (hB1.ext hA id) rfl) ?_
      refine wd_only 2 _ rfl (by kernel_rfl) ?_
      refine s1_do ?_
      refine wl_call e_53 rfl (rtext_ok n w3 (by omega)) ?_; intro v14 w4 hE4 hR4
      replace hS := hS.tr hE4
      subst hR4
      refine wl_nil ⟨hS, ?_⟩
      refine wd_take 3 _ _ rfl (by kernel_rfl) hS (yd_do fun A hA => rn_sadd rfl rfl (by simp only [List.length_append, List.length_cons, List.length_nil]; omega)) ?_
      refine wd_take 4 _ _ rfl (by kernel_rfl) hS (yd_do fun A hA => rn_sadd rfl rfl (by simp only [List.length_append, List.length_cons, List.length_nil]; omega)) ?_
      refine wd_only 7 _ rfl (by kernel_rfl) ?_
      refine s1_do ?_
      refine wl_call e_96 rfl (rword_ok w4 tx hxt) ?_; intro v19 w5 hE5 hR5
      replace hS := hS.tr hE5
      subst hR5
      refine wl_nil ⟨hS, ?_⟩
      refine wd_take 8 _ _ rfl (by kernel_rfl) hS (yd_do fun A hA => rn_sadd rfl rfl (by simp only [List.length_append, List.length_cons, List.length_nil]; omega)) ?_
      refine wd_take 9 _ _ rfl (by kernel_rfl) hS (yd_do fun A hA => rn_assign (by conv => lhs; whnf)) ?_
      refine wd_take 10 _ _ rfl (by kernel_rfl) hS (yd_do fun A hA => rn_assign (by conv => lhs; whnf)) ?_
      refine wd_done (by kernel_rfl) ?_ _
      replace hX := hX.tr hS
      replace hB1 := hB1.ext hS id
      refine W_ret ?_
      exact ⟨_, resR2 (res1_tmp rfl) (res1_tmp rfl), hX, by rw [if_pos hp, if_pos hp, line1]; rfl⟩
    · have k1 : ¬ kd = 1 := of_decide_eq_false hc1
      refine W_seq ?_
      refine W_region ?_
      refine wl_val (rn_eql rfl rfl) ?_
      refine wl_val (rn_assign (by conv => lhs; whnf)) ?_
      refine wl_nil ?_
      refine W_cond rfl (fun hc2 => ?_) (fun hc2 => ?_)
      · obtain rfl : kd = 2 := of_decide_eq_true hc2
        obtain rfl : kp = false := by rcases hP with ⟨h, _⟩ | ⟨_, _, _, _, h⟩ | ⟨_, _, _, _, _, h⟩; simp at h; exact h; exact h
        refine W_seq ?_
        refine W_drawE mixed ?_; intro w6 hE6
        replace hX := hX.tr hE6
        replace hB1 := hB1.ext hE6 id
        have hS := Ext.refl Non w6
        refine wd_take 0 _ _ rfl (by kernel_rfl) hS (yd_do fun A hA => rn_fieldAddr f_69_1 (by decide) rfl) ?_
        refine wd_take 1 _ _ rfl (by kernel_rfl) hS (yd_do fun A hA => rn_load1 p_3 rfl (hB1.ext hA id) rfl) ?_
        refine wd_take 5 _ _ rfl (by kernel_rfl) hS (yd_do fun A hA => rn_fieldAddr f_69_2 (by decide) rfl) ?_
        refine wd_take 6 _ _ rfl (by kernel_rfl) hS (yd_do fun A hA => rn_load1 p_9 rfl (hB1.ext hA id) rfl) ?_
        refine wd_only 2 _ rfl (by kernel_rfl) ?_
        refine s1_do ?_
        refine wl_call e_53 rfl (rtext_ok n w6 (by omega)) ?_; intro v25 w7 hE7 hR7
        replace hS := hS.tr hE7
        subst hR7
        refine wl_nil ⟨hS, ?_⟩
        refine wd_take 3 _ _ rfl (by kernel_rfl) hS (yd_do fun A hA => rn_sadd rfl rfl (by simp only [List.length_append, List.length_cons, List.length_nil]; omega)) ?_
        refine wd_take 4 _ _ rfl (by kernel_rfl) hS (yd_do fun A hA => rn_sadd rfl rfl (by simp only [List.length_append, List.length_cons, List.length_nil]; omega)) ?_
        refine wd_only 7 _ rfl (by kernel_rfl) ?_
        refine s1_do ?_
        refine wl_call e_96 rfl (rword_ok w7 tx hxt) ?_; intro v30 w8 hE8 hR8
        replace hS := hS.tr hE8
        subst hR8
        refine wl_nil ⟨hS, ?_⟩
        refine wd_take 8 _ _ rfl (by kernel_rfl) hS (yd_do fun A hA => rn_sadd rfl rfl (by simp only [List.length_append, List.length_cons, List.length_nil]; omega)) ?_
        refine wd_take 9 _ _ rfl (by kernel_rfl) hS (yd_do fun A hA => rn_assign (by conv => lhs; whnf)) ?_
        refine wd_take 10 _ _ rfl (by kernel_rfl) hS (yd_do fun A hA => rn_assign (by conv => lhs; whnf)) ?_
        refine wd_done (by kernel_rfl) ?_ _
        replace hX := hX.tr hS
        replace hB1 := hB1.ext hS id
        refine W_ret ?_
        exact ⟨_, resR2 (res1_tmp rfl) (res1_tmp rfl), hX, by rw [if_pos hp, if_pos hp, line2]; rfl⟩
      · have k2 : ¬ kd = 2 := of_decide_eq_false hc2
        refine W_seq ?_
        refine W_region ?_
        refine wl_val (rn_eql rfl rfl) ?_
        refine wl_val (rn_assign (by conv => lhs; whnf)) ?_
        refine wl_nil ?_
        refine W_cond rfl (fun hc3 => ?_) (fun hc3 => ?_)
        · obtain rfl : kd = 4 := of_decide_eq_true hc3
          obtain rfl : kp = false := by rcases hP with ⟨h, _⟩ | ⟨_, _, _, _, h⟩ | ⟨_, _, _, _, _, h⟩; simp at h; exact h; exact h
          refine W_seq ?_
          refine W_region ?_
          refine wl_val (rn_fieldAddr f_69_1 (by decide) rfl) ?_
          refine wl_val (rn_load1 p_3 rfl hB1 rfl) ?_
          refine wl_call e_53 rfl (rtext_ok n w2 (by omega)) ?_; intro v36 w9 hE9 hR9
          replace hX := hX.tr hE9
          replace hB1 := hB1.ext hE9 id
          subst hR9
          refine wl_val (rn_sadd rfl rfl (by simp only [List.length_append, List.length_cons, List.length_nil]; omega)) ?_
          refine wl_val (rn_assign (by conv => lhs; whnf)) ?_
          refine wl_val (rn_assign (by conv => lhs; whnf)) ?_
          refine wl_nil ?_
          refine W_ret ?_
          exact ⟨_, resR2 (res1_tmp rfl) (res1_tmp rfl), hX, by rw [if_pos hp, if_pos hp, line4]; rfl⟩
        · have k4 : ¬ kd = 4 := of_decide_eq_false hc3
          refine W_seq ?_
          refine W_region ?_
          refine wl_val (rn_eql rfl rfl) ?_
          refine wl_val (rn_assign (by conv => lhs; whnf)) ?_
          refine wl_nil ?_
          refine W_cond rfl (fun hc4 => ?_) (fun hc4 => ?_)
          · obtain rfl : kd = 5 := of_decide_eq_true hc4
            obtain rfl : kp = false := by rcases hP with ⟨h, _⟩ | ⟨_, _, _, _, h⟩ | ⟨_, _, _, _, _, h⟩; simp at h; exact h; exact h
            refine W_seq ?_
            refine W_region ?_
            refine wl_val (rn_fieldAddr f_69_1 (by decide) rfl) ?_
            refine wl_val (rn_load1 p_3 rfl hB1 rfl) ?_
            refine wl_call e_53 rfl (rtext_ok n w2 (by omega)) ?_; intro v42 w10 hE10 hR10
            replace hX := hX.tr hE10
            replace hB1 := hB1.ext hE10 id
            subst hR10
            refine wl_val (rn_sadd rfl rfl (by simp only [List.length_append, List.length_cons, List.length_nil]; omega)) ?_
            refine wl_val (rn_assign (by conv => lhs; whnf)) ?_
            refine wl_val (rn_assign (by conv => lhs; whnf)) ?_
            refine wl_nil ?_
            refine W_ret ?_
            exact ⟨_, resR2 (res1_tmp rfl) (res1_tmp rfl), hX, by rw [if_pos hp, if_pos hp, line5]; rfl⟩
          · have k5 : ¬ kd = 5 := of_decide_eq_false hc4
            obtain rfl : kd = 3 := by rcases hP with ⟨h, _⟩ | ⟨h, _⟩ | ⟨h, _⟩; exact h; (have h : kd = 1 ∨ kd = 2 := h); omega; (have h : kd = 4 ∨ kd = 5 := h); omega
            refine W_skip ?_
            refine W_seq ?_
            refine W_region ?_
            refine wl_val (rn_assign (by conv => lhs; whnf)) ?_
            refine wl_nil ?_
            refine W_seq ?_
            refine W_seq ?_
            refine W_region ?_
            refine wl_val (rn_fieldAddr f_69_4 (by decide) rfl) ?_
            refine wl_val (rn_load1 p_4 rfl hB1 rfl) ?_
            refine wl_nil ?_
            refine W_cond rfl (fun hc5 => ?_) (fun hc5 => ?_)
            · obtain rfl : kp = true := hc5
              refine W_region ?_
              refine wl_val (rn_assign (by conv => lhs; whnf)) ?_
              refine wl_nil ?_
              refine W_seq ?_
              refine W_drawE mixed ?_; intro w11 hE11
              replace hX := hX.tr hE11
              replace hB1 := hB1.ext hE11 id
              have hS := Ext.refl Non w11
              refine wd_take 0 _ _ rfl (by kernel_rfl) hS (yd_do fun A hA => rn_move (by conv => lhs; whnf)) ?_
              refine wd_take 1 _ _ rfl (by kernel_rfl) hS (yd_do fun A hA => rn_fieldAddr f_69_2 (by decide) rfl) ?_
              refine wd_take 2 _ _ rfl (by kernel_rfl) hS (yd_do fun A hA => rn_load1 p_9 rfl (hB1.ext hA id) rfl) ?_
              refine wd_take 6 _ _ rfl (by kernel_rfl) hS (yd_do fun A hA => rn_fieldAddr f_69_3 (by decide) rfl) ?_
              refine wd_take 7 _ _ rfl (by kernel_rfl) hS (yd_do fun A hA => rn_load1 p_9 rfl (hB1.ext hA id) rfl) ?_
              refine wd_only 3 _ rfl (by kernel_rfl) ?_
              refine s1_do ?_
              refine wl_call e_96 rfl (rword_ok w11 tx hxt) ?_; intro v49 w12 hE12 hR12
              replace hS := hS.tr hE12
              subst hR12
              refine wl_nil ⟨hS, ?_⟩
              refine wd_take 4 _ _ rfl (by kernel_rfl) hS (yd_do fun A hA => rn_sadd rfl rfl (by simp only [List.length_append, List.length_cons, List.length_nil]; omega)) ?_
              refine wd_take 5 _ _ rfl (by kernel_rfl) hS (yd_do fun A hA => rn_sadd rfl rfl (by simp only [List.length_append, List.length_cons, List.length_nil]; omega)) ?_
              refine wd_only 8 _ rfl (by kernel_rfl) ?_
              refine s1_do ?_
              refine wl_call e_96 rfl (rword_ok w12 pl hxp) ?_; intro v54 w13 hE13 hR13
              replace hS := hS.tr hE13
              subst hR13
              refine wl_nil ⟨hS, ?_⟩
              refine wd_take 9 _ _ rfl (by kernel_rfl) hS (yd_do fun A hA => rn_sadd rfl rfl (by simp only [List.length_append, List.length_cons, List.length_nil]; omega)) ?_
              refine wd_take 10 _ _ rfl (by kernel_rfl) hS (yd_do fun A hA => rn_assign (by conv => lhs; whnf)) ?_
              refine wd_take 11 _ _ rfl (by kernel_rfl) hS (yd_do fun A hA => rn_assign (by conv => lhs; whnf)) ?_
              refine wd_done (by kernel_rfl) ?_ _
              replace hX := hX.tr hS
              replace hB1 := hB1.ext hS id
              refine W_ret ?_
              exact ⟨_, resR2 (res1_tmp rfl) (res1_tmp rfl), hX, by rw [if_pos hp, if_pos hp, line3k]; rfl⟩
            · obtain rfl : kp = false := hc5
              refine W_skip ?_
              refine W_seq ?_
              refine W_drawE mixed ?_; intro w14 hE14
              replace hX := hX.tr hE14
              replace hB1 := hB1.ext hE14 id
              have hS := Ext.refl Non w14
              refine wd_take 0 _ _ rfl (by kernel_rfl) hS (yd_do fun A hA => rn_move (by conv => lhs; whnf)) ?_
              refine wd_take 1 _ _ rfl (by kernel_rfl) hS (yd_do fun A hA => rn_fieldAddr f_69_2 (by decide) rfl) ?_
              refine wd_take 2 _ _ rfl (by kernel_rfl) hS (yd_do fun A hA => rn_load1 p_9 rfl (hB1.ext hA id) rfl) ?_
              refine wd_take 6 _ _ rfl (by kernel_rfl) hS (yd_do fun A hA => rn_fieldAddr f_69_3 (by decide) rfl) ?_
              refine wd_take 7 _ _ rfl (by kernel_rfl) hS (yd_do fun A hA => rn_load1 p_9 rfl (hB1.ext hA id) rfl) ?_
              refine wd_only 3 _ rfl (by kernel_rfl) ?_
              refine s1_do ?_
              refine wl_call e_96 rfl (rword_ok w14 tx hxt) ?_; intro v49 w15 hE15 hR15
              replace hS := hS.tr hE15
              subst hR15
              refine wl_nil ⟨hS, ?_⟩
              refine wd_take 4 _ _ rfl (by kernel_rfl) hS (yd_do fun A hA => rn_sadd rfl rfl (by simp only [List.length_append, List.length_cons, List.length_nil]; omega)) ?_
              refine wd_take 5 _ _ rfl (by kernel_rfl) hS (yd_do fun A hA => rn_sadd rfl rfl (by simp only [List.length_append, List.length_cons, List.length_nil]; omega)) ?_
              refine wd_only 8 _ rfl (by kernel_rfl) ?_
              refine s1_do ?_
              refine wl_call e_96 rfl (rword_ok w15 pl hxp) ?_; intro v54 w16 hE16 hR16
              replace hS := hS.tr hE16
              subst hR16
              refine wl_nil ⟨hS, ?_⟩
              refine wd_take 9 _ _ rfl (by kernel_rfl) hS (yd_do fun A hA => rn_sadd rfl rfl (by simp only [List.length_append, List.length_cons, List.length_nil]; omega)) ?_
              refine wd_take 10 _ _ rfl (by kernel_rfl) hS (yd_do fun A hA => rn_assign (by conv => lhs; whnf)) ?_
              refine wd_take 11 _ _ rfl (by kernel_rfl) hS (yd_do fun A hA => rn_assign (by conv => lhs; whnf)) ?_
              refine wd_done (by kernel_rfl) ?_ _
              replace hX := hX.tr hS
              replace hB1 := hB1.ext hS id
              refine W_ret ?_
              exact ⟨_, resR2 (res1_tmp rfl) (res1_tmp rfl), hX, by rw [if_pos hp, if_pos hp, line3p]; rfl⟩
-- bellman/op.Line
set_option maxHeartbeats 1600000 in
theorem line_ok (w : World) (x : OpD) (hxt : x.text.length ≤ 4000) (hxp : x.payload.length ≤ 4000) (hT : Tab w) : Fn Tryz.prog 51 #[.agg x.enc.toArray] w fun u w' => u = .tuple #[Sv (if plainR x = true then lineR x else []), .int .i64 (if plainR x = true then 0 else 10)] := by
  obtain ⟨kd, sb, tx, pl, kp⟩ := x
  replace hxt : tx.length ≤ 4000 := hxt; replace hxp : pl.length ≤ 4000 := hxp
  have hG := hT.gl (Nat.le_refl w.heap.size)
  have hX := Ext.refl Non w
  refine fn_of_W (args := [_]) Tryz.func51 rfl (by kernel_rfl) rfl ?_
  refine W_seq ?_
  refine W_region ?_
  refine wl_boxS rfl ?_; intro b1 w1 hb1 hE1 hB1
  have hq1 : w.heap.size ≤ b1 := Nat.le_trans hX.size hb1
  have hl1 : Mine Non w b1 := .inr hq1
  replace hX := hX.tr hE1
  replace hT := hT.non hE1
  refine wl_val (rn_assign (by conv => lhs; whnf)) ?_
  refine wl_val (rn_assign (by conv => lhs; whnf)) ?_
  refine wl_nil ?_
  refine W_seq ?_
  refine W_seq ?_
  refine W_region ?_
  refine wl_val (rn_loadB s_69 rfl rfl hB1) ?_
  refine wl_call e_58 rfl (plain_ok w1 _) ?_; intro v6 w2 hE2 hR2
  replace hX := hX.tr hE2
  replace hB1 := hB1.ext hE2 id
  replace hT := hT.non hE2
  subst hR2
  refine wl_val (rn_not rfl) ?_
  refine wl_nil ?_
  refine W_cond rfl (fun hc0 => ?_) (fun hc0 => ?_)
  · have hp : plainR ⟨kd, sb, tx, pl, kp⟩ = false := by simpa using hc0
    refine W_seq ?_
    refine W_region ?_
    refine wl_val (rn_assign (by conv => lhs; whnf)) ?_
    refine wl_val (rn_assign (by conv => lhs; whnf)) ?_
    refine wl_nil ?_
    refine W_ret ?_
    exact ⟨_, resR2 (res1_tmp rfl) (res1_tmp rfl), hX, by rw [if_neg (by rw [hp]; decide), if_neg (by rw [hp]; decide)]; rfl⟩
  · have hp : plainR ⟨kd, sb, tx, pl, kp⟩ = true := by simpa using hc0
    have hP := (plain_iff _).1 hp
    have hsr : 0 ≤ sb ∧ sb ≤ 9999 := by rcases hP with ⟨_, h⟩ | ⟨_, h, h2, _⟩ | ⟨_, h, h2, _⟩; (have h : sb = 0 := h); omega; exact ⟨h, h2⟩; exact ⟨h, h2⟩
    obtain ⟨n, rfl⟩ : ∃ n : Nat, sb = (n : Int) := ⟨sb.toNat, by omega⟩
    have hn4 : n ≤ 9999 := by omega
    have hd4 := dec_len hn4; have hw1 := wordR_len tx; have hw2 := wordR_len pl
    have hnl := name_len (⟨kd, (n : Int), tx, pl, kp⟩ : OpD)
    refine W_skip ?_
    refine W_seq ?_
    refine W_region ?_
    refine wl_val (rn_loadB s_69 rfl rfl hB1) ?_
    refine wl_call e_91 rfl (name_ok w2 _) ?_; intro v9 w3 hE3 hR3
    replace hX := hX.tr hE3
    replace hB1 := hB1.ext hE3 id
    replace hT := hT.non hE3
    subst hR3
    refine wl_lit1 (r := [Sv (nameR (⟨kd, (n : Int), tx, pl, kp⟩ : OpD))]) sl_22 rfl rfl rfl rfl (by decide) ?_; intro v10 w4 b10 hb10 hE4 hO10
    have hO : OwO w4 v10 (some b10) 1 [[Sv (nameR (⟨kd, (n : Int), tx, pl, kp⟩ : OpD))]] := .inr ⟨b10, [], rfl, hO10⟩
    have ho : ∀ i, some b10 = some i → w.heap.size ≤ i := fun i h => by cases h; exact Nat.le_trans hX.size hb10
    have ho2 : ∀ i, some b10 = some i → b1 < i := fun i h => by cases h; exact Nat.lt_of_lt_of_le hB1.lt hb10
    replace hX := hX.tr hE4
    replace hB1 := hB1.ext hE4 id
    replace hT := hT.non hE4
    refine wl_val (rn_assign (by conv => lhs; whnf)) ?_
    refine wl_nil ?_
    refine W_seq ?_
    refine W_seq ?_
    refine W_region ?_
    refine wl_val (rn_fieldAddr f_69_0 (by decide) rfl) ?_
    refine wl_val (rn_load1 p_3 rfl hB1 rfl) ?_
    refine wl_val (rn_neq rfl rfl) ?_
    refine wl_nil ?_
    refine W_cond rfl (fun hc1 => ?_) (fun hc1 => ?_)
    · have k3 : ¬ kd = 3 := of_decide_eq_true hc1
      refine W_region ?_
      refine wl_val (rn_move (by conv => lhs; whnf)) ?_
      refine wl_val (rn_fieldAddr f_69_1 (by decide) rfl) ?_
      refine wl_val (rn_load1 p_3 rfl hB1 rfl) ?_
      refine wl_call e_50 rfl (itoa_ok w4 (n : Int) (by omega) hT) ?_; intro v17 w5 hE5 hR5
      replace hX := hX.tr hE5
      replace hB1 := hB1.ext hE5 id
      replace hT := hT.non hE5
      replace hO := hO.ext hE5 (fun _ _ h => h)
      subst hR5
      refine wl_lit1 (r := [Sv (Lib.itoa (n : Int))]) sl_22 rfl rfl rfl rfl (by decide) ?_; intro v18 w6 b18 hb18 hE6 hO18
      replace hX := hX.tr hE6
      replace hB1 := hB1.ext hE6 id
      replace hT := hT.non hE6
      replace hO := hO.ext hE6 (fun _ _ h => h)
      have hblt := hB1.lt
      have hXo := hX
      refine wl_app sl_22 rfl rfl rfl hO (hO18.sl (M := Non) id) (fun r hr => by simp only [List.mem_singleton] at hr; subst hr; exact one1 rfl) (by simp only [List.length_map, List.length_append, List.length_cons, List.length_nil]; omega) (by simp only [List.length_map, List.length_append, List.length_cons, List.length_nil, big]; omega) ?_; intro v19 w7 o19 hE7 hO19 hf19
      replace hX := hX.mineO hE7 (fun i hi => .inr (ho i hi))
      have ho19 : ∀ i, o19 = some i → w.heap.size ≤ i := fun j hj => by rcases hf19 j hj with h | h; exact ho j h; exact Nat.le_trans hXo.size h
      replace hB1 := hB1.ext hE7 (fun e => by have := ho2 _ e; omega)
      replace hT := hT.ext hE7 (B := w.heap.size) (fun j hj => ho j hj) hG
      replace ho2 : ∀ i, o19 = some i → b1 < i := fun j hj => by rcases hf19 j hj with h | h; exact ho2 j h; exact Nat.lt_of_lt_of_le hblt h
      replace hO := hO19; replace ho := ho19
      refine wl_val (rn_assign (by conv => lhs; whnf)) ?_
      refine wl_nil ?_
      refine W_seq ?_
      refine W_seq ?_
      refine W_region ?_
      refine wl_val (rn_fieldAddr f_69_0 (by decide) rfl) ?_
      refine wl_val (rn_load1 p_3 rfl hB1 rfl) ?_
      refine wl_nil ?_
      refine W_block ?_   -- block 0
      refine W_seq ?_
      refine W_seq ?_
      refine W_region ?_
      refine wl_val (rn_eql rfl rfl) ?_
      refine wl_val (rn_assign (by conv => lhs; whnf)) ?_
      refine wl_nil ?_
      refine W_cond rfl (fun hc2 => ?_) (fun hc2 => ?_)
      · first | (obtain rfl : kd = 1 := of_decide_eq_true hc2) | skip
        refine W_skip ?_
        refine W_condT (congrArg Value.bool hc2) ?_
        refine W_region ?_
        refine wl_val (rn_move (by conv => lhs; whnf)) ?_
        refine wl_val (rn_fieldAddr f_69_2 (by decide) rfl) ?_
        refine wl_val (rn_load1 p_9 rfl hB1 rfl) ?_
        refine wl_call e_92 rfl (oword_ok w7 tx hxt) ?_; intro v28 w8 hE8 hR8
        replace hX := hX.tr hE8
        replace hB1 := hB1.ext hE8 id
        replace hT := hT.non hE8
        replace hO := hO.ext hE8 (fun _ _ h => h)
        subst hR8
        refine wl_lit1 (r := [Sv (wordR tx)]) sl_22 rfl rfl rfl rfl (by decide) ?_; intro v29 w9 b29 hb29 hE9 hO29
        replace hX := hX.tr hE9
        replace hB1 := hB1.ext hE9 id
        replace hT := hT.non hE9
        replace hO := hO.ext hE9 (fun _ _ h => h)
        have hblt := hB1.lt
        have hXo := hX
        refine wl_app sl_22 rfl rfl rfl hO (hO29.sl (M := Non) id) (fun r hr => by simp only [List.mem_singleton] at hr; subst hr; exact one1 rfl) (by simp only [List.length_map, List.length_append, List.length_cons, List.length_nil]; omega) (by simp only [List.length_map, List.length_append, List.length_cons, List.length_nil, big]; omega) ?_; intro v30 w10 o30 hE10 hO30 hf30
        replace hX := hX.mineO hE10 (fun i hi => .inr (ho i hi))
        have ho30 : ∀ i, o30 = some i → w.heap.size ≤ i := fun j hj => by rcases hf30 j hj with h | h; exact ho j h; exact Nat.le_trans hXo.size h
        replace hB1 := hB1.ext hE10 (fun e => by have := ho2 _ e; omega)
        replace hT := hT.ext hE10 (B := w.heap.size) (fun j hj => ho j hj) hG
        replace ho2 : ∀ i, o30 = some i → b1 < i := fun j hj => by rcases hf30 j hj with h | h; exact ho2 j h; exact Nat.lt_of_lt_of_le hblt h
        replace hO := hO30; replace ho := ho30
        refine wl_val (rn_assign (by conv => lhs; whnf)) ?_
        refine wl_nil ?_
        refine W_seq ?_
        refine W_region ?_
        refine wl_val (rn_move (by conv => lhs; whnf)) ?_
        refine wl_call e_52 rfl (join_ok w10 [nameR (⟨1, (n : Int), tx, pl, kp⟩ : OpD), Lib.itoa (n : Int), wordR tx] (hO.sl (M := Non) (fun _ _ h => h)) (by simp) (by rw [itoa_nat, join3]; simp only [List.length_append, List.length_cons]; have := hnl; omega) (Nat.le_of_ble_eq_true rfl)) ?_; intro v43 w11 hE11 hR11
        replace hX := hX.tr hE11
        replace hB1 := hB1.ext hE11 id
        replace hT := hT.non hE11
        replace hO := hO.ext hE11 (fun _ _ h => h)
        subst hR11
        refine wl_val (rn_assign (by conv => lhs; whnf)) ?_
        refine wl_val (rn_assign (by conv => lhs; whnf)) ?_
        refine wl_nil ?_
        refine W_ret ?_
        exact ⟨_, resR2 (res1_tmp rfl) (res1_tmp rfl), hX, by rw [if_pos hp, if_pos hp]; rfl⟩
      · have k1 := of_decide_eq_false hc2
        refine W_region ?_
        refine wl_val (rn_eql rfl rfl) ?_
        refine wl_val (rn_assign (by conv => lhs; whnf)) ?_
        refine wl_nil ?_
        refine W_cond rfl (fun hc3 => ?_) (fun hc3 => ?_)
        · first | (obtain rfl : kd = 2 := of_decide_eq_true hc3) | skip
          refine W_region ?_
          refine wl_val (rn_move (by conv => lhs; whnf)) ?_
          refine wl_val (rn_fieldAddr f_69_2 (by decide) rfl) ?_
          refine wl_val (rn_load1 p_9 rfl hB1 rfl) ?_
          refine wl_call e_92 rfl (oword_ok w7 tx hxt) ?_; intro v28 w12 hE12 hR12
          replace hX := hX.tr hE12
          replace hB1 := hB1.ext hE12 id
          replace hT := hT.non hE12
          replace hO := hO.ext hE12 (fun _ _ h => h)
          subst hR12
          refine wl_lit1 (r := [Sv (wordR tx)]) sl_22 rfl rfl rfl rfl (by decide) ?_; intro v29 w13 b29 hb29 hE13 hO29
          replace hX := hX.tr hE13
          replace hB1 := hB1.ext hE13 id
          replace hT := hT.non hE13
          replace hO := hO.ext hE13 (fun _ _ h => h)
          have hblt := hB1.lt
          have hXo := hX
          refine wl_app sl_22 rfl rfl rfl hO (hO29.sl (M := Non) id) (fun r hr => by simp only [List.mem_singleton] at hr; subst hr; exact one1 rfl) (by simp only [List.length_map, List.length_append, List.length_cons, List.length_nil]; omega) (by simp only [List.length_map, List.length_append, List.length_cons, List.length_nil, big]; omega) ?_; intro v30 w14 o30 hE14 hO30 hf30
          replace hX := hX.mineO hE14 (fun i hi => .inr (ho i hi))
          have ho30 : ∀ i, o30 = some i → w.heap.size ≤ i := fun j hj => by rcases hf30 j hj with h | h; exact ho j h; exact Nat.le_trans hXo.size h
          replace hB1 := hB1.ext hE14 (fun e => by have := ho2 _ e; omega)
          replace hT := hT.ext hE14 (B := w.heap.size) (fun j hj => ho j hj) hG
          replace ho2 : ∀ i, o30 = some i → b1 < i := fun j hj => by rcases hf30 j hj with h | h; exact ho2 j h; exact Nat.lt_of_lt_of_le hblt h
          replace hO := hO30; replace ho := ho30
          refine wl_val (rn_assign (by conv => lhs; whnf)) ?_
          refine wl_nil ?_
          refine W_seq ?_
          refine W_region ?_
          refine wl_val (rn_move (by conv => lhs; whnf)) ?_
          refine wl_call e_52 rfl (join_ok w14 [nameR (⟨2, (n : Int), tx, pl, kp⟩ : OpD), Lib.itoa (n : Int), wordR tx] (hO.sl (M := Non) (fun _ _ h => h)) (by simp) (by rw [itoa_nat, join3]; simp only [List.length_append, List.length_cons]; have := hnl; omega) (Nat.le_of_ble_eq_true rfl)) ?_; intro v43 w15 hE15 hR15
          replace hX := hX.tr hE15
          replace hB1 := hB1.ext hE15 id
          replace hT := hT.non hE15
          replace hO := hO.ext hE15 (fun _ _ h => h)
          subst hR15
          refine wl_val (rn_assign (by conv => lhs; whnf)) ?_
          refine wl_val (rn_assign (by conv => lhs; whnf)) ?_
          refine wl_nil ?_
          refine W_ret ?_
          exact ⟨_, resR2 (res1_tmp rfl) (res1_tmp rfl), hX, by rw [if_pos hp, if_pos hp]; rfl⟩
        · have k2 := of_decide_eq_false hc3
          refine W_seq ?_
          refine W_region ?_
          refine wl_val (rn_eql rfl rfl) ?_
          refine wl_val (rn_assign (by conv => lhs; whnf)) ?_
          refine wl_nil ?_
          refine W_cond rfl (fun hc4 => ?_) (fun hc4 => ?_)
          · have k33 := of_decide_eq_true hc4
            exact absurd (of_decide_eq_true hc4) k3
          · have k33 := of_decide_eq_false hc4
            refine W_skip ?_
            refine W_seq ?_
            refine W_region ?_
            refine wl_val (rn_move (by conv => lhs; whnf)) ?_
            refine wl_call e_52 rfl (join_ok w7 [nameR (⟨kd, (n : Int), tx, pl, kp⟩ : OpD), Lib.itoa (n : Int)] (hO.sl (M := Non) (fun _ _ h => h)) (by simp) (by rw [itoa_nat, join2]; simp only [List.length_append, List.length_cons]; have := hnl; omega) (Nat.le_of_ble_eq_true rfl)) ?_; intro v43 w16 hE16 hR16
            replace hX := hX.tr hE16
            replace hB1 := hB1.ext hE16 id
            replace hT := hT.non hE16
            replace hO := hO.ext hE16 (fun _ _ h => h)
            subst hR16
            refine wl_val (rn_assign (by conv => lhs; whnf)) ?_
            refine wl_val (rn_assign (by conv => lhs; whnf)) ?_
            refine wl_nil ?_
            refine W_ret ?_
            exact ⟨_, resR2 (res1_tmp rfl) (res1_tmp rfl), hX, by rw [if_pos hp, if_pos hp]; unfold lineR wordsR; rw [if_neg k3, if_neg (fun h => by rcases h with h | h; exact k1 h; exact k2 h)]; rfl⟩
    · obtain rfl : kd = 3 := Classical.not_not.1 (of_decide_eq_false hc1)
      refine W_skip ?_
      refine W_seq ?_
      refine W_seq ?_
      refine W_region ?_
      refine wl_val (rn_fieldAddr f_69_0 (by decide) rfl) ?_
      refine wl_val (rn_load1 p_3 rfl hB1 rfl) ?_
      refine wl_nil ?_
      refine W_block ?_   -- block 0
      refine W_seq ?_
      refine W_seq ?_
      refine W_region ?_
      refine wl_val (rn_eql rfl rfl) ?_
      refine wl_val (rn_assign (by conv => lhs; whnf)) ?_
      refine wl_nil ?_
      refine W_cond rfl (fun hc2 => ?_) (fun hc2 => ?_)
      · first | (obtain rfl : kd = 1 := of_decide_eq_true hc2) | skip
        exact absurd (of_decide_eq_true hc2) (show ¬ (3 : Int) = 1 by decide)
      · have k1 := of_decide_eq_false hc2
        refine W_region ?_
        refine wl_val (rn_eql rfl rfl) ?_
        refine wl_val (rn_assign (by conv => lhs; whnf)) ?_
        refine wl_nil ?_
        refine W_cond rfl (fun hc3 => ?_) (fun hc3 => ?_)
        · first | (obtain rfl : kd = 2 := of_decide_eq_true hc3) | skip
          exact absurd (of_decide_eq_true hc3) (show ¬ (3 : Int) = 2 by decide)
        · have k2 := of_decide_eq_false hc3
          refine W_seq ?_
          refine W_region ?_
          refine wl_val (rn_eql rfl rfl) ?_
          refine wl_val (rn_assign (by conv => lhs; whnf)) ?_
          refine wl_nil ?_
          refine W_cond rfl (fun hc4 => ?_) (fun hc4 => ?_)
          · have k33 := of_decide_eq_true hc4
            refine W_drawX (fun j => j == 8 || j == 9) mixed ?_; intro w17 hE17
            replace hX := hX.tr hE17
            replace hB1 := hB1.ext hE17 id
            replace hT := hT.non hE17
            replace hO := hO.ext hE17 (fun _ _ h => h)
            have hS := Ext.refl Non w17
            refine wx_take 0 [8, 9] _ _ rfl (by kernel_rfl) hS (yd_do fun A hA => rn_move (by conv => lhs; whnf)) ?_
            refine wx_take 1 [2, 3, 6, 7, 8, 9] _ _ rfl (by kernel_rfl) hS (yd_do fun A hA => rn_fieldAddr f_69_2 (by decide) rfl) ?_
            refine wx_take 2 [3, 6, 7, 8, 9] _ _ rfl (by kernel_rfl) hS (yd_do fun A hA => rn_load1 p_9 rfl (hB1.ext hA id) rfl) ?_
            refine wx_take 4 [5, 6, 7, 8, 9] _ _ rfl (by kernel_rfl) hS (yd_do fun A hA => rn_fieldAddr f_69_3 (by decide) rfl) ?_
            refine wx_take 5 [6, 7, 8, 9] _ _ rfl (by kernel_rfl) hS (yd_do fun A hA => rn_load1 p_9 rfl (hB1.ext hA id) rfl) ?_
            refine wx_only 3 _ rfl (by kernel_rfl) ?_
            refine s1_do ?_
            refine wl_call e_92 rfl (oword_ok w17 tx hxt) ?_; intro v36 w18 hE18 hR18
            replace hS := hS.tr hE18
            subst hR18
            refine wl_nil ⟨fun _ => hS, ?_⟩
            refine wx_only 6 _ rfl (by kernel_rfl) ?_
            refine s1_do ?_
            refine wl_call e_92 rfl (oword_ok w18 pl hxp) ?_; intro v39 w19 hE19 hR19
            replace hS := hS.tr hE19
            subst hR19
            refine wl_nil ⟨fun _ => hS, ?_⟩
            refine wx_only 7 _ rfl (by kernel_rfl) ?_
            refine s1_do ?_
            refine wl_lit sl_22 (rows := [wordR tx, wordR pl].map eS) rfl (by decide) (by decide) rfl rfl (by intro r hr; obtain ⟨x, _, rfl⟩ := List.mem_map.1 hr; rfl) (by intro p hp; simp at hp; rcases hp with rfl | rfl <;> exact ⟨rfl, Nat.le_of_ble_eq_true rfl⟩) rfl ?_; intro v40 w20 b40 hb40 hE20 hO40
            replace hS := hS.tr hE20
            refine wl_nil ⟨fun _ => hS, ?_⟩
            replace hX := hX.tr hS
            replace hB1 := hB1.ext hS id
            replace hT := hT.non hS
            replace hO := hO.ext hS (fun _ _ h => h)
            refine wx_only 8 _ rfl (by kernel_rfl) ?_
            refine s1_do ?_
            have hblt := hB1.lt
            have hXo := hX
            refine wl_app sl_22 rfl rfl rfl hO (hO40.sl (M := Non) id) (fun r hr => by obtain ⟨s, _, rfl⟩ := List.mem_map.1 hr; exact one1 rfl) (Nat.le_of_ble_eq_true rfl) (Nat.le_of_ble_eq_true rfl) ?_; intro v41 w21 o41 hE21 hO41 hf41
            replace hX := hX.mineO hE21 (fun i hi => .inr (ho i hi))
            replace hB1 := hB1.ext hE21 (fun e => by have := ho2 _ e; omega)
            replace hT := hT.ext hE21 (B := w.heap.size) (fun j hj => ho j hj) hG
            replace hO := hO41
            refine wl_nil ⟨fun h => absurd h (by decide), ?_⟩
            refine wx_only 9 _ rfl (by kernel_rfl) ?_
            refine s1_do ?_
            refine wl_val (rn_assign (by conv => lhs; whnf)) ?_
            refine wl_nil ⟨fun h => absurd h (by decide), ?_⟩
            refine wx_done (by kernel_rfl) ?_ _
            refine W_seq ?_
            refine W_region ?_
            refine wl_val (rn_move (by conv => lhs; whnf)) ?_
            refine wl_call e_52 rfl (join_ok w21 [nameR (⟨3, (n : Int), tx, pl, kp⟩ : OpD), wordR tx, wordR pl] (hO.sl (M := Non) (fun _ _ h => h)) (by simp) (by rw [join3]; simp only [List.length_append, List.length_cons]; have := hnl; omega) (Nat.le_of_ble_eq_true rfl)) ?_; intro v43 w22 hE22 hR22
            replace hX := hX.tr hE22
            replace hB1 := hB1.ext hE22 id
            replace hT := hT.non hE22
            replace hO := hO.ext hE22 (fun _ _ h => h)
            subst hR22
            refine wl_val (rn_assign (by conv => lhs; whnf)) ?_
            refine wl_val (rn_assign (by conv => lhs; whnf)) ?_
            refine wl_nil ?_
            refine W_ret ?_
            exact ⟨_, resR2 (res1_tmp rfl) (res1_tmp rfl), hX, by rw [if_pos hp, if_pos hp]; rfl⟩
          · have k33 := of_decide_eq_false hc4
            exact absurd rfl (of_decide_eq_false hc4)
end Go.Proofs.YthcclgoidchkdaaGreatDoorC
