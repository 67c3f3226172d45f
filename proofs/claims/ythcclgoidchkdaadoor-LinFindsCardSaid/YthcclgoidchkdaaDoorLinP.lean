/- Orders of a history of a small machine, in plain Lean. -/
import Derived.Test.YthcclgoidchkdaaDoorEnc
import Derived.Lib.ItoaNum
set_option linter.unusedVariables false
set_option linter.unusedSimpArgs false
namespace Go.Proofs.YthcclgoidchkdaaDoorC
structure StD where
  n : Int
  slot : Str
  deriving DecidableEq
def StD.enc (s : StD) : List Value := [.int .i64 s.n, Sv s.slot]
def msg0 : MsgD := ⟨[], [], false⟩
def ans0 : AnsD := ⟨0, 0, 0, msg0⟩
def st0 : StD := ⟨0, []⟩
/-- The small machine. -/
def doS (s : StD) (x : OpD) : StD × AnsD :=
  if x.kind = 1 then (⟨s.n + x.sub.tmod 100, s.slot⟩, ⟨0, s.n + x.sub.tmod 100, 0, msg0⟩)
  else if x.kind = 2 then (⟨s.n, x.payload⟩, ⟨0, 0, 0, ⟨[], s.slot, false⟩⟩)
  else if x.kind = 3 then (if s.slot = [] then (s, ⟨7, 0, 0, msg0⟩) else (⟨s.n, []⟩, ⟨0, 0, 0, ⟨[], s.slot, false⟩⟩))
  else (s, ⟨0, 0, s.n, msg0⟩)
theorem tmod_bound (a : Int) : -99 ≤ a.tmod 100 ∧ a.tmod 100 ≤ 99 := by
  rcases Int.le_total 0 a with h | h
  · have h1 := Int.tmod_nonneg 100 h
    have h2 := Int.tmod_lt_of_pos a (b := 100) (by decide)
    omega
  · have h1 := Int.tmod_nonneg 100 (a := -a) (by omega)
    have h2 := Int.tmod_lt_of_pos (-a) (b := 100) (by decide)
    rw [Int.neg_tmod] at h1 h2
    omega
theorem doS_bound (s : StD) (x : OpD) {k : Int} (h : -k ≤ s.n ∧ s.n ≤ k) : -(k + 99) ≤ (doS s x).1.n ∧ (doS s x).1.n ≤ k + 99 := by
  have := tmod_bound x.sub
  unfold doS
  split
  · simp only []; omega
  · split
    · simp only []; omega
    · split
      · split <;> simp only [] <;> omega
      · simp only []; omega

/-! ### which may come next -/
def seen (done : List Bool) (k : Nat) : Bool := done.getD k false
def aheadB (l : List CallD) (k i : Nat) : Bool := match l[k]?, l[i]? with | some d, some c => decide (d.to_ < c.from_) | _, _ => false
def clearB (l : List CallD) (done : List Bool) (i k : Nat) : Bool := k == i || seen done k || !aheadB l k i
def freeB (l : List CallD) (done : List Bool) (i : Nat) : Bool := !seen done i && (List.range l.length).all (clearB l done i)
def mini (l : List CallD) (done : List Bool) : List Nat := (List.range l.length).filter (freeB l done)
def stepB (l : List CallD) (s : StD) (i : Nat) : Option StD := match l[i]? with | some c => if (doS s c.op).2 = c.ans then some (doS s c.op).1 else none | none => none
theorem stepB_at {l : List CallD} {s : StD} {i : Nat} {c : CallD} (h : l[i]? = some c) : stepB l s i = if (doS s c.op).2 = c.ans then some (doS s c.op).1 else none := by unfold stepB; rw [h]
/-- All ways on. -/
def alls (l : List CallD) : Nat → List Bool → StD → List (List Nat)
  | 0, _, _ => [[]]
  | f + 1, done, s => (mini l done).flatMap fun i => match stepB l s i with | some s' => (alls l f (done.set i true) s').map (i :: ·) | none => []
/-- Is this a way on? -/
def chkN (l : List CallD) : List Bool → StD → List Nat → Bool
  | _, _, [] => true
  | done, s, i :: o => decide (i < l.length) && (freeB l done i && match stepB l s i with | some s' => chkN l (done.set i true) s' o | none => false)
/-- Is this one, of any numbers? -/
def chkF (l : List CallD) : List Bool → StD → List Int → Bool
  | _, _, [] => true
  | done, s, i :: o => decide (0 ≤ i) && (decide (i < l.length) && (freeB l done i.toNat && match stepB l s i.toNat with | some s' => chkF l (done.set i.toNat true) s' o | none => false))
theorem chkF_nat (l : List CallD) : ∀ (o : List Nat) (done : List Bool) (s : StD), chkF l done s (o.map fun i : Nat => (i : Int)) = chkN l done s o
  | [], _, _ => rfl
  | i :: o, done, s => by
    simp only [List.map_cons, chkF, chkN, Int.toNat_natCast]
    have h1 : decide ((0 : Int) ≤ (i : Int)) = true := by simp
    have h2 : decide ((i : Int) < (l.length : Int)) = decide (i < l.length) := by simp
    rw [h1, h2, Bool.true_and]
    cases stepB l s i with
    | none => rfl
    | some s' => simp only [chkF_nat l o]
theorem mem_mini {l : List CallD} {done : List Bool} {i : Nat} : i ∈ mini l done ↔ i < l.length ∧ freeB l done i = true := by simp [mini]
theorem mini_lt {l : List CallD} {done : List Bool} {i : Nat} (h : i ∈ mini l done) : i < l.length := (mem_mini.1 h).1
theorem mini_unseen {l : List CallD} {done : List Bool} {i : Nat} (h : i ∈ mini l done) : seen done i = false := by
  have := (mem_mini.1 h).2
  unfold freeB at this
  simp at this; exact this.1
theorem mem_alls (l : List CallD) : ∀ (f : Nat) (done : List Bool) (s : StD) (o : List Nat), o ∈ alls l f done s ↔ o.length = f ∧ chkN l done s o = true
  | 0, done, s, o => by
    simp only [alls, List.mem_singleton]
    constructor
    · rintro rfl; exact ⟨rfl, rfl⟩
    · rintro ⟨h, _⟩; exact List.length_eq_zero_iff.1 h
  | f + 1, done, s, o => by
    simp only [alls, List.mem_flatMap]
    constructor
    · rintro ⟨i, hi, ho⟩
      cases hs : stepB l s i with
      | none => rw [hs] at ho; simp at ho
      | some s' =>
        rw [hs] at ho
        obtain ⟨o', ho', rfl⟩ := List.mem_map.1 ho
        obtain ⟨h1, h2⟩ := (mem_alls l f _ s' o').1 ho'
        obtain ⟨h3, h4⟩ := mem_mini.1 hi
        refine ⟨by simp [h1], ?_⟩
        simp [chkN, h3, h4, hs, h2]
    · rintro ⟨h1, h2⟩
      cases o with
      | nil => simp at h1
      | cons i o' =>
        simp only [chkN, Bool.and_eq_true, decide_eq_true_eq] at h2
        obtain ⟨h3, h4, h5⟩ := h2
        refine ⟨i, mem_mini.2 ⟨h3, h4⟩, ?_⟩
        cases hs : stepB l s i with
        | none => rw [hs] at h5; cases h5
        | some s' =>
          rw [hs] at h5
          exact List.mem_map.2 ⟨o', (mem_alls l f _ s' o').2 ⟨by simpa using h1, h5⟩, rfl⟩
theorem flat_le {α β : Type} (g : α → List β) (B : Nat) : ∀ (l : List α), (∀ x ∈ l, (g x).length ≤ B) → (l.flatMap g).length ≤ l.length * B
  | [], _ => by simp
  | x :: l, h => by
    have h1 := h x (by simp)
    have h2 := flat_le g B l (fun y hy => h y (by simp [hy]))
    rw [List.flatMap_cons, List.length_append, List.length_cons, Nat.add_mul]; omega
theorem mini_len (l : List CallD) (done : List Bool) : (mini l done).length ≤ l.length := by
  have := List.length_filter_le (freeB l done) (List.range l.length)
  simpa [mini] using this
theorem alls_len (l : List CallD) : ∀ (f : Nat) (done : List Bool) (s : StD), (alls l f done s).length ≤ l.length ^ f
  | 0, _, _ => by simp [alls]
  | f + 1, done, s => by
    have h1 := flat_le (fun i => match stepB l s i with | some s' => (alls l f (done.set i true) s').map (i :: ·) | none => []) (l.length ^ f) (mini l done) (fun i _ => by
      cases stepB l s i with
      | none => simp
      | some s' => simp only [List.length_map]; exact alls_len l f _ _)
    have h2 := mini_len l done
    have h3 := Nat.mul_le_mul_right (l.length ^ f) h2
    rw [Nat.pow_succ, Nat.mul_comm (l.length ^ f)]
    exact Nat.le_trans h1 h3

/-! ### where a search is -/
def bitsB : List Bool → Nat
  | [] => 0
  | b :: l => (if b then 1 else 0) + 2 * bitsB l
theorem bits_lt : ∀ l : List Bool, bitsB l < 2 ^ l.length
  | [] => by decide
  | b :: l => by
    have := bits_lt l
    simp only [bitsB, List.length_cons, Nat.pow_succ]
    split <;> omega
theorem bits_snoc : ∀ (l : List Bool) (b : Bool), bitsB (l ++ [b]) = bitsB l + (if b then 2 ^ l.length else 0)
  | [], b => by cases b <;> rfl
  | a :: l, b => by
    simp only [List.cons_append, bitsB, bits_snoc l b, List.length_cons, Nat.pow_succ]
    cases b <;> simp <;> omega
theorem bits_inj : ∀ (l m : List Bool), l.length = m.length → bitsB l = bitsB m → l = m
  | [], [], _, _ => rfl
  | [], _ :: _, h, _ => by simp at h
  | _ :: _, [], h, _ => by simp at h
  | a :: l, b :: m, h, hb => by
    simp only [bitsB] at hb
    simp only [List.length_cons, Nat.add_right_cancel_iff] at h
    have h1 : a = b := by cases a <;> cases b <;> simp at hb <;> first | rfl | omega
    subst h1
    have h2 : bitsB l = bitsB m := by omega
    rw [bits_inj l m h h2]
def valD (l : Str) : Nat := l.foldl (fun a c => 10 * a + (c.toNat - 48)) 0
theorem digit_val {d : Nat} (h : d < 10) : (UInt8.ofNat (48 + d)).toNat = 48 + d := by
  have : ∀ d : Fin 10, (UInt8.ofNat (48 + d.val)).toNat = 48 + d.val := by decide
  exact this ⟨d, h⟩
theorem val_dec (u : Nat) : valD (Lib.decDigits u) = u := by
  induction u using Nat.strongRecOn with
  | _ u ih =>
    by_cases h : u < 10
    · rw [Lib.decDigits, dif_pos h]; simp only [valD, List.foldl_cons, List.foldl_nil, digit_val h]; omega
    · rw [Lib.decDigits, dif_neg h]
      have := ih (u / 10) (by omega)
      unfold valD at this ⊢
      rw [List.foldl_append, this]
      simp [digit_val (Nat.mod_lt u (by decide : 0 < 10))]; omega
theorem dec_digits (u : Nat) : ∀ c ∈ Lib.decDigits u, 48 ≤ c.toNat ∧ c.toNat ≤ 57 := by
  induction u using Nat.strongRecOn with
  | _ u ih =>
    intro c hc
    by_cases h : u < 10
    · rw [Lib.decDigits, dif_pos h, List.mem_singleton] at hc
      subst hc; rw [digit_val h]; omega
    · rw [Lib.decDigits, dif_neg h] at hc
      rcases List.mem_append.1 hc with hc | hc
      · exact ih (u / 10) (by omega) c hc
      · rw [List.mem_singleton] at hc
        subst hc
        have := Nat.mod_lt u (by decide : 0 < 10)
        rw [digit_val this]; omega
theorem itoa_chars (n : Int) : ∀ c ∈ Lib.itoa n, c = 45 ∨ (48 ≤ c.toNat ∧ c.toNat ≤ 57) := by
  intro c hc
  unfold Lib.itoa at hc
  split at hc
  · rcases List.mem_cons.1 hc with h | h
    · exact .inl h
    · exact .inr (dec_digits _ c h)
  · exact .inr (dec_digits _ c hc)
theorem dec_ne (u : Nat) : ∀ (t : Str), Lib.decDigits u = 45 :: t → False := fun t h => by
  have := dec_digits u 45 (by rw [h]; simp)
  simp at this
theorem itoa_inj {m n : Int} (h : Lib.itoa m = Lib.itoa n) : m = n := by
  unfold Lib.itoa at h
  split at h <;> split at h
  · have := congrArg valD (List.cons.inj h).2
    rw [val_dec, val_dec] at this; omega
  · exact (dec_ne _ _ h.symm).elim
  · exact (dec_ne _ _ h).elim
  · have := congrArg valD h
    rw [val_dec, val_dec] at this; omega
theorem split_inj {c : UInt8} : ∀ {x x' y y' : Str}, ¬ c ∈ x → ¬ c ∈ x' → x ++ c :: y = x' ++ c :: y' → x = x' ∧ y = y'
  | [], [], _, _, _, _, h => by simpa using h
  | [], a :: x', _, _, _, h2, h => by simp at h; exact absurd (by simp [h.1]) h2
  | a :: x, [], _, _, h1, _, h => by simp at h; exact absurd (by simp [h.1]) h1
  | a :: x, b :: x', y, y', h1, h2, h => by
    simp only [List.cons_append, List.cons.injEq] at h
    have := split_inj (fun hm => h1 (by simp [hm])) (fun hm => h2 (by simp [hm])) h.2
    exact ⟨by rw [h.1, this.1], this.2⟩
/-- The small machine's key. -/
def keyS (s : StD) : Str := Lib.itoa s.n ++ 44 :: s.slot
/-- Where a search is. -/
def keyOf (done : List Bool) (s : StD) : Str := Lib.itoa (bitsB done : Nat) ++ 58 :: keyS s
theorem no_char {n : Int} {c : UInt8} (h1 : c ≠ 45) (h2 : ¬ (48 ≤ c.toNat ∧ c.toNat ≤ 57)) : ¬ c ∈ Lib.itoa n := fun h => by
  rcases itoa_chars n c h with e | e
  · exact h1 e
  · exact h2 e
theorem key_inj {d d' : List Bool} {s s' : StD} (hl : d.length = d'.length) (h : keyOf d s = keyOf d' s') : d = d' ∧ s = s' := by
  obtain ⟨h1, h2⟩ := split_inj (no_char (by decide) (by decide)) (no_char (by decide) (by decide)) h
  obtain ⟨h3, h4⟩ := split_inj (no_char (by decide) (by decide)) (no_char (by decide) (by decide)) h2
  have h5 := itoa_inj h1
  refine ⟨bits_inj _ _ hl (by exact_mod_cast h5), ?_⟩
  have h6 := itoa_inj h3
  cases s; cases s'; simp_all
def undone (l : List CallD) (done : List Bool) : List Nat := (List.range l.length).filter fun i => !seen done i
/-- What is known to lead nowhere leads nowhere. -/
def DeadOk (l : List CallD) (ks : List Str) : Prop := ∀ k ∈ ks, ∀ done s, done.length = l.length → keyOf done s = k → alls l (undone l done).length done s = []

/-! ### the document's orders, one behind the other -/
def nk (o : List Nat) : Nat → Option Nat
  | 0 => none
  | j + 1 => if o.getD (j + 1) 0 < o.getD j 0 then nk o j else some j
def nj (o : List Nat) (x : Nat) : Nat → Nat
  | 0 => 0
  | j + 1 => if o.getD (j + 1) 0 < x then nj o x j else j + 1
def sw (o : List Nat) (a b : Nat) : List Nat := (o.set a (o.getD b 0)).set b (o.getD a 0)
def rv (o : List Nat) : Nat → Nat → Nat → List Nat
  | 0, _, _ => o
  | f + 1, a, b => if a < b then rv (sw o a b) f (a + 1) (b - 1) else o
/-- The next order. -/
def nextP (o : List Nat) : Option (List Nat) :=
  match nk o (o.length - 1) with
  | none => none
  | some k => some (rv (sw o k (nj o (o.getD k 0) (o.length - 1))) o.length (k + 1) (o.length - 1))
def chain : Nat → List Nat → List (List Nat)
  | 0, _ => []
  | f + 1, o => o :: match nextP o with | none => [] | some o' => chain f o'
/-- All orders of these, the lesser ones first. -/
def PLr : Nat → List Nat → List (List Nat)
  | 0, _ => [[]]
  | f + 1, rem => rem.flatMap fun x => (PLr f (rem.erase x)).map (x :: ·)
def eqL : List Nat → List Nat → Bool
  | [], [] => true
  | x :: l, y :: m => Nat.beq x y && eqL l m
  | _, _ => false
def eqLL : List (List Nat) → List (List Nat) → Bool
  | [], [] => true
  | x :: l, y :: m => eqL x y && eqLL l m
  | _, _ => false
theorem eqL_eq : ∀ {l m : List Nat}, eqL l m = true → l = m
  | [], [], _ => rfl
  | [], _ :: _, h => by cases h
  | _ :: _, [], h => by cases h
  | x :: l, y :: m, h => by
    simp only [eqL, Bool.and_eq_true] at h
    rw [Nat.eq_of_beq_eq_true h.1, eqL_eq h.2]
theorem eqLL_eq : ∀ {l m : List (List Nat)}, eqLL l m = true → l = m
  | [], [], _ => rfl
  | [], _ :: _, h => by cases h
  | _ :: _, [], h => by cases h
  | x :: l, y :: m, h => by
    simp only [eqLL, Bool.and_eq_true] at h
    rw [eqL_eq h.1, eqLL_eq h.2]
theorem flatMap_congr' {α β : Type} {g h : α → List β} : ∀ {l : List α}, (∀ x ∈ l, g x = h x) → l.flatMap g = l.flatMap h
  | [], _ => rfl
  | x :: l, hh => by rw [List.flatMap_cons, List.flatMap_cons, hh x (by simp), flatMap_congr' fun y hy => hh y (by simp [hy])]
theorem flatMap_filter' {α β : Type} (p : α → Bool) (g : α → List β) : ∀ l : List α, (l.filter p).flatMap g = l.flatMap fun x => if p x = true then g x else []
  | [] => rfl
  | x :: l => by
    rw [List.filter_cons, List.flatMap_cons, ← flatMap_filter' p g l]
    by_cases h : p x = true
    · rw [if_pos h, if_pos h]; rfl
    · rw [if_neg h, if_neg h]; rfl
theorem seen_set {done : List Bool} {x : Nat} (hx : x < done.length) (i : Nat) : seen (done.set x true) i = (decide (i = x) || seen done i) := by
  unfold seen
  simp only [List.getD_eq_getElem?_getD, List.getElem?_set]
  by_cases h : x = i
  · subst h; simp [hx]
  · rw [if_neg h, decide_eq_false (fun e => h e.symm)]; simp
theorem undone_erase {l : List CallD} {done : List Bool} {x : Nat} (hx : x < done.length) : (undone l done).erase x = undone l (done.set x true) := by
  have hn : (undone l done).Nodup := List.Nodup.sublist List.filter_sublist List.nodup_range
  rw [List.Nodup.erase_eq_filter hn]
  unfold undone
  rw [List.filter_filter]
  congr 1; funext i
  rw [seen_set hx]
  by_cases h : i = x <;> simp [h]
theorem PL_alls (l : List CallD) : ∀ (f : Nat) (done : List Bool) (s : StD), (undone l done).length = f → done.length = l.length → (PLr f (undone l done)).filter (chkN l done s) = alls l f done s
  | 0, done, s, _, _ => by simp [PLr, alls, chkN]
  | f + 1, done, s, hf, hd => by
    have h1 : mini l done = (undone l done).filter (freeB l done) := by
      unfold mini undone
      rw [List.filter_filter]
      refine List.filter_congr fun i _ => ?_
      unfold freeB
      cases seen done i <;> simp
    simp only [PLr, alls]
    rw [List.filter_flatMap, h1, flatMap_filter']
    refine flatMap_congr' fun x hx => ?_
    have hx' : x < l.length ∧ seen done x = false := by simpa [undone] using hx
    have hlen : (undone l (done.set x true)).length = f := by
      rw [← undone_erase (by omega), List.length_erase_of_mem hx]; omega
    rw [List.filter_map, undone_erase (by omega)]
    by_cases hfr : freeB l done x = true
    · rw [if_pos hfr]
      cases hs : stepB l s x with
      | none =>
        have : (chkN l done s ∘ (x :: ·)) = fun _ => false := by funext o; simp [chkN, hs]
        rw [this]; simp
      | some s' =>
        have : (chkN l done s ∘ (x :: ·)) = chkN l (done.set x true) s' := by funext o; simp [chkN, hs, hfr, hx'.1]
        rw [this, PL_alls l f (done.set x true) s' hlen (by simpa using hd)]
    · rw [if_neg hfr]
      have : (chkN l done s ∘ (x :: ·)) = fun _ => false := by funext o; simp [chkN, hfr]
      rw [this]; simp
def none0 (l : List CallD) : List Bool := List.replicate l.length false
theorem undone0 (l : List CallD) : undone l (none0 l) = List.range l.length := by
  unfold undone none0
  refine List.filter_eq_self.2 fun i hi => ?_
  simp [seen, List.getElem?_replicate]
  split <;> rfl
/-- The orders of a history. -/
def orders (l : List CallD) : List (List Nat) := alls l l.length (none0 l) st0
end Go.Proofs.YthcclgoidchkdaaDoorC
