/- Answers as texts; plain. -/
import Derived.Test.YthcclgoidchkdaaGreatDoorBunZ6
import Derived.Test.YthcclgoidchkdaaGreatDoorBunZ2
set_option linter.unusedVariables false
set_option linter.unusedSimpArgs false
namespace Go.Proofs.YthcclgoidchkdaaGreatDoorC
open Go.RowKit Go.Lib
def tx (l : List Int) : Str := (l.map fun n => itoa n ++ [32]).flatten
abbrev I64 (n : Int) : Prop := -9223372036854775808 ≤ n ∧ n ≤ 9223372036854775807
structure AnsOk (a : AnsD) : Prop where
  e : I64 a.err
  x : I64 a.a
  y : I64 a.b
  t : a.msg.topic.length ≤ 4000
  p : a.msg.payload.length ≤ 4000
structure CallOk (c : CallD) : Prop where
  th : I64 c.thread
  pl : I64 c.place
  fr : I64 c.from_
  to : I64 c.to_
  t : c.op.text.length ≤ 4000
  p : c.op.payload.length ≤ 4000
  ans : AnsOk c.ans
/-! ### numbers -/
theorem itoa_neg {n : Nat} (h : 1 ≤ n) : itoa (-(n : Int)) = 45 :: decDigits n := by
  unfold itoa; rw [if_pos (by omega)]; simp
theorem dec_digit {n : Nat} {i : Nat} {c : UInt8} (h : (decDigits n)[i]? = some c) : 48 ≤ c.toNat ∧ c.toNat ≤ 57 := by
  obtain ⟨d, hd⟩ := digit_of_decFrom _ 0 n (dec_num n) i c h
  unfold digitVal at hd; split at hd
  · assumption
  · cases hd
theorem dec_cons (n : Nat) : ∃ c r, decDigits n = c :: r ∧ 48 ≤ c.toNat ∧ c.toNat ≤ 57 := by
  cases hs : decDigits n with
  | nil => exact absurd hs (dec_ne n)
  | cons c r => exact ⟨c, r, rfl, dec_digit (n := n) (i := 0) (by rw [hs]; rfl)⟩
theorem itoa_nb' (n : Int) : ¬ (32 : UInt8) ∈ itoa n := by
  unfold itoa; split
  · rw [List.mem_cons]; rintro (h | h)
    · revert h; decide
    · exact dec_nb _ h
  · exact dec_nb _
theorem atoi_decM {n : Nat} (h : n ≤ 1000000) : atoiAll (decDigits n) = .ok (n : Int) := by
  rw [atoiAll_short _ (by have := dec_len6 h; omega)]
  have hd := dec_num n
  obtain ⟨c, r, hs, hr⟩ := dec_cons n
  rw [hs] at hd ⊢
  have h45 : (c == 45) = false := by rw [beq_eq_false_iff_ne]; intro e; rw [e] at hr; revert hr; decide
  have h43 : (c == 43) = false := by rw [beq_eq_false_iff_ne]; intro e; rw [e] at hr; revert hr; decide
  have e : atoi (c :: r) = some (n : Int) := by
    simp only [atoi, h45, h43, Bool.false_eq_true, if_false]
    unfold decNat
    simp [hd]
  rw [e]; rfl
theorem atoi_negM {n : Nat} (h : n ≤ 1000000) : atoiAll (45 :: decDigits n) = .ok (-(n : Int)) := by
  rw [atoiAll_short _ (by have := dec_len6 h; simp only [List.length_cons]; omega)]
  have hd := dec_num n
  have hne := dec_ne n
  have e : atoi (45 :: decDigits n) = some (-(n : Int)) := by
    simp only [atoi]
    unfold decNat
    cases hs : decDigits n with
    | nil => exact absurd hs hne
    | cons c r => rw [hs] at hd; simp [hd]
  rw [e]; rfl
theorem int_cases (n : Int) : (∃ m : Nat, n = (m : Int)) ∨ ∃ m : Nat, 1 ≤ m ∧ n = -(m : Int) := by
  by_cases h : n < 0
  · exact .inr ⟨n.natAbs, by omega, by omega⟩
  · exact .inl ⟨n.toNat, by omega⟩
theorem atoi_itoa {n : Int} (h : -1000000 ≤ n ∧ n ≤ 1000000) : atoiAll (itoa n) = .ok n := by
  rcases int_cases n with ⟨m, rfl⟩ | ⟨m, h1, rfl⟩
  · rw [itoa_nat]; exact atoi_decM (by omega)
  · rw [itoa_neg h1]; exact atoi_negM (by omega)
/-! ### answers -/
theorem dec_len19 {m : Nat} (hm : m ≤ 9223372036854775808) : (decDigits m).length ≤ 19 := by
  rw [decDigits_length]; exact ndig_pow 18 m (by omega)
theorem itoa_len {n : Int} (h : I64 n) : (itoa n).length ≤ 20 := by
  rcases int_cases n with ⟨m, rfl⟩ | ⟨m, h1, rfl⟩
  · rw [itoa_nat]; have := dec_len19 (m := m) (by have := h.2; omega); omega
  · rw [itoa_neg h1]; have := dec_len19 (m := m) (by have := h.1; omega); simp only [List.length_cons]; omega
end Go.Proofs.YthcclgoidchkdaaGreatDoorC

/- Scripts: as data, as texts, line by line; plain. -/
set_option linter.unusedVariables false
set_option linter.unusedSimpArgs false
namespace Go.Proofs.YthcclgoidchkdaaGreatDoorC
open Go.RowKit Go.Lib
structure ScD where
  subs : Int
  cap : Int
  threads : List (List OpD)
  picks : List Int
abbrev scZ : ScD := ⟨0, 0, [], []⟩
def ScD.ops (s : ScD) : List OpD := s.threads.flatten
def pickB (p : Int) : Bool := decide (0 ≤ p) && decide (p ≤ 9999)
/-- Is a script right? -/
def rightR (s : ScD) : Bool := decide (0 ≤ s.subs) && decide (s.subs ≤ 8) && decide (1 ≤ s.cap) && decide (s.cap ≤ 16) && decide (s.threads.length ≤ 4) && decide (s.picks.length ≤ 4096) && decide (s.ops.length ≤ 64) && s.ops.all plainR && s.picks.all pickB
structure RightP (s : ScD) : Prop where
  s0 : 0 ≤ s.subs
  s8 : s.subs ≤ 8
  c1 : 1 ≤ s.cap
  c16 : s.cap ≤ 16
  th : s.threads.length ≤ 4
  pk : s.picks.length ≤ 4096
  ops : s.ops.length ≤ 64
  plain : ∀ x ∈ s.ops, plainR x = true
  pick : ∀ p ∈ s.picks, 0 ≤ p ∧ p ≤ 9999
theorem right_iff (s : ScD) : rightR s = true ↔ RightP s := by
  unfold rightR
  simp only [Bool.and_eq_true, decide_eq_true_eq, List.all_eq_true]
  constructor
  · rintro ⟨⟨⟨⟨⟨⟨⟨⟨h1, h2⟩, h3⟩, h4⟩, h5⟩, h6⟩, h7⟩, h8⟩, h9⟩
    exact ⟨h1, h2, h3, h4, h5, h6, h7, h8, fun p hp => by have := h9 p hp; unfold pickB at this; simpa using this⟩
  · rintro ⟨h1, h2, h3, h4, h5, h6, h7, h8, h9⟩
    exact ⟨⟨⟨⟨⟨⟨⟨⟨h1, h2⟩, h3⟩, h4⟩, h5⟩, h6⟩, h7⟩, h8⟩, fun p hp => by unfold pickB; simpa using h9 p hp⟩
abbrev sSubs : Str := [115, 117, 98, 115]
abbrev sCap : Str := [99, 97, 112]
abbrev sThread : Str := [116, 104, 114, 101, 97, 100]
abbrev sPicks : Str := [112, 105, 99, 107, 115]
/-- What a line says. -/
inductive Cmd
  | subs (n : Int) | cap (n : Int) | thread | op (x : OpD) | picks (l : List Int)
def picksL (l : List Int) : Str := sPicks ++ (l.map fun p => 32 :: itoa p).flatten
def Cmd.text : Cmd → Str
  | .subs n => sSubs ++ 32 :: itoa n
  | .cap n => sCap ++ 32 :: itoa n
  | .thread => sThread
  | .op x => lineR x
  | .picks l => picksL l
structure ScS where
  s : ScD
  at_ : Nat
  done : Bool
abbrev ssZ : ScS := ⟨scZ, 0, false⟩
def pushOp (l : List (List OpD)) (x : OpD) : List (List OpD) := l.dropLast ++ [(l.getLast?.getD []) ++ [x]]
def Cmd.app (r : ScS) : Cmd → ScS
  | .subs n => ⟨{ r.s with subs := n }, r.at_ + 1, r.done⟩
  | .cap n => ⟨{ r.s with cap := n }, r.at_ + 1, r.done⟩
  | .thread => ⟨{ r.s with threads := r.s.threads ++ [[]] }, r.at_ + 1, r.done⟩
  | .op x => ⟨{ r.s with threads := pushOp r.s.threads x }, r.at_ + 1, r.done⟩
  | .picks l => ⟨{ r.s with picks := r.s.picks ++ l }, r.at_ + 1, true⟩
/-- May a line come? -/
def Cmd.ok (r : ScS) : Cmd → Prop
  | .subs n => r.done = false ∧ r.at_ = 0 ∧ 0 ≤ n ∧ n ≤ 8
  | .cap n => r.done = false ∧ r.at_ = 1 ∧ 1 ≤ n ∧ n ≤ 16
  | .thread => r.done = false ∧ 2 ≤ r.at_ ∧ r.s.threads.length < 4
  | .op x => r.done = false ∧ 2 ≤ r.at_ ∧ r.s.threads ≠ [] ∧ r.s.ops.length < 64 ∧ plainR x = true ∧ x.text.length ≤ 300 ∧ x.payload.length ≤ 300
  | .picks l => r.done = false ∧ 2 ≤ r.at_ ∧ l ≠ [] ∧ l.length ≤ 4096 ∧ r.s.picks = [] ∧ ∀ p ∈ l, 0 ≤ p ∧ p ≤ 9999
def runs (r : ScS) : List Cmd → ScS
  | [] => r
  | c :: l => runs (c.app r) l
def Runs (r : ScS) : List Cmd → Prop
  | [] => True
  | c :: l => c.ok r ∧ Runs (c.app r) l
theorem runs_app (r : ScS) : ∀ (a b : List Cmd), runs r (a ++ b) = runs (runs r a) b
  | [], b => rfl
  | c :: a, b => runs_app (c.app r) a b
theorem Runs_app (r : ScS) : ∀ (a b : List Cmd), Runs r (a ++ b) ↔ Runs r a ∧ Runs (runs r a) b := by
  intro a
  induction a generalizing r with
  | nil => intro b; simp [Runs, runs]
  | cons c a ih => intro b; simp only [List.cons_append, Runs, runs, ih, and_assoc]
theorem Runs.take {r : ScS} {l : List Cmd} (h : Runs r l) (k : Nat) : Runs r (l.take k) := by
  have := h; rw [← List.take_append_drop k l, Runs_app] at this; exact this.1
def linesC (l : List Cmd) : Str := (l.map fun c => c.text ++ [10]).flatten
def thrC (t : List OpD) : List Cmd := .thread :: t.map .op
/-- A script's lines. -/
def cmdsOf (s : ScD) : List Cmd := [.subs s.subs, .cap s.cap] ++ (s.threads.map thrC).flatten ++ (if s.picks = [] then [] else [.picks s.picks])
def textR (s : ScD) : Str := linesC (cmdsOf s)
/-! ### a right script's lines are taken, and give it back -/
theorem push_snoc (l : List (List OpD)) (t : List OpD) (x : OpD) : pushOp (l ++ [t]) x = l ++ [t ++ [x]] := by simp [pushOp]
theorem runs_ops : ∀ (ops : List OpD) (r : ScS) (ini : List (List OpD)) (t : List OpD), r.s.threads = ini ++ [t] → runs r (ops.map .op) = ⟨{ r.s with threads := ini ++ [t ++ ops] }, r.at_ + ops.length, r.done⟩
  | [], r, ini, t, h => by simp [runs, ← h]
  | x :: ops, r, ini, t, h => by
    simp only [List.map_cons, runs]
    rw [runs_ops ops ((Cmd.op x).app r) ini (t ++ [x]) (by simp [Cmd.app, h, push_snoc])]
    simp [Cmd.app, h, Nat.add_comm, Nat.add_left_comm]
theorem Runs_ops : ∀ (ops : List OpD) (r : ScS) (ini : List (List OpD)) (t : List OpD), r.s.threads = ini ++ [t] → r.done = false → 2 ≤ r.at_ → r.s.ops.length + ops.length ≤ 64 → (∀ x ∈ ops, plainR x = true ∧ x.text.length ≤ 300 ∧ x.payload.length ≤ 300) → Runs r (ops.map .op)
  | [], r, ini, t, h, _, _, _, _ => trivial
  | x :: ops, r, ini, t, h, hd, ha, hn, hp => by
    have hx := hp x (by simp)
    refine ⟨⟨hd, ha, by rw [h]; simp, by simp only [List.length_cons] at hn; omega, hx⟩, ?_⟩
    refine Runs_ops ops ((Cmd.op x).app r) ini (t ++ [x]) (by simp [Cmd.app, h, push_snoc]) hd (by show 2 ≤ r.at_ + 1; omega) ?_ (fun y hy => hp y (by simp [hy]))
    have e : ((Cmd.op x).app r).s.ops.length = r.s.ops.length + 1 := by
      simp only [Cmd.app, ScD.ops, h, push_snoc]; simp [Nat.add_assoc]
    rw [e]; simp only [List.length_cons] at hn; omega
theorem runs_thrs : ∀ (ts : List (List OpD)) (r : ScS), runs r (ts.map thrC).flatten = ⟨{ r.s with threads := r.s.threads ++ ts }, r.at_ + ((ts.map thrC).flatten).length, r.done⟩
  | [], r => by simp [runs]
  | t :: ts, r => by
    simp only [List.map_cons, List.flatten_cons, runs_app]
    have h1 : runs r (thrC t) = ⟨{ r.s with threads := r.s.threads ++ [t] }, r.at_ + (thrC t).length, r.done⟩ := by
      unfold thrC
      simp only [runs]
      rw [runs_ops t (Cmd.thread.app r) r.s.threads [] rfl]
      simp [Cmd.app, Nat.add_comm, Nat.add_left_comm]
    rw [h1, runs_thrs ts _]
    simp [Nat.add_assoc]
theorem Runs_thrs : ∀ (ts : List (List OpD)) (r : ScS), r.done = false → 2 ≤ r.at_ → r.s.threads.length + ts.length ≤ 4 → r.s.ops.length + ts.flatten.length ≤ 64 → (∀ x ∈ ts.flatten, plainR x = true ∧ x.text.length ≤ 300 ∧ x.payload.length ≤ 300) → Runs r (ts.map thrC).flatten
  | [], r, _, _, _, _, _ => trivial
  | t :: ts, r, hd, ha, hn, ho, hp => by
    simp only [List.map_cons, List.flatten_cons]
    rw [Runs_app]
    have h1 : runs r (thrC t) = ⟨{ r.s with threads := r.s.threads ++ [t] }, r.at_ + (thrC t).length, r.done⟩ := by
      have := runs_thrs [t] r
      simpa using this
    simp only [List.length_cons, List.flatten_cons, List.length_append] at hn ho
    refine ⟨?_, ?_⟩
    · unfold thrC
      refine ⟨⟨hd, ha, by omega⟩, ?_⟩
      refine Runs_ops t (Cmd.thread.app r) r.s.threads [] rfl hd (by show 2 ≤ r.at_ + 1; omega) ?_ (fun x hx => hp x (by simp [hx]))
      have e : (Cmd.thread.app r).s.ops.length = r.s.ops.length := by simp [Cmd.app, ScD.ops]
      omega
    · rw [h1]
      refine Runs_thrs ts _ hd (by show 2 ≤ r.at_ + _; omega) (by simp only [List.length_append, List.length_cons, List.length_nil]; omega) ?_ (fun x hx => hp x (by simp only [List.flatten_cons, List.mem_append]; exact .inr hx))
      have e : (ScD.ops { r.s with threads := r.s.threads ++ [t] }).length = r.s.ops.length + t.length := by simp [ScD.ops]
      show (ScD.ops { r.s with threads := r.s.threads ++ [t] }).length + _ ≤ 64
      omega
/-- What of a script is looked at. -/
structure SmallP (s : ScD) : Prop where
  th : s.threads.length ≤ 8
  ops : s.ops.length ≤ 100
  pk : s.picks.length ≤ 5000
  txt : ∀ x ∈ s.ops, x.text.length ≤ 100 ∧ x.payload.length ≤ 100
theorem Runs_cmds {s : ScD} (h : RightP s) (hs : SmallP s) : Runs ssZ (cmdsOf s) := by
  unfold cmdsOf
  rw [List.append_assoc, Runs_app]
  refine ⟨⟨⟨rfl, rfl, h.s0, h.s8⟩, ⟨rfl, rfl, h.c1, h.c16⟩, trivial⟩, ?_⟩
  rw [Runs_app]
  have hr : runs ssZ [.subs s.subs, .cap s.cap] = ⟨⟨s.subs, s.cap, [], []⟩, 2, false⟩ := rfl
  rw [hr]
  refine ⟨Runs_thrs s.threads _ rfl (Nat.le_refl 2) (by have := h.th; simpa using this) (by have := h.ops; simpa [ScD.ops] using this) (fun x hx => ⟨h.plain x hx, by have := (hs.txt x hx).1; omega, by have := (hs.txt x hx).2; omega⟩), ?_⟩
  rw [runs_thrs]
  by_cases hp : s.picks = []
  · rw [if_pos hp]; trivial
  · rw [if_neg hp]
    exact ⟨⟨rfl, by show 2 ≤ 2 + _; omega, hp, h.pk, rfl, h.pick⟩, trivial⟩
theorem runs_cmds (s : ScD) : (runs ssZ (cmdsOf s)).s = s ∧ 2 ≤ (runs ssZ (cmdsOf s)).at_ := by
  unfold cmdsOf
  rw [List.append_assoc, runs_app, runs_app]
  have hr : runs ssZ [.subs s.subs, .cap s.cap] = ⟨⟨s.subs, s.cap, [], []⟩, 2, false⟩ := rfl
  rw [hr, runs_thrs]
  by_cases hp : s.picks = []
  · rw [if_pos hp]
    refine ⟨?_, by show 2 ≤ 2 + _; omega⟩
    show ScD.mk _ _ _ _ = s
    simp only [List.nil_append]; rw [← hp]
  · rw [if_neg hp]
    refine ⟨?_, by show 2 ≤ 2 + _ + 1; omega⟩
    show ScD.mk _ _ _ _ = s
    simp
/-! ### a state that lines led to is right -/
structure OkS (r : ScS) : Prop where
  s0 : 0 ≤ r.s.subs
  s8 : r.s.subs ≤ 8
  c1 : 2 ≤ r.at_ → 1 ≤ r.s.cap
  c16 : r.s.cap ≤ 16
  th : r.s.threads.length ≤ 4
  pk : r.s.picks.length ≤ 4096
  ops : r.s.ops.length ≤ 64
  plain : ∀ x ∈ r.s.ops, plainR x = true
  pick : ∀ p ∈ r.s.picks, 0 ≤ p ∧ p ≤ 9999
theorem push_ops {l : List (List OpD)} (h : l ≠ []) (x : OpD) : (pushOp l x).flatten = l.flatten ++ [x] ∧ (pushOp l x).length = l.length := by
  obtain ⟨i, t, rfl⟩ : ∃ i t, l = i ++ [t] := ⟨l.dropLast, l.getLast h, (List.dropLast_concat_getLast h).symm⟩
  rw [push_snoc]; simp
theorem OkS.app {r : ScS} (h : OkS r) {c : Cmd} (hc : c.ok r) : OkS (c.app r) := by
  cases c with
  | subs n => exact ⟨hc.2.2.1, hc.2.2.2, fun ha => by have : 2 ≤ r.at_ + 1 := ha; have := hc.2.1; omega, h.c16, h.th, h.pk, h.ops, h.plain, h.pick⟩
  | cap n => exact ⟨h.s0, h.s8, fun _ => hc.2.2.1, hc.2.2.2, h.th, h.pk, h.ops, h.plain, h.pick⟩
  | thread =>
    have ho : (Cmd.thread.app r).s.ops = r.s.ops := by simp [Cmd.app, ScD.ops]
    exact ⟨h.s0, h.s8, fun _ => h.c1 hc.2.1, h.c16, by show (r.s.threads ++ [[]]).length ≤ 4; have := hc.2.2; simp only [List.length_append, List.length_cons, List.length_nil]; omega, h.pk, by rw [ho]; exact h.ops, by rw [ho]; exact h.plain, h.pick⟩
  | op x =>
    obtain ⟨p1, p2⟩ := push_ops hc.2.2.1 x
    have ho : ((Cmd.op x).app r).s.ops = r.s.ops ++ [x] := p1
    exact ⟨h.s0, h.s8, fun _ => h.c1 hc.2.1, h.c16, by show (pushOp r.s.threads x).length ≤ 4; rw [p2]; exact h.th, h.pk, by rw [ho]; have := hc.2.2.2.1; simp only [List.length_append, List.length_cons, List.length_nil]; omega, by rw [ho]; intro y hy; rcases List.mem_append.1 hy with hy | hy; exact h.plain y hy; simp only [List.mem_singleton] at hy; rw [hy]; exact hc.2.2.2.2.1, h.pick⟩
  | picks l =>
    have hp : ((Cmd.picks l).app r).s.picks = l := by show r.s.picks ++ l = l; rw [hc.2.2.2.2.1]; rfl
    exact ⟨h.s0, h.s8, fun _ => h.c1 hc.2.1, h.c16, h.th, by rw [hp]; exact hc.2.2.2.1, h.ops, h.plain, by rw [hp]; exact hc.2.2.2.2.2⟩
theorem okS_runs : ∀ (l : List Cmd) (r : ScS), OkS r → Runs r l → OkS (runs r l)
  | [], r, h, _ => h
  | c :: l, r, h, hr => okS_runs l (c.app r) (h.app hr.1) hr.2
theorem okZ : OkS ssZ := ⟨by decide, by decide, fun h => absurd h (by decide), by decide, by decide, by decide, by decide, fun x hx => (by cases hx), fun p hp => (by cases hp)⟩
theorem at_runs : ∀ (l : List Cmd) (r : ScS), (runs r l).at_ = r.at_ + l.length
  | [], r => rfl
  | c :: l, r => by
    have e : (c.app r).at_ = r.at_ + 1 := by cases c <;> rfl
    show (runs (c.app r) l).at_ = _
    rw [at_runs l, e, List.length_cons]; omega
/-! ### no line holds a line's end -/
theorem dec_nl (n : Nat) : ¬ (10 : UInt8) ∈ decDigits n := fun h => by
  obtain ⟨k, hk⟩ := List.getElem?_of_mem h
  obtain ⟨d, hd⟩ := digit_of_decFrom _ 0 n (dec_num n) k 10 hk
  have h32 : digitVal 10 = none := by decide
  rw [h32] at hd; cases hd
theorem itoa_nl (n : Int) : ¬ (10 : UInt8) ∈ itoa n := by
  unfold itoa; split
  · rw [List.mem_cons]; rintro (h | h)
    · revert h; decide
    · exact dec_nl _ h
  · exact dec_nl _
theorem hexd_nl {n : Nat} (h : n < 16) : hexd n ≠ 10 := by
  have : ∀ n : Fin 16, hexd n.val ≠ 10 := by decide +kernel
  exact this ⟨n, h⟩
theorem wordL_nl : ∀ s : Str, ¬ (10 : UInt8) ∈ wordL s
  | [] => by simp [wordL]
  | c :: s => by
    have ih := wordL_nl s
    unfold wordL wordB
    rw [List.mem_append]
    rintro (h | h)
    · split at h
      · rename_i hp
        simp only [List.mem_cons, List.not_mem_nil, or_false] at h
        subst h; revert hp; decide
      · simp only [List.mem_cons, List.not_mem_nil, or_false] at h
        rcases h with h | h | h
        · revert h; decide
        · exact hexd_nl (by have := c.toNat_lt; omega) h.symm
        · exact hexd_nl (Nat.mod_lt _ (by decide)) h.symm
    · exact ih h
theorem wordR_nl (s : Str) : ¬ (10 : UInt8) ∈ wordR s := by
  unfold wordR; split
  · decide
  · exact wordL_nl s
theorem name_nl (x : OpD) : ¬ (10 : UInt8) ∈ nameR x := by unfold nameR; (repeat' split) <;> decide
theorem line_nl (x : OpD) : ¬ (10 : UInt8) ∈ lineR x := by
  have h1 := name_nl x; have h2 := wordR_nl x.text; have h3 := wordR_nl x.payload; have h4 := itoa_nl x.sub
  have h5 : ¬ (10 : UInt8) = 32 := by decide
  unfold lineR wordsR
  split
  · rw [join3]; simp only [List.mem_append, List.mem_cons, not_or]; exact ⟨h1, h5, h2, h5, h3⟩
  · split
    · rw [join3]; simp only [List.mem_append, List.mem_cons, not_or]; exact ⟨h1, h5, h4, h5, h2⟩
    · rw [join2]; simp only [List.mem_append, List.mem_cons, not_or]; exact ⟨h1, h5, h4⟩
theorem cmd_nl (c : Cmd) : ¬ (10 : UInt8) ∈ c.text := by
  cases c with
  | subs n => have := itoa_nl n; show ¬ (10 : UInt8) ∈ sSubs ++ 32 :: itoa n; simp only [List.mem_append, List.mem_cons, not_or]; exact ⟨by decide, by decide, this⟩
  | cap n => have := itoa_nl n; show ¬ (10 : UInt8) ∈ sCap ++ 32 :: itoa n; simp only [List.mem_append, List.mem_cons, not_or]; exact ⟨by decide, by decide, this⟩
  | thread => show ¬ (10 : UInt8) ∈ sThread; decide
  | op x => exact line_nl x
  | picks l =>
    show ¬ (10 : UInt8) ∈ picksL l
    unfold picksL
    simp only [List.mem_append, not_or]
    refine ⟨by decide, ?_⟩
    intro h
    obtain ⟨q, hq, h⟩ := List.mem_flatten.1 h
    obtain ⟨p, _, rfl⟩ := List.mem_map.1 hq
    rcases List.mem_cons.1 h with h | h
    · revert h; decide
    · exact itoa_nl p h
end Go.Proofs.YthcclgoidchkdaaGreatDoorC

/- A script's memory: rows of rows. -/
set_option linter.unusedVariables false
set_option linter.unusedSimpArgs false
namespace Go.Proofs.YthcclgoidchkdaaGreatDoorC
open Go.RowKit
/-- v's elements are slices of operations. -/
def Thr (M : Nat → Prop) (w : World) (v : Value) (ps : List (Value × List OpD)) : Prop := Sl M w v 1 (ps.map fun p => [p.1]) ∧ ∀ p ∈ ps, Sl M w p.1 5 (p.2.map OpD.enc)
theorem Thr.ext {M M' : Nat → Prop} {w w' : World} {v : Value} {ps : List (Value × List OpD)} (h : Thr M w v ps) (hE : Ext M' w w') (hm : ∀ i, M' i → M i) : Thr M w' v ps := ⟨h.1.ext hE hm, fun p hp => (h.2 p hp).ext hE hm⟩
theorem Thr.sub {M M' : Nat → Prop} {w : World} {v : Value} {ps : List (Value × List OpD)} (h : Thr M w v ps) (hm : ∀ i, M' i → i < w.heap.size → M i) : Thr M' w v ps := ⟨h.1.sub hm, fun p hp => (h.2 p hp).sub hm⟩
/-- cs are a script's cells. -/
def ScM (M : Nat → Prop) (w : World) (cs : List Value) (s : ScD) : Prop := ∃ (vT vP : Value) (ps : List (Value × List OpD)), cs = [.int .i64 s.subs, .int .i64 s.cap, vT, vP] ∧ s.threads = ps.map (·.2) ∧ Thr M w vT ps ∧ Sl M w vP 1 (s.picks.map eI1)
theorem ScM.ext {M M' : Nat → Prop} {w w' : World} {cs : List Value} {s : ScD} (h : ScM M w cs s) (hE : Ext M' w w') (hm : ∀ i, M' i → M i) : ScM M w' cs s := by
  obtain ⟨vT, vP, ps, h1, h2, h3, h4⟩ := h
  exact ⟨vT, vP, ps, h1, h2, h3.ext hE hm, h4.ext hE hm⟩
theorem ScM.sub {M M' : Nat → Prop} {w : World} {cs : List Value} {s : ScD} (h : ScM M w cs s) (hm : ∀ i, M' i → i < w.heap.size → M i) : ScM M' w cs s := by
  obtain ⟨vT, vP, ps, h1, h2, h3, h4⟩ := h
  exact ⟨vT, vP, ps, h1, h2, h3.sub hm, h4.sub hm⟩
def psOps (ps : List (Value × List OpD)) : List OpD := (ps.map (·.2)).flatten
theorem psOps_step {ps : List (Value × List OpD)} {i : Nat} {p : Value × List OpD} (h : ps[i]? = some p) : psOps (ps.take (i + 1)) = psOps (ps.take i) ++ p.2 := by
  unfold psOps; rw [List.take_add_one, h]; simp
theorem psOps_le (ps : List (Value × List OpD)) (i : Nat) : (psOps (ps.take i)).length ≤ (psOps ps).length := by
  have : psOps ps = psOps (ps.take i) ++ psOps (ps.drop i) := by
    unfold psOps; rw [← List.flatten_append, ← List.map_append, List.take_append_drop]
  rw [this, List.length_append]; omega
theorem psOps_mem {ps : List (Value × List OpD)} {p : Value × List OpD} (hp : p ∈ ps) {x : OpD} (hx : x ∈ p.2) : x ∈ psOps ps := List.mem_flatten.2 ⟨p.2, List.mem_map.2 ⟨p, hp, rfl⟩, hx⟩
theorem psOps_len {ps : List (Value × List OpD)} {p : Value × List OpD} (hp : p ∈ ps) : p.2.length ≤ (psOps ps).length := by
  obtain ⟨i, hi⟩ := List.getElem?_of_mem hp
  have h1 := psOps_step hi
  have h2 := psOps_le ps (i + 1)
  rw [h1, List.length_append] at h2; omega
theorem sc_ops {s : ScD} {ps : List (Value × List OpD)} (h : s.threads = ps.map (·.2)) : s.ops = psOps ps := by unfold ScD.ops psOps; rw [h]
theorem sc_len {s : ScD} {ps : List (Value × List OpD)} (h : s.threads = ps.map (·.2)) : ps.length = s.threads.length := by rw [h, List.length_map]
end Go.Proofs.YthcclgoidchkdaaGreatDoorC

/- Scripts: how many operations; one thread behind the other; right ones. -/
set_option linter.unusedVariables false
set_option linter.unusedSimpArgs false
set_option maxRecDepth 100000
namespace Go.Proofs.YthcclgoidchkdaaGreatDoorC
open Go.RowKit
-- bellman/bellmanref20.Count
theorem count_ok (w : World) (s : ScD) {cs : List Value} (hsc : ScM Non w cs s) (hn : s.threads.length ≤ 1000000) (hn2 : s.ops.length ≤ 1152921504606846976) : Fn Tryz.prog 29 #[.agg cs.toArray] w fun u w' => u = .int .i64 (s.ops.length : Nat) := by
  obtain ⟨vT, vP, ps, rfl, hts, ⟨hT, hin⟩, hP⟩ := hsc
  have hso := sc_ops hts; have hsl := sc_len hts
  obtain ⟨aT, cT, rfl, _⟩ := id hT.len
  obtain ⟨aP, cP, rfl, _⟩ := id hP.len
  simp only [List.length_map] at hT hP ⊢
  have hbo : (psOps ps).length ≤ 1152921504606846976 := by rw [← hso]; exact hn2
  have hX := Ext.refl Non w
  refine fn_of_W (args := [_]) Tryz.func29 rfl (by kernel_rfl) rfl ?_
  refine W_seq ?_
  refine W_region ?_
  refine wl_boxS rfl ?_; intro b1 w1 hb1 hE1 hB1
  have hq1 : w.heap.size ≤ b1 := Nat.le_trans hX.size hb1
  have hl1 : Mine Non w b1 := .inr hq1
  replace hX := hX.tr hE1
  refine wl_val (rn_assign (by conv => lhs; whnf)) ?_
  refine wl_nil ?_
  refine W_seq ?_
  refine W_region ?_
  refine wl_val (rn_assign (by conv => lhs; whnf)) ?_
  refine wl_nil ?_
  refine W_seq ?_
  refine W_seq ?_
  refine W_region ?_
  refine wl_val (rn_assign (by conv => lhs; whnf)) ?_
  refine wl_nil ?_
  refine W_block ?_   -- block 0
  refine W_loopS (S := Nat) [1, 3, 4] (fun i => [.pointer (some ⟨b1, 0, none⟩), .int .i64 ((psOps (ps.take i)).length : Nat), .int .i64 (i : Nat)]) (fun i A => (Ext Non w A) ∧ (IsBox A b1 [.int .i64 s.subs, .int .i64 s.cap, .slice aT ps.length cT, .slice aP s.picks.length cP]) ∧ (Mine Non w b1) ∧ (i ≤ ps.length)) (fun i => ps.length - i) 0 ⟨rfl, rfl, rfl, trivial⟩ ⟨hX, hB1, hl1, Nat.zero_le _⟩ ?_
  rintro τ0 i A0 ⟨hX, hB1, hl1, hI0⟩
  have hpl0 := psOps_le ps i
  refine W_seq ?_
  refine W_seq ?_
  refine W_region ?_
  refine wl_val (rn_move (by conv => lhs; whnf)) ?_
  refine wl_val (rn_fieldAddr f_72_2 (by decide) rfl) ?_
  refine wl_val (rn_load1 p_70 rfl hB1 rfl) ?_
  refine wl_val (rn_len sl_70 rfl) ?_
  refine wl_val (rn_lss rfl rfl) ?_
  refine wl_nil ?_
  refine W_cond rfl (fun hc0 => ?_) (fun hc0 => ?_)
  · have hlt := of_decide_eq_true hc0; simp only [Int.ofNat_lt] at hlt
    obtain ⟨⟨pv, pt⟩, hi⟩ : ∃ p, ps[i]? = some p := ⟨_, List.getElem?_eq_getElem hlt⟩
    have hpm := List.mem_of_getElem? hi
    have hpt := hin _ hpm
    obtain ⟨ai, ci, hpv, _⟩ := id hpt.len
    simp only [List.length_map] at hpv
    subst hpv
    simp only at hpt
    obtain ⟨bT, oT, ea⟩ := hT.base (by intro e; have := congrArg List.length e; simp only [List.length_map, List.length_nil] at this; omega); subst ea
    have hpl := psOps_len hpm
    simp only at hpl
    have hst := psOps_step hi; have hsl1 := psOps_le ps (i + 1)
    rw [hst, List.length_append] at hsl1
    simp only at hsl1
    refine W_skip ?_
    refine W_seq ?_
    refine W_block ?_   -- block 1
    refine W_region ?_
    refine wl_val (rn_move (by conv => lhs; whnf)) ?_
    refine wl_val (rn_fieldAddr f_72_2 (by decide) rfl) ?_
    refine wl_val (rn_load1 p_70 rfl hB1 rfl) ?_
    refine wl_val (rn_move (by conv => lhs; whnf)) ?_
    refine wl_val (rn_indexAddr sl_70 rfl rfl (by omega)) ?_
    refine wl_val (rn_load p_78 rfl ((hT.ext hX (fun _ h => h)).at0 (map_at hi) rfl)) ?_
    refine wl_val (rn_len sl_78 rfl) ?_
    refine wl_val (rn_add rfl rfl (by omega)) ?_
    refine wl_val (rn_assign (by conv => lhs; whnf)) ?_
    refine wl_nil ?_
    refine W_region ?_
    refine wl_val (rn_move (by conv => lhs; whnf)) ?_
    refine wl_val (rn_add rfl rfl (by omega)) ?_
    refine wl_val (rn_assign (by conv => lhs; whnf)) ?_
    refine wl_nil ?_
    
    exact ⟨rfl, i + 1, ⟨rfl, by rw [hst, List.length_append]; rfl, rfl, trivial⟩, ⟨hX, hB1, hl1, hlt⟩, by omega⟩
  · have hge := of_decide_eq_false hc0; simp only [Int.ofNat_lt, Nat.not_lt] at hge
    have hie : i = ps.length := by omega
    subst hie
    refine W_exit ?_   -- exit 0
    refine W_seq ?_
    refine W_region ?_
    refine wl_val (rn_move (by conv => lhs; whnf)) ?_
    refine wl_val (rn_assign (by conv => lhs; whnf)) ?_
    refine wl_nil ?_
    refine W_ret ?_
    exact ⟨_, resR1 (res1_tmp rfl), hX, by rw [List.take_length, ← hso] <;> rfl⟩
-- slices.Grow[[]bellman/api.Op,bellman/api.Op]
theorem grow_new (w : World) (n : Nat) (hn : n ≤ 1000000000) : Fn Tryz.prog 97 #[.slice none 0 0, .int .i64 (n : Nat)] w fun u w' => ∃ o, OwO w' u o 5 [] ∧ ∀ i, o = some i → w.heap.size ≤ i := by
  have hX := Ext.refl Non w
  refine fn_of_W (args := [_, _]) Tryz.func97 rfl (by kernel_rfl) rfl ?_
  refine W_seq ?_
  refine W_region ?_
  refine wl_val (rn_assign (by conv => lhs; whnf)) ?_
  refine wl_nil ?_
  refine W_seq ?_
  refine W_seq ?_
  refine W_region ?_
  refine wl_val (rn_move (by conv => lhs; whnf)) ?_
  refine wl_val (rn_lss rfl rfl) ?_
  refine wl_nil ?_
  refine W_cond rfl (fun hc0 => ?_) (fun hc0 => ?_)
  · exact absurd (of_decide_eq_true hc0) (by omega)
  · refine W_skip ?_
    refine W_seq ?_
    refine W_seq ?_
    refine W_region ?_
    refine wl_val (rn_move (by conv => lhs; whnf)) ?_
    refine wl_val (rn_move (by conv => lhs; whnf)) ?_
    refine wl_val (rn_cap sl_78 rfl) ?_
    refine wl_val (rn_move (by conv => lhs; whnf)) ?_
    refine wl_val (rn_len sl_78 rfl) ?_
    refine wl_val (rn_sub rfl rfl (by omega)) ?_
    refine wl_val (rn_sub rfl rfl (by omega)) ?_
    refine wl_val (rn_assign (by conv => lhs; whnf)) ?_
    refine wl_nil ?_
    refine W_seq ?_
    refine W_region ?_
    refine wl_val (rn_move (by conv => lhs; whnf)) ?_
    refine wl_val (rn_gtr rfl rfl) ?_
    refine wl_nil ?_
    refine W_cond rfl (fun hc1 => ?_) (fun hc1 => ?_)
    · have hn1 := of_decide_eq_true hc1
      refine W_region ?_
      refine wl_val (rn_move (by conv => lhs; whnf)) ?_
      refine wl_val (rn_move (by conv => lhs; whnf)) ?_
      refine wl_val (rn_cap sl_78 rfl) ?_
      refine wl_val (rn_slice0 sl_78 (h := 0) (m := 0) rfl rfl ⟨_, rfl⟩ rfl (by simp) (by omega) (by omega)) ?_
      refine wl_val (rn_move (by conv => lhs; whnf)) ?_
      refine wl_zeros (q := n) sl_78 rfl ui_3 rfl rfl (Sl.nil (fun _ => True) _ 5) (by simp only [List.length_nil]; omega) (by simp only [List.length_nil]; omega) (by simp only [List.length_nil, big]; omega) ?_; intro v22 w1 b22 spare22 hb22 hE1 hO22
      have hq22 : w.heap.size ≤ b22 := Nat.le_trans hX.size hb22
      obtain ⟨c22, hv22, hc22, hc22b, hsp22⟩ := id hO22.val; subst hv22
      replace hX := hX.tr hE1
      refine wl_val (rn_move (by conv => lhs; whnf)) ?_
      refine wl_val (rn_len sl_78 rfl) ?_
      refine wl_val (rn_slice0 sl_78 (h := 0) (m := c22) rfl rfl ⟨_, rfl⟩ rfl (by simp) (by omega) (by omega)) ?_
      refine wl_val (rn_assign (by conv => lhs; whnf)) ?_
      refine wl_nil ?_
      refine W_seq ?_
      refine W_region ?_
      refine wl_val (rn_move (by conv => lhs; whnf)) ?_
      refine wl_val (rn_assign (by conv => lhs; whnf)) ?_
      refine wl_nil ?_
      refine W_ret ?_
      exact ⟨_, resR1 (res1_tmp rfl), hX, ⟨some b22, .inr ⟨b22, _, rfl, hO22.cut rfl (Nat.zero_le _)⟩, fun i h => by cases h; exact hq22⟩⟩
    · refine W_skip ?_
      refine W_seq ?_
      refine W_region ?_
      refine wl_val (rn_move (by conv => lhs; whnf)) ?_
      refine wl_val (rn_assign (by conv => lhs; whnf)) ?_
      refine wl_nil ?_
      refine W_ret ?_
      exact ⟨_, resR1 (res1_tmp rfl), hX, ⟨none, OwO.nil, fun i h => by cases h⟩⟩
-- slices.Concat[[]bellman/api.Op,bellman/api.Op]
set_option maxHeartbeats 1600000 in
theorem concat_ok (w : World) (ps : List (Value × List OpD)) {v : Value} (hTh : Thr Non w v ps) (hn : ps.length ≤ 1000000) (hn2 : (psOps ps).length ≤ 1000000000) : Fn Tryz.prog 55 #[v] w fun u w' => ∃ o, OwO w' u o 5 ((psOps ps).map OpD.enc) ∧ ∀ i, o = some i → w.heap.size ≤ i := by
  obtain ⟨hT, hin⟩ := hTh
  obtain ⟨aT, cT, rfl, _⟩ := id hT.len
  simp only [List.length_map] at hT ⊢
  have hX := Ext.refl Non w
  refine fn_of_W (args := [_]) Tryz.func55 rfl (by kernel_rfl) rfl ?_
  refine W_seq ?_
  refine W_region ?_
  refine wl_val (rn_assign (by conv => lhs; whnf)) ?_
  refine wl_nil ?_
  refine W_seq ?_
  refine W_region ?_
  refine wl_val (rn_assign (by conv => lhs; whnf)) ?_
  refine wl_nil ?_
  refine W_seq ?_
  refine W_seq ?_
  refine W_region ?_
  refine wl_val (rn_move (by conv => lhs; whnf)) ?_
  refine wl_val (rn_len sl_70 rfl) ?_
  refine wl_val (rn_move (by conv => lhs; whnf)) ?_
  refine wl_nil ?_
  refine W_block ?_   -- block 0
  refine W_loopS (S := Nat) [0, 3, 9, 10, 11] (fun i => [.slice aT ps.length cT, .int .i64 ((psOps (ps.take i)).length : Nat), .slice aT ps.length cT, .int .i64 (ps.length : Nat), .int .i64 (i : Nat)]) (fun i A => (Ext Non w A) ∧ (i ≤ ps.length)) (fun i => ps.length - i) 0 ⟨rfl, rfl, rfl, rfl, rfl, trivial⟩ ⟨hX, Nat.zero_le _⟩ ?_
  rintro τ0 i A0 ⟨hX, hI0⟩
  have hpl0 := psOps_le ps i
  refine W_seq ?_
  refine W_region ?_
  refine wl_val (rn_lss rfl rfl) ?_
  refine wl_nil ?_
  refine W_seq ?_
  refine W_cond rfl (fun hc0 => ?_) (fun hc0 => ?_)
  · have hlt := of_decide_eq_true hc0; simp only [Int.ofNat_lt] at hlt
    obtain ⟨⟨pv, pt⟩, hi⟩ : ∃ p, ps[i]? = some p := ⟨_, List.getElem?_eq_getElem hlt⟩
    have hpm := List.mem_of_getElem? hi
    have hpt := hin _ hpm
    obtain ⟨ai, ci, hpv, _⟩ := id hpt.len
    simp only [List.length_map] at hpv
    subst hpv
    simp only at hpt
    obtain ⟨bT, oT, ea⟩ := hT.base (by intro e; have := congrArg List.length e; simp only [List.length_map, List.length_nil] at this; omega); subst ea
    have hpl := psOps_len hpm
    simp only at hpl
    have hst := psOps_step hi; have hsl1 := psOps_le ps (i + 1)
    rw [hst, List.length_append] at hsl1
    simp only at hsl1
    refine W_skip ?_
    refine W_seq ?_
    refine W_block ?_   -- block 1
    refine W_seq ?_
    refine W_region ?_
    refine wl_val (rn_indexAddr sl_70 rfl rfl (by omega)) ?_
    refine wl_val (rn_load p_78 rfl ((hT.ext hX (fun _ h => h)).at0 (map_at hi) rfl)) ?_
    refine wl_val (rn_assign (by conv => lhs; whnf)) ?_
    refine wl_nil ?_
    refine W_seq ?_
    refine W_region ?_
    refine wl_val (rn_move (by conv => lhs; whnf)) ?_
    refine wl_val (rn_move (by conv => lhs; whnf)) ?_
    refine wl_val (rn_len sl_78 rfl) ?_
    refine wl_val (rn_add rfl rfl (by omega)) ?_
    refine wl_val (rn_assign (by conv => lhs; whnf)) ?_
    refine wl_nil ?_
    refine W_seq ?_
    refine W_region ?_
    refine wl_val (rn_move (by conv => lhs; whnf)) ?_
    refine wl_val (rn_lss rfl rfl) ?_
    refine wl_nil ?_
    refine W_cond rfl (fun hc1 => ?_) (fun hc1 => ?_)
    · exact absurd (of_decide_eq_true hc1) (by omega)
    · refine W_skip ?_
      refine W_region ?_
      refine wl_val (rn_add rfl rfl (by omega)) ?_
      refine wl_val (rn_move (by conv => lhs; whnf)) ?_
      refine wl_nil ?_
      
      exact ⟨rfl, i + 1, ⟨rfl, by rw [hst, List.length_append]; rfl, rfl, rfl, rfl, trivial⟩, ⟨hX, hlt⟩, by omega⟩
  · have hge := of_decide_eq_false hc0; simp only [Int.ofNat_lt, Nat.not_lt] at hge
    have hie : i = ps.length := by omega
    subst hie
    rw [List.take_length]
    refine W_exit ?_   -- exit 0
    refine W_seq ?_
    refine W_region ?_
    refine wl_val (rn_move (by conv => lhs; whnf)) ?_
    have hX0 := hX
    refine wl_call e_97 rfl (grow_new A0 _ hn2) ?_; intro v24 w1 hE1 hR1
    replace hX := hX.tr hE1
    obtain ⟨o24, hO, ho0⟩ := hR1
    have ho : ∀ i, o24 = some i → w.heap.size ≤ i := fun i h => Nat.le_trans hX0.size (ho0 i h)
    refine wl_val (rn_assign (by conv => lhs; whnf)) ?_
    refine wl_nil ?_
    refine W_seq ?_
    refine W_seq ?_
    refine W_region ?_
    refine wl_val (rn_move (by conv => lhs; whnf)) ?_
    refine wl_val (rn_len sl_70 rfl) ?_
    refine wl_val (rn_move (by conv => lhs; whnf)) ?_
    refine wl_nil ?_
    refine W_block ?_   -- block 2
    refine W_loopS (S := Nat × Value × Option Nat) [6, 25, 26, 27] (fun ⟨j, vo, o⟩ => [vo, .slice aT ps.length cT, .int .i64 (ps.length : Nat), .int .i64 (j : Nat)]) (fun ⟨j, vo, o⟩ A => (Ext Non w A) ∧ (j ≤ ps.length ∧ OwO A vo o 5 ((psOps (ps.take j)).map OpD.enc) ∧ ∀ i, o = some i → w.heap.size ≤ i)) (fun ⟨j, vo, o⟩ => ps.length - j) (0, _, o24) ⟨rfl, rfl, rfl, rfl, trivial⟩ ⟨hX, ⟨Nat.zero_le _, hO, ho⟩⟩ ?_
    rintro τ1 ⟨j, vo, o⟩ A1 ⟨hX, hI1⟩
    obtain ⟨hj, hO, ho⟩ := hI1
    have hpl0 := psOps_le ps j
    refine W_seq ?_
    refine W_region ?_
    refine wl_val (rn_lss rfl rfl) ?_
    refine wl_nil ?_
    refine W_seq ?_
    refine W_cond rfl (fun hc2 => ?_) (fun hc2 => ?_)
    · have hlt := of_decide_eq_true hc2; simp only [Int.ofNat_lt] at hlt
      obtain ⟨⟨pv, pt⟩, hi⟩ : ∃ p, ps[j]? = some p := ⟨_, List.getElem?_eq_getElem hlt⟩
      have hpm := List.mem_of_getElem? hi
      have hpt := hin _ hpm
      obtain ⟨ai, ci, hpv, _⟩ := id hpt.len
      simp only [List.length_map] at hpv
      subst hpv
      simp only at hpt
      obtain ⟨bT, oT, ea⟩ := hT.base (by intro e; have := congrArg List.length e; simp only [List.length_map, List.length_nil] at this; omega); subst ea
      have hpl := psOps_len hpm
      simp only at hpl
      have hst := psOps_step hi; have hsl1 := psOps_le ps (j + 1)
      rw [hst, List.length_append] at hsl1
      simp only at hsl1
      refine W_skip ?_
      refine W_seq ?_
      refine W_block ?_   -- block 3
      refine W_seq ?_
      refine W_region ?_
      refine wl_val (rn_indexAddr sl_70 rfl rfl (by omega)) ?_
      refine wl_val (rn_load p_78 rfl ((hT.ext hX (fun _ h => h)).at0 (map_at hi) rfl)) ?_
      refine wl_val (rn_assign (by conv => lhs; whnf)) ?_
      refine wl_nil ?_
      refine W_region ?_
      refine wl_val (rn_move (by conv => lhs; whnf)) ?_
      refine wl_val (rn_move (by conv => lhs; whnf)) ?_
      have hXo := hX
      refine wl_app sl_78 rfl rfl rfl hO (hpt.ext hX (fun _ h => h)) (fun r hr => by obtain ⟨x, _, rfl⟩ := List.mem_map.1 hr; exact OpD.one x) (by simp only [List.length_map]; omega) (by simp only [List.length_map, big]; omega) ?_; intro v33 w2 o33 hE2 hO33 hf33
      replace hX := hX.mineO hE2 (fun j hj => .inr (ho j hj))
      have ho33 : ∀ j, o33 = some j → w.heap.size ≤ j := fun j hj => by rcases hf33 j hj with h | h; exact ho j h; exact Nat.le_trans hXo.size h
      refine wl_val (rn_assign (by conv => lhs; whnf)) ?_
      refine wl_nil ?_
      refine W_region ?_
      refine wl_val (rn_add rfl rfl (by omega)) ?_
      refine wl_val (rn_move (by conv => lhs; whnf)) ?_
      refine wl_nil ?_
      exact ⟨rfl, (j + 1, _, o33), ⟨rfl, rfl, rfl, rfl, trivial⟩, ⟨hX, ⟨hlt, by rw [hst, List.map_append]; exact hO33, ho33⟩⟩, by show ps.length - (j + 1) < ps.length - j; omega⟩
    · have hge := of_decide_eq_false hc2; simp only [Int.ofNat_lt, Nat.not_lt] at hge
      have hie : j = ps.length := by omega
      subst hie
      rw [List.take_length] at hO
      refine W_exit ?_   -- exit 2
      refine W_seq ?_
      refine W_region ?_
      refine wl_val (rn_move (by conv => lhs; whnf)) ?_
      refine wl_val (rn_assign (by conv => lhs; whnf)) ?_
      refine wl_nil ?_
      refine W_ret ?_
      exact ⟨_, resR1 (res1_tmp rfl), hX, ⟨_, hO, ho⟩⟩
-- bellman/script.Merge
theorem merge_ok (w : World) (s : ScD) {cs : List Value} (hsc : ScM Non w cs s) (hn : s.threads.length ≤ 1000000) (hn2 : s.ops.length ≤ 1000000000) : Fn Tryz.prog 26 #[.agg cs.toArray] w fun u w' => ∃ o, OwO w' u o 5 (s.ops.map OpD.enc) ∧ ∀ i, o = some i → w.heap.size ≤ i := by
  obtain ⟨vT, vP, ps, rfl, hts, ⟨hT, hin⟩, hP⟩ := hsc
  have hso := sc_ops hts; have hsl := sc_len hts
  obtain ⟨aT, cT, rfl, _⟩ := id hT.len
  obtain ⟨aP, cP, rfl, _⟩ := id hP.len
  simp only [List.length_map] at hT hP ⊢
  have hX := Ext.refl Non w
  refine fn_of_W (args := [_]) Tryz.func26 rfl (by kernel_rfl) rfl ?_
  refine W_seq ?_
  refine W_region ?_
  refine wl_boxS rfl ?_; intro b1 w1 hb1 hE1 hB1
  have hq1 : w.heap.size ≤ b1 := Nat.le_trans hX.size hb1
  have hl1 : Mine Non w b1 := .inr hq1
  replace hX := hX.tr hE1
  refine wl_val (rn_assign (by conv => lhs; whnf)) ?_
  refine wl_nil ?_
  refine W_seq ?_
  refine W_region ?_
  refine wl_val (rn_fieldAddr f_72_2 (by decide) rfl) ?_
  refine wl_val (rn_load1 p_70 rfl hB1 rfl) ?_
  refine wl_call e_55 rfl (concat_ok w1 ps ⟨hT.ext hX (fun _ h => h), fun p hp => (hin p hp).ext hX (fun _ h => h)⟩ (by omega) (by rw [← hso]; exact hn2)) ?_; intro v5 w2 hE2 hR2
  replace hX := hX.tr hE2
  replace hB1 := hB1.ext hE2 id
  obtain ⟨o5, hO5, ho5⟩ := hR2; rw [← hso] at hO5
  refine wl_val (rn_assign (by conv => lhs; whnf)) ?_
  refine wl_nil ?_
  refine W_ret ?_
  exact ⟨_, resR1 (res1_tmp rfl), hX, ⟨_, hO5, fun i h => Nat.le_trans (Nat.le_of_lt_succ (Nat.lt_succ_of_le hE1.size)) (ho5 i h)⟩⟩
-- bellman/script.Right$1
theorem right1_ok (w : World) (x : OpD) : Fn Tryz.prog 57 #[.agg x.enc.toArray] w fun u w' => u = .bool (!plainR x) := by
  have hX := Ext.refl Non w
  refine fn_of_W (args := [_]) Tryz.func57 rfl (by kernel_rfl) rfl ?_
  refine W_seq ?_
  refine W_region ?_
  refine wl_boxS rfl ?_; intro b1 w1 hb1 hE1 hB1
  have hq1 : w.heap.size ≤ b1 := Nat.le_trans hX.size hb1
  have hl1 : Mine Non w b1 := .inr hq1
  replace hX := hX.tr hE1
  refine wl_val (rn_assign (by conv => lhs; whnf)) ?_
  refine wl_nil ?_
  refine W_seq ?_
  refine W_region ?_
  refine wl_val (rn_loadB s_69 rfl rfl hB1) ?_
  refine wl_call e_58 rfl (plain_ok w1 x) ?_; intro v4 w2 hE2 hR2
  replace hX := hX.tr hE2
  replace hB1 := hB1.ext hE2 id
  subst hR2
  refine wl_val (rn_not rfl) ?_
  refine wl_val (rn_assign (by conv => lhs; whnf)) ?_
  refine wl_nil ?_
  refine W_ret ?_
  exact ⟨_, resR1 (res1_tmp rfl), hX, rfl⟩
-- bellman/script.Right$2
theorem right2_ok (w : World) (p : Int) : Fn Tryz.prog 60 #[.int .i64 p] w fun u w' => u = .bool (!pickB p) := by
  have hX := Ext.refl Non w
  refine fn_of_W (args := [_]) Tryz.func60 rfl (by kernel_rfl) rfl ?_
  refine W_seq ?_
  refine W_region ?_
  refine wl_val (rn_assign (by conv => lhs; whnf)) ?_
  refine wl_nil ?_
  refine W_seq ?_
  refine W_region ?_
  refine wl_val (rn_move (by conv => lhs; whnf)) ?_
  refine wl_val (rn_lss rfl rfl) ?_
  refine wl_val (rn_move (by conv => lhs; whnf)) ?_
  refine wl_split (d := 5) rfl (fun hg5 => ?_) (fun hg5 => ?_)
  · have q := of_decide_eq_true hg5
    refine wl_no rfl (congrArg Value.bool hg5) ?_
    refine wl_no rfl (congrArg Value.bool hg5) ?_
    refine wl_val (rn_pickT (congrArg Value.bool hg5) (by conv => lhs; whnf)) ?_
    refine wl_val (rn_assign (by conv => lhs; whnf)) ?_
    refine wl_nil ?_
    refine W_ret ?_
    first | exact ⟨_, resR1 (res1_tmp rfl), hX, congrArg Value.bool (by unfold pickB; rw [decide_eq_false (show ¬ 0 ≤ p by omega)]; rfl)⟩ | exact ⟨_, resR1 (res1_tmp rfl), hX, congrArg Value.bool (by unfold pickB; rw [decide_eq_true (show 0 ≤ p by omega), Bool.true_and]; by_cases h : p ≤ 9999; rw [decide_eq_true h, decide_eq_false (show ¬ p > 9999 by omega)]; rfl; rw [decide_eq_false h, decide_eq_true (show p > 9999 by omega)]; rfl)⟩
  · have q := of_decide_eq_false hg5
    refine wl_yes rfl (congrArg Value.bool hg5) ?_
    refine wl_val (rn_move (by conv => lhs; whnf)) ?_
    refine wl_yes rfl (congrArg Value.bool hg5) ?_
    refine wl_val (rn_gtr rfl rfl) ?_
    refine wl_val (rn_pickF (congrArg Value.bool hg5) (by conv => lhs; whnf)) ?_
    refine wl_val (rn_assign (by conv => lhs; whnf)) ?_
    refine wl_nil ?_
    refine W_ret ?_
    first | exact ⟨_, resR1 (res1_tmp rfl), hX, congrArg Value.bool (by unfold pickB; rw [decide_eq_false (show ¬ 0 ≤ p by omega)]; rfl)⟩ | exact ⟨_, resR1 (res1_tmp rfl), hX, congrArg Value.bool (by unfold pickB; rw [decide_eq_true (show 0 ≤ p by omega), Bool.true_and]; by_cases h : p ≤ 9999; rw [decide_eq_true h, decide_eq_false (show ¬ p > 9999 by omega)]; rfl; rw [decide_eq_false h, decide_eq_true (show p > 9999 by omega)]; rfl)⟩
-- slices.IndexFunc[[]bellman/api.Op,bellman/api.Op]
theorem index_ops (w : World) (l : List OpD) {v : Value} (hs : Sl Non w v 5 (l.map OpD.enc)) : Fn Tryz.prog 98 #[v, .func (.func 57) #[] #[]] w fun u w' => ∃ n : Int, u = .int .i64 n ∧ (if l.all plainR then n = -1 else 0 ≤ n) := by
  obtain ⟨a, c, rfl, hbg⟩ := id hs.len
  simp only [List.length_map] at hs hbg ⊢
  have hX := Ext.refl Non w
  refine fn_of_W (args := [_, _]) Tryz.func98 rfl (by kernel_rfl) rfl ?_
  refine W_seq ?_
  refine W_region ?_
  refine wl_val (rn_assign (by conv => lhs; whnf)) ?_
  refine wl_nil ?_
  refine W_seq ?_
  refine W_seq ?_
  refine W_region ?_
  refine wl_val (rn_move (by conv => lhs; whnf)) ?_
  refine wl_val (rn_len sl_78 rfl) ?_
  refine wl_val (rn_move (by conv => lhs; whnf)) ?_
  refine wl_nil ?_
  refine W_block ?_   -- block 0
  refine W_loopS (S := Nat) [0, 1, 7, 8] (fun i => [.slice a l.length c, .func (.func 57) #[] #[], .int .i64 (l.length : Nat), .int .i64 (i : Nat)]) (fun i A => (Ext Non w A) ∧ (i ≤ l.length ∧ ∀ y ∈ l.take i, plainR y = true)) (fun i => l.length - i) 0 ⟨rfl, rfl, rfl, rfl, trivial⟩ ⟨hX, ⟨Nat.zero_le _, fun y h => by simp at h⟩⟩ ?_
  rintro τ0 i A0 ⟨hX, hI0⟩
  obtain ⟨hil, hal⟩ := hI0
  have hbg2 : big = 9223372036854775807 := rfl
  refine W_seq ?_
  refine W_region ?_
  refine wl_val (rn_lss rfl rfl) ?_
  refine wl_nil ?_
  refine W_seq ?_
  refine W_cond rfl (fun hc0 => ?_) (fun hc0 => ?_)
  · have hlt := of_decide_eq_true hc0; simp only [Int.ofNat_lt] at hlt
    obtain ⟨x, hi⟩ : ∃ x, l[i]? = some x := ⟨_, List.getElem?_eq_getElem hlt⟩
    obtain ⟨bb, oo, ea⟩ := hs.base (by intro e; have := congrArg List.length e; simp only [List.length_map, List.length_nil] at this; omega); subst ea
    refine W_skip ?_
    refine W_seq ?_
    refine W_block ?_   -- block 1
    refine W_seq ?_
    refine W_region ?_
    refine wl_val (rn_move (by conv => lhs; whnf)) ?_
    refine wl_val (rn_assign (by conv => lhs; whnf)) ?_
    refine wl_nil ?_
    refine W_seq ?_
    refine W_region ?_
    refine wl_val (rn_move (by conv => lhs; whnf)) ?_
    refine wl_val (rn_move (by conv => lhs; whnf)) ?_
    refine wl_val (rn_move (by conv => lhs; whnf)) ?_
    refine wl_val (rn_indexAddr sl_78 rfl rfl (by omega)) ?_
    refine wl_val (rn_loadS s_69 rfl rfl ((hs.ext hX (fun _ h => h)).all0 (map_at hi))) ?_
    refine wl_callF rfl e_57 rfl (right1_ok A0 x) ?_; rintro v16 w1 hE1 rfl
    replace hX := hX.tr hE1
    refine wl_nil ?_
    refine W_cond rfl (fun hc1 => ?_) (fun hc1 => ?_)
    · have hb : ¬ l.all plainR = true := fun h => by have := List.all_eq_true.1 h x (List.mem_of_getElem? hi); rw [this] at hc1; cases hc1
      refine W_seq ?_
      refine W_region ?_
      refine wl_val (rn_move (by conv => lhs; whnf)) ?_
      refine wl_val (rn_assign (by conv => lhs; whnf)) ?_
      refine wl_nil ?_
      refine W_ret ?_
      exact ⟨_, resR1 (res1_tmp rfl), hX, ⟨_, rfl, by rw [if_neg hb]; omega⟩⟩
    · have hb : plainR x = true := by simpa using hc1
      refine W_skip ?_
      refine W_region ?_
      refine wl_val (rn_add rfl rfl (by omega)) ?_
      refine wl_val (rn_move (by conv => lhs; whnf)) ?_
      refine wl_nil ?_
      exact ⟨rfl, i + 1, ⟨rfl, rfl, rfl, rfl, trivial⟩, ⟨hX, ⟨hlt, fun y hy => by rw [List.take_add_one, hi] at hy; rcases List.mem_append.1 hy with h | h; exact hal y h; simp at h; rw [h]; exact hb⟩⟩, by omega⟩
  · have hge := of_decide_eq_false hc0; simp only [Int.ofNat_lt, Nat.not_lt] at hge
    refine W_exit ?_   -- exit 0
    refine W_seq ?_
    refine W_region ?_
    refine wl_val (rn_assign (by conv => lhs; whnf)) ?_
    refine wl_nil ?_
    refine W_ret ?_
    exact ⟨_, resR1 (res1_tmp rfl), hX, ⟨_, rfl, by rw [if_pos (List.all_eq_true.2 (by rw [List.take_of_length_le hge] at hal; exact hal))]⟩⟩
-- slices.ContainsFunc[[]bellman/api.Op,bellman/api.Op]
theorem contains_ops (w : World) (l : List OpD) {v : Value} (hs : Sl Non w v 5 (l.map OpD.enc)) : Fn Tryz.prog 56 #[v, .func (.func 57) #[] #[]] w fun u w' => u = .bool (!l.all plainR) := by
  have hX := Ext.refl Non w
  refine fn_of_W (args := [_, _]) Tryz.func56 rfl (by kernel_rfl) rfl ?_
  refine W_seq ?_
  refine W_region ?_
  refine wl_val (rn_assign (by conv => lhs; whnf)) ?_
  refine wl_nil ?_
  refine W_seq ?_
  refine W_region ?_
  refine wl_val (rn_move (by conv => lhs; whnf)) ?_
  refine wl_val (rn_move (by conv => lhs; whnf)) ?_
  refine wl_call e_98 rfl (index_ops w l (hs.ext hX (fun _ h => h))) ?_; intro v7 w1 hE1 hR1
  replace hX := hX.tr hE1
  obtain ⟨n, rfl, hnn⟩ := hR1
  refine wl_val (rn_geq rfl rfl) ?_
  refine wl_val (rn_assign (by conv => lhs; whnf)) ?_
  refine wl_nil ?_
  refine W_ret ?_
  exact ⟨_, resR1 (res1_tmp rfl), hX, congrArg Value.bool (by cases ha : l.all plainR with | true => (rw [ha, if_pos rfl] at hnn; subst hnn; rfl) | false => (rw [ha, if_neg (by decide)] at hnn; exact decide_eq_true hnn))⟩
-- slices.IndexFunc[[]int,int]
theorem index_ints (w : World) (l : List Int) {v : Value} (hs : Sl Non w v 1 (l.map eI1)) : Fn Tryz.prog 100 #[v, .func (.func 60) #[] #[]] w fun u w' => ∃ n : Int, u = .int .i64 n ∧ (if l.all pickB then n = -1 else 0 ≤ n) := by
  obtain ⟨a, c, rfl, hbg⟩ := id hs.len
  simp only [List.length_map] at hs hbg ⊢
  have hX := Ext.refl Non w
  refine fn_of_W (args := [_, _]) Tryz.func100 rfl (by kernel_rfl) rfl ?_
  refine W_seq ?_
  refine W_region ?_
  refine wl_val (rn_assign (by conv => lhs; whnf)) ?_
  refine wl_nil ?_
  refine W_seq ?_
  refine W_seq ?_
  refine W_region ?_
  refine wl_val (rn_move (by conv => lhs; whnf)) ?_
  refine wl_val (rn_len sl_23 rfl) ?_
  refine wl_val (rn_move (by conv => lhs; whnf)) ?_
  refine wl_nil ?_
  refine W_block ?_   -- block 0
  refine W_loopS (S := Nat) [0, 1, 7, 8] (fun i => [.slice a l.length c, .func (.func 60) #[] #[], .int .i64 (l.length : Nat), .int .i64 (i : Nat)]) (fun i A => (Ext Non w A) ∧ (i ≤ l.length ∧ ∀ y ∈ l.take i, pickB y = true)) (fun i => l.length - i) 0 ⟨rfl, rfl, rfl, rfl, trivial⟩ ⟨hX, ⟨Nat.zero_le _, fun y h => by simp at h⟩⟩ ?_
  rintro τ0 i A0 ⟨hX, hI0⟩
  obtain ⟨hil, hal⟩ := hI0
  have hbg2 : big = 9223372036854775807 := rfl
  refine W_seq ?_
  refine W_region ?_
  refine wl_val (rn_lss rfl rfl) ?_
  refine wl_nil ?_
  refine W_seq ?_
  refine W_cond rfl (fun hc0 => ?_) (fun hc0 => ?_)
  · have hlt := of_decide_eq_true hc0; simp only [Int.ofNat_lt] at hlt
    obtain ⟨x, hi⟩ : ∃ x, l[i]? = some x := ⟨_, List.getElem?_eq_getElem hlt⟩
    obtain ⟨bb, oo, ea⟩ := hs.base (by intro e; have := congrArg List.length e; simp only [List.length_map, List.length_nil] at this; omega); subst ea
    refine W_skip ?_
    refine W_seq ?_
    refine W_block ?_   -- block 1
    refine W_seq ?_
    refine W_region ?_
    refine wl_val (rn_move (by conv => lhs; whnf)) ?_
    refine wl_val (rn_assign (by conv => lhs; whnf)) ?_
    refine wl_nil ?_
    refine W_seq ?_
    refine W_region ?_
    refine wl_val (rn_move (by conv => lhs; whnf)) ?_
    refine wl_val (rn_move (by conv => lhs; whnf)) ?_
    refine wl_val (rn_move (by conv => lhs; whnf)) ?_
    refine wl_val (rn_indexAddr sl_23 rfl rfl (by omega)) ?_
    refine wl_val (rn_load p_3 rfl ((hs.ext hX (fun _ h => h)).at0 (map_at hi) rfl)) ?_
    refine wl_callF rfl e_60 rfl (right2_ok A0 x) ?_; rintro v16 w1 hE1 rfl
    replace hX := hX.tr hE1
    refine wl_nil ?_
    refine W_cond rfl (fun hc1 => ?_) (fun hc1 => ?_)
    · have hb : ¬ l.all pickB = true := fun h => by have := List.all_eq_true.1 h x (List.mem_of_getElem? hi); rw [this] at hc1; cases hc1
      refine W_seq ?_
      refine W_region ?_
      refine wl_val (rn_move (by conv => lhs; whnf)) ?_
      refine wl_val (rn_assign (by conv => lhs; whnf)) ?_
      refine wl_nil ?_
      refine W_ret ?_
      exact ⟨_, resR1 (res1_tmp rfl), hX, ⟨_, rfl, by rw [if_neg hb]; omega⟩⟩
    · have hb : pickB x = true := by simpa using hc1
      refine W_skip ?_
      refine W_region ?_
      refine wl_val (rn_add rfl rfl (by omega)) ?_
      refine wl_val (rn_move (by conv => lhs; whnf)) ?_
      refine wl_nil ?_
      exact ⟨rfl, i + 1, ⟨rfl, rfl, rfl, rfl, trivial⟩, ⟨hX, ⟨hlt, fun y hy => by rw [List.take_add_one, hi] at hy; rcases List.mem_append.1 hy with h | h; exact hal y h; simp at h; rw [h]; exact hb⟩⟩, by omega⟩
  · have hge := of_decide_eq_false hc0; simp only [Int.ofNat_lt, Nat.not_lt] at hge
    refine W_exit ?_   -- exit 0
    refine W_seq ?_
    refine W_region ?_
    refine wl_val (rn_assign (by conv => lhs; whnf)) ?_
    refine wl_nil ?_
    refine W_ret ?_
    exact ⟨_, resR1 (res1_tmp rfl), hX, ⟨_, rfl, by rw [if_pos (List.all_eq_true.2 (by rw [List.take_of_length_le hge] at hal; exact hal))]⟩⟩
-- slices.ContainsFunc[[]int,int]
theorem contains_ints (w : World) (l : List Int) {v : Value} (hs : Sl Non w v 1 (l.map eI1)) : Fn Tryz.prog 59 #[v, .func (.func 60) #[] #[]] w fun u w' => u = .bool (!l.all pickB) := by
  have hX := Ext.refl Non w
  refine fn_of_W (args := [_, _]) Tryz.func59 rfl (by kernel_rfl) rfl ?_
  refine W_seq ?_
  refine W_region ?_
  refine wl_val (rn_assign (by conv => lhs; whnf)) ?_
  refine wl_nil ?_
  refine W_seq ?_
  refine W_region ?_
  refine wl_val (rn_move (by conv => lhs; whnf)) ?_
  refine wl_val (rn_move (by conv => lhs; whnf)) ?_
  refine wl_call e_100 rfl (index_ints w l (hs.ext hX (fun _ h => h))) ?_; intro v7 w1 hE1 hR1
  replace hX := hX.tr hE1
  obtain ⟨n, rfl, hnn⟩ := hR1
  refine wl_val (rn_geq rfl rfl) ?_
  refine wl_val (rn_assign (by conv => lhs; whnf)) ?_
  refine wl_nil ?_
  refine W_ret ?_
  exact ⟨_, resR1 (res1_tmp rfl), hX, congrArg Value.bool (by cases ha : l.all pickB with | true => (rw [ha, if_pos rfl] at hnn; subst hnn; rfl) | false => (rw [ha, if_neg (by decide)] at hnn; exact decide_eq_true hnn))⟩
end Go.Proofs.YthcclgoidchkdaaGreatDoorC

/- Scripts: right ones; what is looked at. -/
set_option linter.unusedVariables false
set_option linter.unusedSimpArgs false
set_option maxRecDepth 100000
namespace Go.Proofs.YthcclgoidchkdaaGreatDoorC
open Go.RowKit
theorem right_no {s : ScD} (h : ¬ RightP s) : rightR s = false := by
  cases hr : rightR s with
  | true => exact absurd ((right_iff s).1 hr) h
  | false => rfl
theorem right_last {s : ScD} (h1 : 0 ≤ s.subs) (h2 : s.subs ≤ 8) (h3 : 1 ≤ s.cap) (h4 : s.cap ≤ 16) (h5 : s.threads.length ≤ 4) (h6 : s.picks.length ≤ 4096) (h7 : s.ops.length ≤ 64) (h8 : s.ops.all plainR = true) : rightR s = s.picks.all pickB := by
  unfold rightR; simp only [h1, h2, h3, h4, h5, h6, h7, h8, decide_true, Bool.true_and]
theorem flat_le {B : Nat} : ∀ (ts : List (List OpD)), (∀ t ∈ ts, t.length ≤ B) → ts.flatten.length ≤ ts.length * B
  | [], _ => by simp
  | t :: ts, h => by
    have h1 := flat_le ts (fun x hx => h x (by simp [hx]))
    have h2 := h t (by simp)
    simp only [List.flatten_cons, List.length_append, List.length_cons, Nat.add_mul]; omega
def ShortO (x : OpD) : Prop := x.text.length ≤ 100 ∧ x.payload.length ≤ 100
-- bellman/script.Right
set_option maxHeartbeats 1600000 in
theorem right_ok (w : World) (s : ScD) {cs : List Value} (hsc : ScM Non w cs s) (hn : s.ops.length ≤ 1000000) : Fn Tryz.prog 27 #[.agg cs.toArray] w fun u w' => u = .bool (rightR s) := by
  obtain ⟨vT, vP, ps, rfl, hts, ⟨hT, hin⟩, hP⟩ := hsc
  have hso := sc_ops hts; have hsl := sc_len hts
  obtain ⟨aT, cT, rfl, hbgT⟩ := id hT.len
  obtain ⟨aP, cP, rfl, hbgP⟩ := id hP.len
  simp only [List.length_map] at hT hP hbgT hbgP ⊢
  have hbg2 : big = 9223372036854775807 := rfl
  have hX := Ext.refl Non w
  refine fn_of_W (args := [_]) Tryz.func27 rfl (by kernel_rfl) rfl ?_
  refine W_seq ?_
  refine W_region ?_
  refine wl_boxS rfl ?_; intro b1 w1 hb1 hE1 hB1
  have hq1 : w.heap.size ≤ b1 := Nat.le_trans hX.size hb1
  have hl1 : Mine Non w b1 := .inr hq1
  replace hX := hX.tr hE1
  refine wl_val (rn_assign (by conv => lhs; whnf)) ?_
  refine wl_nil ?_
  refine W_seq ?_
  refine W_seq ?_
  refine W_region ?_
  refine wl_val (rn_fieldAddr f_72_0 (by decide) rfl) ?_
  refine wl_val (rn_load1 p_3 rfl hB1 rfl) ?_
  refine wl_val (rn_lss rfl rfl) ?_
  refine wl_val (rn_move (by conv => lhs; whnf)) ?_
  refine wl_split (d := 7) rfl (fun hg7 => ?_) (fun hg7 => ?_)
  · have q7 := of_decide_eq_true hg7
    refine wl_no rfl (congrArg Value.bool hg7) ?_
    refine wl_no rfl (congrArg Value.bool hg7) ?_
    refine wl_no rfl (congrArg Value.bool hg7) ?_
    refine wl_val (rn_pickT (congrArg Value.bool hg7) (by conv => lhs; whnf)) ?_
    refine wl_val (rn_move (by conv => lhs; whnf)) ?_
    refine wl_no rfl rfl ?_
    refine wl_no rfl rfl ?_
    refine wl_no rfl rfl ?_
    refine wl_val (rn_pickT rfl (by conv => lhs; whnf)) ?_
    refine wl_val (rn_move (by conv => lhs; whnf)) ?_
    refine wl_no rfl rfl ?_
    refine wl_no rfl rfl ?_
    refine wl_no rfl rfl ?_
    refine wl_val (rn_pickT rfl (by conv => lhs; whnf)) ?_
    refine wl_val (rn_move (by conv => lhs; whnf)) ?_
    refine wl_no rfl rfl ?_
    refine wl_no rfl rfl ?_
    refine wl_no rfl rfl ?_
    refine wl_no rfl rfl ?_
    refine wl_val (rn_pickT rfl (by conv => lhs; whnf)) ?_
    refine wl_val (rn_move (by conv => lhs; whnf)) ?_
    refine wl_no rfl rfl ?_
    refine wl_no rfl rfl ?_
    refine wl_no rfl rfl ?_
    refine wl_no rfl rfl ?_
    refine wl_val (rn_pickT rfl (by conv => lhs; whnf)) ?_
    refine wl_nil ?_
    refine W_condT rfl ?_
    refine W_seq ?_
    refine W_region ?_
    refine wl_val (rn_assign (by conv => lhs; whnf)) ?_
    refine wl_nil ?_
    refine W_ret ?_
    first | exact ⟨_, resR1 (res1_tmp rfl), hX, congrArg Value.bool (right_no (fun h => by have := h.s0; have := h.s8; have := h.c1; have := h.c16; have := h.th; have := h.pk; have := h.ops; omega)).symm⟩ | exact ⟨_, resR1 (res1_tmp rfl), hX, congrArg Value.bool (right_no (fun h => q44 (List.all_eq_true.2 h.plain))).symm⟩ | exact ⟨_, resR1 (res1_tmp rfl), hX, congrArg Value.bool (by rw [right_last (by omega) (by omega) (by omega) (by omega) (by omega) (by omega) (by omega) q44, Bool.not_not])⟩
  · have q7 := of_decide_eq_false hg7
    refine wl_yes rfl (congrArg Value.bool hg7) ?_
    refine wl_val (rn_fieldAddr f_72_0 (by decide) rfl) ?_
    refine wl_yes rfl (congrArg Value.bool hg7) ?_
    refine wl_val (rn_load1 p_3 rfl hB1 rfl) ?_
    refine wl_yes rfl (congrArg Value.bool hg7) ?_
    refine wl_val (rn_gtr rfl rfl) ?_
    refine wl_val (rn_pickF (congrArg Value.bool hg7) (by conv => lhs; whnf)) ?_
    refine wl_val (rn_move (by conv => lhs; whnf)) ?_
    refine wl_split (d := 12) rfl (fun hg12 => ?_) (fun hg12 => ?_)
    · have q12 := of_decide_eq_true hg12
      refine wl_no rfl (congrArg Value.bool hg12) ?_
      refine wl_no rfl (congrArg Value.bool hg12) ?_
      refine wl_no rfl (congrArg Value.bool hg12) ?_
      refine wl_val (rn_pickT (congrArg Value.bool hg12) (by conv => lhs; whnf)) ?_
      refine wl_val (rn_move (by conv => lhs; whnf)) ?_
      refine wl_no rfl rfl ?_
      refine wl_no rfl rfl ?_
      refine wl_no rfl rfl ?_
      refine wl_val (rn_pickT rfl (by conv => lhs; whnf)) ?_
      refine wl_val (rn_move (by conv => lhs; whnf)) ?_
      refine wl_no rfl rfl ?_
      refine wl_no rfl rfl ?_
      refine wl_no rfl rfl ?_
      refine wl_no rfl rfl ?_
      refine wl_val (rn_pickT rfl (by conv => lhs; whnf)) ?_
      refine wl_val (rn_move (by conv => lhs; whnf)) ?_
      refine wl_no rfl rfl ?_
      refine wl_no rfl rfl ?_
      refine wl_no rfl rfl ?_
      refine wl_no rfl rfl ?_
      refine wl_val (rn_pickT rfl (by conv => lhs; whnf)) ?_
      refine wl_nil ?_
      refine W_condT rfl ?_
      refine W_seq ?_
      refine W_region ?_
      refine wl_val (rn_assign (by conv => lhs; whnf)) ?_
      refine wl_nil ?_
      refine W_ret ?_
      first | exact ⟨_, resR1 (res1_tmp rfl), hX, congrArg Value.bool (right_no (fun h => by have := h.s0; have := h.s8; have := h.c1; have := h.c16; have := h.th; have := h.pk; have := h.ops; omega)).symm⟩ | exact ⟨_, resR1 (res1_tmp rfl), hX, congrArg Value.bool (right_no (fun h => q44 (List.all_eq_true.2 h.plain))).symm⟩ | exact ⟨_, resR1 (res1_tmp rfl), hX, congrArg Value.bool (by rw [right_last (by omega) (by omega) (by omega) (by omega) (by omega) (by omega) (by omega) q44, Bool.not_not])⟩
    · have q12 := of_decide_eq_false hg12
      refine wl_yes rfl (congrArg Value.bool hg12) ?_
      refine wl_val (rn_fieldAddr f_72_1 (by decide) rfl) ?_
      refine wl_yes rfl (congrArg Value.bool hg12) ?_
      refine wl_val (rn_load1 p_3 rfl hB1 rfl) ?_
      refine wl_yes rfl (congrArg Value.bool hg12) ?_
      refine wl_val (rn_lss rfl rfl) ?_
      refine wl_val (rn_pickF (congrArg Value.bool hg12) (by conv => lhs; whnf)) ?_
      refine wl_val (rn_move (by conv => lhs; whnf)) ?_
      refine wl_split (d := 17) rfl (fun hg17 => ?_) (fun hg17 => ?_)
      · have q17 := of_decide_eq_true hg17
        refine wl_no rfl (congrArg Value.bool hg17) ?_
        refine wl_no rfl (congrArg Value.bool hg17) ?_
        refine wl_no rfl (congrArg Value.bool hg17) ?_
        refine wl_val (rn_pickT (congrArg Value.bool hg17) (by conv => lhs; whnf)) ?_
        refine wl_val (rn_move (by conv => lhs; whnf)) ?_
        refine wl_no rfl rfl ?_
        refine wl_no rfl rfl ?_
        refine wl_no rfl rfl ?_
        refine wl_no rfl rfl ?_
        refine wl_val (rn_pickT rfl (by conv => lhs; whnf)) ?_
        refine wl_val (rn_move (by conv => lhs; whnf)) ?_
        refine wl_no rfl rfl ?_
        refine wl_no rfl rfl ?_
        refine wl_no rfl rfl ?_
        refine wl_no rfl rfl ?_
        refine wl_val (rn_pickT rfl (by conv => lhs; whnf)) ?_
        refine wl_nil ?_
        refine W_condT rfl ?_
        refine W_seq ?_
        refine W_region ?_
        refine wl_val (rn_assign (by conv => lhs; whnf)) ?_
        refine wl_nil ?_
        refine W_ret ?_
        first | exact ⟨_, resR1 (res1_tmp rfl), hX, congrArg Value.bool (right_no (fun h => by have := h.s0; have := h.s8; have := h.c1; have := h.c16; have := h.th; have := h.pk; have := h.ops; omega)).symm⟩ | exact ⟨_, resR1 (res1_tmp rfl), hX, congrArg Value.bool (right_no (fun h => q44 (List.all_eq_true.2 h.plain))).symm⟩ | exact ⟨_, resR1 (res1_tmp rfl), hX, congrArg Value.bool (by rw [right_last (by omega) (by omega) (by omega) (by omega) (by omega) (by omega) (by omega) q44, Bool.not_not])⟩
      · have q17 := of_decide_eq_false hg17
        refine wl_yes rfl (congrArg Value.bool hg17) ?_
        refine wl_val (rn_fieldAddr f_72_1 (by decide) rfl) ?_
        refine wl_yes rfl (congrArg Value.bool hg17) ?_
        refine wl_val (rn_load1 p_3 rfl hB1 rfl) ?_
        refine wl_yes rfl (congrArg Value.bool hg17) ?_
        refine wl_val (rn_gtr rfl rfl) ?_
        refine wl_val (rn_pickF (congrArg Value.bool hg17) (by conv => lhs; whnf)) ?_
        refine wl_val (rn_move (by conv => lhs; whnf)) ?_
        refine wl_split (d := 22) rfl (fun hg22 => ?_) (fun hg22 => ?_)
        · have q22 := of_decide_eq_true hg22
          refine wl_no rfl (congrArg Value.bool hg22) ?_
          refine wl_no rfl (congrArg Value.bool hg22) ?_
          refine wl_no rfl (congrArg Value.bool hg22) ?_
          refine wl_no rfl (congrArg Value.bool hg22) ?_
          refine wl_val (rn_pickT (congrArg Value.bool hg22) (by conv => lhs; whnf)) ?_
          refine wl_val (rn_move (by conv => lhs; whnf)) ?_
          refine wl_no rfl rfl ?_
          refine wl_no rfl rfl ?_
          refine wl_no rfl rfl ?_
          refine wl_no rfl rfl ?_
          refine wl_val (rn_pickT rfl (by conv => lhs; whnf)) ?_
          refine wl_nil ?_
          refine W_condT rfl ?_
          refine W_seq ?_
          refine W_region ?_
          refine wl_val (rn_assign (by conv => lhs; whnf)) ?_
          refine wl_nil ?_
          refine W_ret ?_
          first | exact ⟨_, resR1 (res1_tmp rfl), hX, congrArg Value.bool (right_no (fun h => by have := h.s0; have := h.s8; have := h.c1; have := h.c16; have := h.th; have := h.pk; have := h.ops; omega)).symm⟩ | exact ⟨_, resR1 (res1_tmp rfl), hX, congrArg Value.bool (right_no (fun h => q44 (List.all_eq_true.2 h.plain))).symm⟩ | exact ⟨_, resR1 (res1_tmp rfl), hX, congrArg Value.bool (by rw [right_last (by omega) (by omega) (by omega) (by omega) (by omega) (by omega) (by omega) q44, Bool.not_not])⟩
        · have q22 := of_decide_eq_false hg22
          refine wl_yes rfl (congrArg Value.bool hg22) ?_
          refine wl_val (rn_fieldAddr f_72_2 (by decide) rfl) ?_
          refine wl_yes rfl (congrArg Value.bool hg22) ?_
          refine wl_val (rn_load1 p_70 rfl hB1 rfl) ?_
          refine wl_yes rfl (congrArg Value.bool hg22) ?_
          refine wl_val (rn_len sl_70 rfl) ?_
          refine wl_yes rfl (congrArg Value.bool hg22) ?_
          refine wl_val (rn_gtr rfl rfl) ?_
          refine wl_val (rn_pickF (congrArg Value.bool hg22) (by conv => lhs; whnf)) ?_
          refine wl_val (rn_move (by conv => lhs; whnf)) ?_
          refine wl_split (d := 28) rfl (fun hg28 => ?_) (fun hg28 => ?_)
          · have q28 := of_decide_eq_true hg28
            refine wl_no rfl (congrArg Value.bool hg28) ?_
            refine wl_no rfl (congrArg Value.bool hg28) ?_
            refine wl_no rfl (congrArg Value.bool hg28) ?_
            refine wl_no rfl (congrArg Value.bool hg28) ?_
            refine wl_val (rn_pickT (congrArg Value.bool hg28) (by conv => lhs; whnf)) ?_
            refine wl_nil ?_
            refine W_condT rfl ?_
            refine W_seq ?_
            refine W_region ?_
            refine wl_val (rn_assign (by conv => lhs; whnf)) ?_
            refine wl_nil ?_
            refine W_ret ?_
            first | exact ⟨_, resR1 (res1_tmp rfl), hX, congrArg Value.bool (right_no (fun h => by have := h.s0; have := h.s8; have := h.c1; have := h.c16; have := h.th; have := h.pk; have := h.ops; omega)).symm⟩ | exact ⟨_, resR1 (res1_tmp rfl), hX, congrArg Value.bool (right_no (fun h => q44 (List.all_eq_true.2 h.plain))).symm⟩ | exact ⟨_, resR1 (res1_tmp rfl), hX, congrArg Value.bool (by rw [right_last (by omega) (by omega) (by omega) (by omega) (by omega) (by omega) (by omega) q44, Bool.not_not])⟩
          · have q28 := of_decide_eq_false hg28
            refine wl_yes rfl (congrArg Value.bool hg28) ?_
            refine wl_val (rn_fieldAddr f_72_3 (by decide) rfl) ?_
            refine wl_yes rfl (congrArg Value.bool hg28) ?_
            refine wl_val (rn_load1 p_23 rfl hB1 rfl) ?_
            refine wl_yes rfl (congrArg Value.bool hg28) ?_
            refine wl_val (rn_len sl_23 rfl) ?_
            refine wl_yes rfl (congrArg Value.bool hg28) ?_
            refine wl_val (rn_gtr rfl rfl) ?_
            refine wl_val (rn_pickF (congrArg Value.bool hg28) (by conv => lhs; whnf)) ?_
            refine wl_nil ?_
            refine W_cond rfl (fun hc0 => ?_) (fun hc0 => ?_)
            · have q0 := of_decide_eq_true hc0
              refine W_seq ?_
              refine W_region ?_
              refine wl_val (rn_assign (by conv => lhs; whnf)) ?_
              refine wl_nil ?_
              refine W_ret ?_
              first | exact ⟨_, resR1 (res1_tmp rfl), hX, congrArg Value.bool (right_no (fun h => by have := h.s0; have := h.s8; have := h.c1; have := h.c16; have := h.th; have := h.pk; have := h.ops; omega)).symm⟩ | exact ⟨_, resR1 (res1_tmp rfl), hX, congrArg Value.bool (right_no (fun h => q44 (List.all_eq_true.2 h.plain))).symm⟩ | exact ⟨_, resR1 (res1_tmp rfl), hX, congrArg Value.bool (by rw [right_last (by omega) (by omega) (by omega) (by omega) (by omega) (by omega) (by omega) q44, Bool.not_not])⟩
            · have q0 := of_decide_eq_false hc0
              refine W_skip ?_
              refine W_seq ?_
              refine W_region ?_
              refine wl_val (rn_loadB s_72 rfl rfl hB1) ?_
              refine wl_call e_26 rfl (merge_ok w1 s ⟨_, _, ps, rfl, hts, ⟨hT.ext hX (fun _ h => h), fun p hp => (hin p hp).ext hX (fun _ h => h)⟩, hP.ext hX (fun _ h => h)⟩ (by omega) (by omega)) ?_; intro v35 w2 hE2 hR2
              replace hX := hX.tr hE2
              replace hB1 := hB1.ext hE2 id
              obtain ⟨o35, hO, ho⟩ := hR2
              obtain ⟨a35, c35, hv35⟩ := id hO.len; rw [List.length_map] at hv35; subst hv35
              refine wl_val (rn_assign (by conv => lhs; whnf)) ?_
              refine wl_nil ?_
              refine W_seq ?_
              refine W_region ?_
              refine wl_val (rn_move (by conv => lhs; whnf)) ?_
              refine wl_val (rn_len sl_78 rfl) ?_
              refine wl_val (rn_leq rfl rfl) ?_
              refine wl_val (rn_move (by conv => lhs; whnf)) ?_
              refine wl_split (d := 39) rfl (fun hg39 => ?_) (fun hg39 => ?_)
              · have q39 := of_decide_eq_true hg39
                refine wl_yes rfl (congrArg Value.bool hg39) ?_
                refine wl_val (rn_move (by conv => lhs; whnf)) ?_
                refine wl_yes rfl (congrArg Value.bool hg39) ?_
                refine wl_call e_56 rfl (contains_ops w2 s.ops (hO.sl (M := Non) (fun _ _ h => h))) ?_; intro v41 w3 hE3 hR3
                replace hX := hX.tr hE3
                replace hB1 := hB1.ext hE3 id
                replace hO := hO.ext hE3 (fun _ _ h => h)
                subst hR3
                refine wl_yes rfl (congrArg Value.bool hg39) ?_
                refine wl_val (rn_not rfl) ?_
                refine wl_val (rn_pickT (congrArg Value.bool hg39) (by conv => lhs; whnf)) ?_
                refine wl_val (rn_move (by conv => lhs; whnf)) ?_
                refine wl_split (d := 44) rfl (fun hg44 => ?_) (fun hg44 => ?_)
                · have q44 : s.ops.all plainR = true := by have h : (!(!s.ops.all plainR)) = true := hg44; simpa using h
                  refine wl_yes rfl (congrArg Value.bool hg44) ?_
                  refine wl_val (rn_fieldAddr f_72_3 (by decide) rfl) ?_
                  refine wl_yes rfl (congrArg Value.bool hg44) ?_
                  refine wl_val (rn_load1 p_23 rfl hB1 rfl) ?_
                  refine wl_yes rfl (congrArg Value.bool hg44) ?_
                  refine wl_call e_59 rfl (contains_ints w3 s.picks (hP.ext hX (fun _ h => h))) ?_; intro v47 w4 hE4 hR4
                  replace hX := hX.tr hE4
                  replace hB1 := hB1.ext hE4 id
                  replace hO := hO.ext hE4 (fun _ _ h => h)
                  subst hR4
                  refine wl_yes rfl (congrArg Value.bool hg44) ?_
                  refine wl_val (rn_not rfl) ?_
                  refine wl_val (rn_pickT (congrArg Value.bool hg44) (by conv => lhs; whnf)) ?_
                  refine wl_val (rn_assign (by conv => lhs; whnf)) ?_
                  refine wl_nil ?_
                  refine W_ret ?_
                  first | exact ⟨_, resR1 (res1_tmp rfl), hX, congrArg Value.bool (right_no (fun h => by have := h.s0; have := h.s8; have := h.c1; have := h.c16; have := h.th; have := h.pk; have := h.ops; omega)).symm⟩ | exact ⟨_, resR1 (res1_tmp rfl), hX, congrArg Value.bool (right_no (fun h => q44 (List.all_eq_true.2 h.plain))).symm⟩ | exact ⟨_, resR1 (res1_tmp rfl), hX, congrArg Value.bool (by rw [right_last (by omega) (by omega) (by omega) (by omega) (by omega) (by omega) (by omega) q44, Bool.not_not])⟩
                · have q44 : ¬ s.ops.all plainR = true := by have h : (!(!s.ops.all plainR)) = false := hg44; simpa using h
                  refine wl_no rfl (congrArg Value.bool hg44) ?_
                  refine wl_no rfl (congrArg Value.bool hg44) ?_
                  refine wl_no rfl (congrArg Value.bool hg44) ?_
                  refine wl_no rfl (congrArg Value.bool hg44) ?_
                  refine wl_val (rn_pickF (congrArg Value.bool hg44) (by conv => lhs; whnf)) ?_
                  refine wl_val (rn_assign (by conv => lhs; whnf)) ?_
                  refine wl_nil ?_
                  refine W_ret ?_
                  first | exact ⟨_, resR1 (res1_tmp rfl), hX, congrArg Value.bool (right_no (fun h => by have := h.s0; have := h.s8; have := h.c1; have := h.c16; have := h.th; have := h.pk; have := h.ops; omega)).symm⟩ | exact ⟨_, resR1 (res1_tmp rfl), hX, congrArg Value.bool (right_no (fun h => q44 (List.all_eq_true.2 h.plain))).symm⟩ | exact ⟨_, resR1 (res1_tmp rfl), hX, congrArg Value.bool (by rw [right_last (by omega) (by omega) (by omega) (by omega) (by omega) (by omega) (by omega) q44, Bool.not_not])⟩
              · have q39 := of_decide_eq_false hg39
                refine wl_no rfl (congrArg Value.bool hg39) ?_
                refine wl_no rfl (congrArg Value.bool hg39) ?_
                refine wl_no rfl (congrArg Value.bool hg39) ?_
                refine wl_val (rn_pickF (congrArg Value.bool hg39) (by conv => lhs; whnf)) ?_
                refine wl_val (rn_move (by conv => lhs; whnf)) ?_
                refine wl_no rfl rfl ?_
                refine wl_no rfl rfl ?_
                refine wl_no rfl rfl ?_
                refine wl_no rfl rfl ?_
                refine wl_val (rn_pickF rfl (by conv => lhs; whnf)) ?_
                refine wl_val (rn_assign (by conv => lhs; whnf)) ?_
                refine wl_nil ?_
                refine W_ret ?_
                first | exact ⟨_, resR1 (res1_tmp rfl), hX, congrArg Value.bool (right_no (fun h => by have := h.s0; have := h.s8; have := h.c1; have := h.c16; have := h.th; have := h.pk; have := h.ops; omega)).symm⟩ | exact ⟨_, resR1 (res1_tmp rfl), hX, congrArg Value.bool (right_no (fun h => q44 (List.all_eq_true.2 h.plain))).symm⟩ | exact ⟨_, resR1 (res1_tmp rfl), hX, congrArg Value.bool (by rw [right_last (by omega) (by omega) (by omega) (by omega) (by omega) (by omega) (by omega) q44, Bool.not_not])⟩
-- bellman/bellmanref20.Great
set_option maxHeartbeats 1600000 in
theorem great20_ok (w : World) (s : ScD) {cs : List Value} (hsc : ScM Non w cs s) (hb : ∀ t ∈ s.threads, t.length ≤ 140737488355328) : Fn Tryz.prog 23 #[.agg cs.toArray] w fun u w' => ∃ b : Bool, u = .bool b ∧ (b = false → SmallP s) := by
  obtain ⟨vT, vP, ps, rfl, hts, ⟨hT, hin⟩, hP⟩ := hsc
  have hso := sc_ops hts; have hsl := sc_len hts
  obtain ⟨aT, cT, rfl, hbgT⟩ := id hT.len
  obtain ⟨aP, cP, rfl, hbgP⟩ := id hP.len
  simp only [List.length_map] at hT hP hbgT hbgP ⊢
  have hbg2 : big = 9223372036854775807 := rfl
  have hbo := flat_le s.threads hb
  change s.ops.length ≤ _ at hbo
  have hX := Ext.refl Non w
  refine fn_of_W (args := [_]) Tryz.func23 rfl (by kernel_rfl) rfl ?_
  refine W_seq ?_
  refine W_region ?_
  refine wl_boxS rfl ?_; intro b1 w1 hb1 hE1 hB1
  have hq1 : w.heap.size ≤ b1 := Nat.le_trans hX.size hb1
  have hl1 : Mine Non w b1 := .inr hq1
  replace hX := hX.tr hE1
  refine wl_val (rn_assign (by conv => lhs; whnf)) ?_
  refine wl_nil ?_
  refine W_seq ?_
  refine W_seq ?_
  refine W_region ?_
  refine wl_val (rn_fieldAddr f_72_2 (by decide) rfl) ?_
  refine wl_val (rn_load1 p_70 rfl hB1 rfl) ?_
  refine wl_val (rn_len sl_70 rfl) ?_
  refine wl_val (rn_gtr rfl rfl) ?_
  refine wl_val (rn_move (by conv => lhs; whnf)) ?_
  refine wl_split (d := 9) rfl (fun hg9 => ?_) (fun hg9 => ?_)
  · have q9 := of_decide_eq_true hg9
    refine wl_no rfl (congrArg Value.bool hg9) ?_
    refine wl_no rfl (congrArg Value.bool hg9) ?_
    refine wl_no rfl (congrArg Value.bool hg9) ?_
    refine wl_val (rn_pickT (congrArg Value.bool hg9) (by conv => lhs; whnf)) ?_
    refine wl_val (rn_move (by conv => lhs; whnf)) ?_
    refine wl_no rfl rfl ?_
    refine wl_no rfl rfl ?_
    refine wl_no rfl rfl ?_
    refine wl_no rfl rfl ?_
    refine wl_val (rn_pickT rfl (by conv => lhs; whnf)) ?_
    refine wl_nil ?_
    refine W_condT rfl ?_
    refine W_seq ?_
    refine W_region ?_
    refine wl_val (rn_assign (by conv => lhs; whnf)) ?_
    refine wl_nil ?_
    refine W_ret ?_
    first | exact ⟨_, resR1 (res1_tmp rfl), hX, ⟨true, rfl, fun h => (by cases h)⟩⟩ | exact ⟨_, resR1 (res1_tmp rfl), hX, ⟨false, rfl, fun _ => ⟨by omega, by omega, by omega, fun x hx => hal x (by rw [← hso]; exact hx)⟩⟩⟩
  · have q9 := of_decide_eq_false hg9
    refine wl_yes rfl (congrArg Value.bool hg9) ?_
    refine wl_val (rn_loadB s_72 rfl rfl hB1) ?_
    refine wl_yes rfl (congrArg Value.bool hg9) ?_
    refine wl_call e_29 rfl (count_ok w1 s ⟨_, _, ps, rfl, hts, ⟨hT.ext hX (fun _ h => h), fun p hp => (hin p hp).ext hX (fun _ h => h)⟩, hP.ext hX (fun _ h => h)⟩ (by omega) (by have h8 : s.threads.length ≤ 8 := (by omega); have := Nat.mul_le_mul_right 140737488355328 h8; omega)) ?_; intro v11 w2 hE2 hR2
    replace hX := hX.tr hE2
    replace hB1 := hB1.ext hE2 id
    subst hR2
    refine wl_yes rfl (congrArg Value.bool hg9) ?_
    refine wl_val (rn_gtr rfl rfl) ?_
    refine wl_val (rn_pickF (congrArg Value.bool hg9) (by conv => lhs; whnf)) ?_
    refine wl_val (rn_move (by conv => lhs; whnf)) ?_
    refine wl_split (d := 14) rfl (fun hg14 => ?_) (fun hg14 => ?_)
    · have q14 := of_decide_eq_true hg14
      refine wl_no rfl (congrArg Value.bool hg14) ?_
      refine wl_no rfl (congrArg Value.bool hg14) ?_
      refine wl_no rfl (congrArg Value.bool hg14) ?_
      refine wl_no rfl (congrArg Value.bool hg14) ?_
      refine wl_val (rn_pickT (congrArg Value.bool hg14) (by conv => lhs; whnf)) ?_
      refine wl_nil ?_
      refine W_condT rfl ?_
      refine W_seq ?_
      refine W_region ?_
      refine wl_val (rn_assign (by conv => lhs; whnf)) ?_
      refine wl_nil ?_
      refine W_ret ?_
      first | exact ⟨_, resR1 (res1_tmp rfl), hX, ⟨true, rfl, fun h => (by cases h)⟩⟩ | exact ⟨_, resR1 (res1_tmp rfl), hX, ⟨false, rfl, fun _ => ⟨by omega, by omega, by omega, fun x hx => hal x (by rw [← hso]; exact hx)⟩⟩⟩
    · have q14 := of_decide_eq_false hg14
      refine wl_yes rfl (congrArg Value.bool hg14) ?_
      refine wl_val (rn_fieldAddr f_72_3 (by decide) rfl) ?_
      refine wl_yes rfl (congrArg Value.bool hg14) ?_
      refine wl_val (rn_load1 p_23 rfl hB1 rfl) ?_
      refine wl_yes rfl (congrArg Value.bool hg14) ?_
      refine wl_val (rn_len sl_23 rfl) ?_
      refine wl_yes rfl (congrArg Value.bool hg14) ?_
      refine wl_val (rn_gtr rfl rfl) ?_
      refine wl_val (rn_pickF (congrArg Value.bool hg14) (by conv => lhs; whnf)) ?_
      refine wl_nil ?_
      refine W_cond rfl (fun hc0 => ?_) (fun hc0 => ?_)
      · have q0 := of_decide_eq_true hc0
        refine W_seq ?_
        refine W_region ?_
        refine wl_val (rn_assign (by conv => lhs; whnf)) ?_
        refine wl_nil ?_
        refine W_ret ?_
        first | exact ⟨_, resR1 (res1_tmp rfl), hX, ⟨true, rfl, fun h => (by cases h)⟩⟩ | exact ⟨_, resR1 (res1_tmp rfl), hX, ⟨false, rfl, fun _ => ⟨by omega, by omega, by omega, fun x hx => hal x (by rw [← hso]; exact hx)⟩⟩⟩
      · have q0 := of_decide_eq_false hc0
        refine W_skip ?_
        refine W_seq ?_
        refine W_seq ?_
        refine W_region ?_
        refine wl_val (rn_assign (by conv => lhs; whnf)) ?_
        refine wl_nil ?_
        refine W_block ?_   -- block 0
        refine W_loopS (S := Nat) [1, 3] (fun i => [.pointer (some ⟨b1, 0, none⟩), .int .i64 (i : Nat)]) (fun i A => (Ext Non w A) ∧ (IsBox A b1 [.int .i64 s.subs, .int .i64 s.cap, .slice aT ps.length cT, .slice aP s.picks.length cP]) ∧ (Mine Non w b1) ∧ (i ≤ ps.length ∧ ∀ x ∈ psOps (ps.take i), ShortO x)) (fun i => ps.length - i) 0 ⟨rfl, rfl, trivial⟩ ⟨hX, hB1, hl1, ⟨Nat.zero_le _, fun x h => (by cases h)⟩⟩ ?_
        rintro τ0 i A0 ⟨hX, hB1, hl1, hI0⟩
        obtain ⟨hil, hal⟩ := hI0
        refine W_seq ?_
        refine W_seq ?_
        refine W_region ?_
        refine wl_val (rn_move (by conv => lhs; whnf)) ?_
        refine wl_val (rn_fieldAddr f_72_2 (by decide) rfl) ?_
        refine wl_val (rn_load1 p_70 rfl hB1 rfl) ?_
        refine wl_val (rn_len sl_70 rfl) ?_
        refine wl_val (rn_lss rfl rfl) ?_
        refine wl_nil ?_
        refine W_cond rfl (fun hc1 => ?_) (fun hc1 => ?_)
        · have hlt := of_decide_eq_true hc1; simp only [Int.ofNat_lt] at hlt
          obtain ⟨⟨pv, pt⟩, hi⟩ : ∃ p, ps[i]? = some p := ⟨_, List.getElem?_eq_getElem hlt⟩
          have hpm := List.mem_of_getElem? hi
          have hpt := hin _ hpm
          obtain ⟨ai, ci, hpv, hpb⟩ := id hpt.len
          simp only [List.length_map] at hpv hpb
          subst hpv
          simp only at hpt hpb
          obtain ⟨bT, oT, ea⟩ := hT.base (by intro e; have := congrArg List.length e; simp only [List.length_map, List.length_nil] at this; omega); subst ea
          have hpl := psOps_len hpm
          simp only at hpl
          refine W_skip ?_
          refine W_seq ?_
          refine W_block ?_   -- block 1
          refine W_seq ?_
          refine W_region ?_
          refine wl_val (rn_assign (by conv => lhs; whnf)) ?_
          refine wl_nil ?_
          refine W_block ?_   -- block 2
          refine W_loopS (S := Nat) [1, 3, 4] (fun j => [.pointer (some ⟨b1, 0, none⟩), .int .i64 (i : Nat), .int .i64 (j : Nat)]) (fun j A => (Ext Non w A) ∧ (IsBox A b1 [.int .i64 s.subs, .int .i64 s.cap, .slice (some ⟨bT, oT, none⟩) ps.length cT, .slice aP s.picks.length cP]) ∧ (Mine Non w b1) ∧ (j ≤ pt.length ∧ ∀ x ∈ pt.take j, ShortO x)) (fun j => pt.length - j) 0 ⟨rfl, rfl, rfl, trivial⟩ ⟨hX, hB1, hl1, ⟨Nat.zero_le _, fun x h => by simp at h⟩⟩ ?_
          rintro τ1 j A1 ⟨hX, hB1, hl1, hI1⟩
          obtain ⟨hjl, hal2⟩ := hI1
          refine W_seq ?_
          refine W_seq ?_
          refine W_region ?_
          refine wl_val (rn_move (by conv => lhs; whnf)) ?_
          refine wl_val (rn_fieldAddr f_72_2 (by decide) rfl) ?_
          refine wl_val (rn_load1 p_70 rfl hB1 rfl) ?_
          refine wl_val (rn_move (by conv => lhs; whnf)) ?_
          refine wl_val (rn_indexAddr sl_70 rfl rfl (by omega)) ?_
          refine wl_val (rn_load p_78 rfl ((hT.ext hX (fun _ h => h)).at0 (map_at hi) rfl)) ?_
          refine wl_val (rn_len sl_78 rfl) ?_
          refine wl_val (rn_lss rfl rfl) ?_
          refine wl_nil ?_
          refine W_cond rfl (fun hc2 => ?_) (fun hc2 => ?_)
          · have hlt2 := of_decide_eq_true hc2; simp only [Int.ofNat_lt] at hlt2
            obtain ⟨x, hx⟩ : ∃ x, pt[j]? = some x := ⟨_, List.getElem?_eq_getElem hlt2⟩
            obtain ⟨bi, oi, ea⟩ := hpt.base (by intro e; have := congrArg List.length e; simp only [List.length_map, List.length_nil] at this; omega); subst ea
            refine W_skip ?_
            refine W_seq ?_
            refine W_block ?_   -- block 3
            refine W_seq ?_
            refine W_region ?_
            refine wl_val (rn_fieldAddr f_72_2 (by decide) rfl) ?_
            refine wl_val (rn_load1 p_70 rfl hB1 rfl) ?_
            refine wl_val (rn_move (by conv => lhs; whnf)) ?_
            refine wl_val (rn_indexAddr sl_70 rfl rfl (by omega)) ?_
            refine wl_val (rn_load p_78 rfl ((hT.ext hX (fun _ h => h)).at0 (map_at hi) rfl)) ?_
            refine wl_val (rn_move (by conv => lhs; whnf)) ?_
            refine wl_val (rn_indexAddr sl_78 rfl rfl (by omega)) ?_
            refine wl_val (rn_fieldAddr f_69_2 (by decide) rfl) ?_
            refine wl_val (rn_load p_9 rfl ((hpt.ext hX (fun _ h => h)).at1 (map_at hx) rfl)) ?_
            refine wl_val (rn_slen us_9 rfl) ?_
            refine wl_val (rn_gtr rfl rfl) ?_
            refine wl_val (rn_move (by conv => lhs; whnf)) ?_
            refine wl_split (d := 48) rfl (fun hg48 => ?_) (fun hg48 => ?_)
            · have q48 := of_decide_eq_true hg48
              refine wl_no rfl (congrArg Value.bool hg48) ?_
              refine wl_no rfl (congrArg Value.bool hg48) ?_
              refine wl_no rfl (congrArg Value.bool hg48) ?_
              refine wl_no rfl (congrArg Value.bool hg48) ?_
              refine wl_no rfl (congrArg Value.bool hg48) ?_
              refine wl_no rfl (congrArg Value.bool hg48) ?_
              refine wl_no rfl (congrArg Value.bool hg48) ?_
              refine wl_no rfl (congrArg Value.bool hg48) ?_
              refine wl_no rfl (congrArg Value.bool hg48) ?_
              refine wl_no rfl (congrArg Value.bool hg48) ?_
              refine wl_no rfl (congrArg Value.bool hg48) ?_
              refine wl_val (rn_pickT (congrArg Value.bool hg48) (by conv => lhs; whnf)) ?_
              refine wl_nil ?_
              refine W_condT rfl ?_
              refine W_seq ?_
              refine W_region ?_
              refine wl_val (rn_assign (by conv => lhs; whnf)) ?_
              refine wl_nil ?_
              refine W_ret ?_
              first | exact ⟨_, resR1 (res1_tmp rfl), hX, ⟨true, rfl, fun h => (by cases h)⟩⟩ | exact ⟨_, resR1 (res1_tmp rfl), hX, ⟨false, rfl, fun _ => ⟨by omega, by omega, by omega, fun x hx => hal x (by rw [← hso]; exact hx)⟩⟩⟩
            · have q48 := of_decide_eq_false hg48
              refine wl_yes rfl (congrArg Value.bool hg48) ?_
              refine wl_val (rn_fieldAddr f_72_2 (by decide) rfl) ?_
              refine wl_yes rfl (congrArg Value.bool hg48) ?_
              refine wl_val (rn_load1 p_70 rfl hB1 rfl) ?_
              refine wl_yes rfl (congrArg Value.bool hg48) ?_
              refine wl_val (rn_move (by conv => lhs; whnf)) ?_
              refine wl_yes rfl (congrArg Value.bool hg48) ?_
              refine wl_val (rn_indexAddr sl_70 rfl rfl (by omega)) ?_
              refine wl_yes rfl (congrArg Value.bool hg48) ?_
              refine wl_val (rn_load p_78 rfl ((hT.ext hX (fun _ h => h)).at0 (map_at hi) rfl)) ?_
              refine wl_yes rfl (congrArg Value.bool hg48) ?_
              refine wl_val (rn_move (by conv => lhs; whnf)) ?_
              refine wl_yes rfl (congrArg Value.bool hg48) ?_
              refine wl_val (rn_indexAddr sl_78 rfl rfl (by omega)) ?_
              refine wl_yes rfl (congrArg Value.bool hg48) ?_
              refine wl_val (rn_fieldAddr f_69_3 (by decide) rfl) ?_
              refine wl_yes rfl (congrArg Value.bool hg48) ?_
              refine wl_val (rn_load p_9 rfl ((hpt.ext hX (fun _ h => h)).at1 (map_at hx) rfl)) ?_
              refine wl_yes rfl (congrArg Value.bool hg48) ?_
              refine wl_val (rn_slen us_9 rfl) ?_
              refine wl_yes rfl (congrArg Value.bool hg48) ?_
              refine wl_val (rn_gtr rfl rfl) ?_
              refine wl_val (rn_pickF (congrArg Value.bool hg48) (by conv => lhs; whnf)) ?_
              refine wl_nil ?_
              refine W_cond rfl (fun hc3 => ?_) (fun hc3 => ?_)
              · have q3 := of_decide_eq_true hc3
                refine W_seq ?_
                refine W_region ?_
                refine wl_val (rn_assign (by conv => lhs; whnf)) ?_
                refine wl_nil ?_
                refine W_ret ?_
                first | exact ⟨_, resR1 (res1_tmp rfl), hX, ⟨true, rfl, fun h => (by cases h)⟩⟩ | exact ⟨_, resR1 (res1_tmp rfl), hX, ⟨false, rfl, fun _ => ⟨by omega, by omega, by omega, fun x hx => hal x (by rw [← hso]; exact hx)⟩⟩⟩
              · have q3 := of_decide_eq_false hc3
                refine W_skip ?_
                refine W_region ?_
                refine wl_val (rn_move (by conv => lhs; whnf)) ?_
                refine wl_val (rn_add rfl rfl (by omega)) ?_
                refine wl_val (rn_assign (by conv => lhs; whnf)) ?_
                refine wl_nil ?_
                exact ⟨rfl, j + 1, ⟨rfl, rfl, rfl, trivial⟩, ⟨hX, hB1, hl1, ⟨hlt2, fun y hy => by rw [List.take_add_one, hx] at hy; rcases List.mem_append.1 hy with h | h; exact hal2 y h; simp at h; rw [h]; exact ⟨by omega, by omega⟩⟩⟩, by show pt.length - (j + 1) < pt.length - j; omega⟩
          · have hge2 := of_decide_eq_false hc2; simp only [Int.ofNat_lt, Nat.not_lt] at hge2
            refine W_exit ?_   -- exit 2
            refine W_region ?_
            refine wl_val (rn_move (by conv => lhs; whnf)) ?_
            refine wl_val (rn_add rfl rfl (by omega)) ?_
            refine wl_val (rn_assign (by conv => lhs; whnf)) ?_
            refine wl_nil ?_
            exact ⟨rfl, i + 1, ⟨rfl, rfl, trivial⟩, ⟨hX, hB1, hl1, ⟨hlt, fun x hx => by rw [psOps_step hi] at hx; rcases List.mem_append.1 hx with h | h; exact hal x h; exact hal2 x (by rw [List.take_of_length_le hge2]; exact h)⟩⟩, by show ps.length - (i + 1) < ps.length - i; omega⟩
        · have hge := of_decide_eq_false hc1; simp only [Int.ofNat_lt, Nat.not_lt] at hge
          have hie : i = ps.length := by omega
          subst hie
          rw [List.take_length] at hal
          refine W_exit ?_   -- exit 0
          refine W_seq ?_
          refine W_region ?_
          refine wl_val (rn_assign (by conv => lhs; whnf)) ?_
          refine wl_nil ?_
          refine W_ret ?_
          first | exact ⟨_, resR1 (res1_tmp rfl), hX, ⟨true, rfl, fun h => (by cases h)⟩⟩ | exact ⟨_, resR1 (res1_tmp rfl), hX, ⟨false, rfl, fun _ => ⟨by omega, by omega, by omega, fun x hx => hal x (by rw [← hso]; exact hx)⟩⟩⟩
end Go.Proofs.YthcclgoidchkdaaGreatDoorC
