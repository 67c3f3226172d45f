/- Rising lists: where a key stands, what a key's coming and going makes of them; no program in sight. -/
import Derived.Test.YthcclgoidchkdaaDoorCoreO
set_option linter.unusedVariables false
set_option linter.unusedSimpArgs false
namespace Go.Proofs.YthcclgoidchkdaaDoorC
open Go.RowKit
structure Lo {κ : Type} (lt : κ → κ → Bool) : Prop where
  irr : ∀ a, lt a a = false
  tr : ∀ a b c, lt a b = true → lt b c = true → lt a c = true
  tri : ∀ a b, lt a b = false → lt b a = false → a = b
section
variable {κ : Type} {lt : κ → κ → Bool}
end
theorem Rn.cast {P : Program} {σ : Env} {w : World} {o : Oper} {v v' : Value} (h : Rn P σ w o v) (e : v = v') : Rn P σ w o v' := e ▸ h
/-- A map reads as keys and values. -/
structure MapR {κ : Type} (M : Nat → Prop) (w : World) (ek : κ → List Value) (k : Nat) (v1 v2 : Value) (ks : List κ) (vs : List (List Value)) : Prop where
  keys : Sl M w v1 1 (ks.map ek)
  vals : Sl M w v2 k vs
  len : vs.length = ks.length
theorem MapR.ext {κ : Type} {M M' : Nat → Prop} {w w' : World} {ek : κ → List Value} {k : Nat} {v1 v2 : Value} {ks : List κ} {vs : List (List Value)} (h : MapR M w ek k v1 v2 ks vs) (hE : Ext M' w w') (hm : ∀ i, M' i → M i) : MapR M w' ek k v1 v2 ks vs :=
  ⟨h.keys.ext hE hm, h.vals.ext hE hm, h.len⟩
theorem MapR.sub {κ : Type} {M M' : Nat → Prop} {w : World} {ek : κ → List Value} {k : Nat} {v1 v2 : Value} {ks : List κ} {vs : List (List Value)} (h : MapR M w ek k v1 v2 ks vs) (hm : ∀ i, M' i → i < w.heap.size → M i) : MapR M' w ek k v1 v2 ks vs :=
  ⟨h.keys.sub hm, h.vals.sub hm, h.len⟩
end Go.Proofs.YthcclgoidchkdaaDoorC
