/- Texts joined into one: OpN OpR Op8 Op9 Op10 Op11 Op12 Op13 OpL Op14 Op15. -/
import Derived.Test.YthcclgoidchkdaaDoorOpAa
import Derived.Lib.Atoi
import Derived.Lib.AtoiTie
import Derived.Lib.AtoiAll
import Derived.Test.YthcclgoidchkdaaDoorCoreW
import Derived.Test.YthcclgoidchkdaaDoorLev
import Derived.Test.YthcclgoidchkdaaDoorOpAa
import Derived.Test.YthcclgoidchkdaaDoorRef1
import Derived.Test.YthcclgoidchkdaaDoorTop2
import Derived.Shelf.Strconv.AtoiAll
/- Numerals of at most four digits; plain. -/
set_option linter.unusedVariables false
set_option linter.unusedSimpArgs false
namespace Go.Proofs.YthcclgoidchkdaaDoorC
open Go.RowKit Go.Lib
end Go.Proofs.YthcclgoidchkdaaDoorC

/- A line's operation; plain. -/
set_option linter.unusedVariables false
set_option linter.unusedSimpArgs false
namespace Go.Proofs.YthcclgoidchkdaaDoorC
open Go.RowKit
end Go.Proofs.YthcclgoidchkdaaDoorC

/- Cutting a line at its blanks: the library's and the document's; a number's digits. -/
set_option linter.unusedVariables false
set_option linter.unusedSimpArgs false
set_option maxRecDepth 100000
namespace Go.Proofs.YthcclgoidchkdaaDoorC
open Go.RowKit
end Go.Proofs.YthcclgoidchkdaaDoorC

/- Numbers read: the library's and the document's; an operation's fields from words. -/
set_option linter.unusedVariables false
set_option linter.unusedSimpArgs false
set_option maxRecDepth 100000
namespace Go.Proofs.YthcclgoidchkdaaDoorC
open Go.RowKit Go.Shelf
end Go.Proofs.YthcclgoidchkdaaDoorC

/- An operation's fields from words. -/
set_option linter.unusedVariables false
set_option linter.unusedSimpArgs false
set_option maxRecDepth 100000
namespace Go.Proofs.YthcclgoidchkdaaDoorC
open Go.RowKit
end Go.Proofs.YthcclgoidchkdaaDoorC

/- The operation of a line: the program's. -/
set_option linter.unusedVariables false
set_option linter.unusedSimpArgs false
set_option maxRecDepth 100000
namespace Go.Proofs.YthcclgoidchkdaaDoorC
open Go.RowKit
end Go.Proofs.YthcclgoidchkdaaDoorC

/- The operation of a line: what the document reads is what the program takes; plain. -/
set_option linter.unusedVariables false
set_option linter.unusedSimpArgs false
set_option maxRecDepth 100000
namespace Go.Proofs.YthcclgoidchkdaaDoorC
open Go.RowKit
theorem join_cons2 (x y : Str) (r : List Str) : Lib.join (x :: y :: r) [32] = x ++ 32 :: Lib.join (y :: r) [32] := by
  rw [Lib.join_cons, Lib.join_cons]; simp [Lib.joinTail]
end Go.Proofs.YthcclgoidchkdaaDoorC

/- The operation of a line: the document's. -/
set_option linter.unusedVariables false
set_option linter.unusedSimpArgs false
set_option maxRecDepth 100000
namespace Go.Proofs.YthcclgoidchkdaaDoorC
open Go.RowKit
end Go.Proofs.YthcclgoidchkdaaDoorC

/- A plain operation is read from its line again; plain. -/
set_option linter.unusedVariables false
set_option linter.unusedSimpArgs false
namespace Go.Proofs.YthcclgoidchkdaaDoorC
open Go.RowKit
theorem lineR_len {x : OpD} (h : plainR x = true) : (lineR x).length ≤ 3 * x.text.length + 3 * x.payload.length + 20 := by
  have hp := (plain_iff x).1 h
  have h1 := wordR_len x.text; have h2 := wordR_len x.payload; have h3 := name_len x
  have hsub : 0 ≤ x.sub ∧ x.sub ≤ 9999 := by rcases hp with ⟨_, h⟩ | ⟨_, h, h2, _⟩ | ⟨_, h, h2, _⟩; omega; exact ⟨h, h2⟩; exact ⟨h, h2⟩
  have h4 : (Lib.itoa x.sub).length ≤ 4 := by rw [itoa_sub hsub.1]; exact dec_len (by omega)
  unfold lineR wordsR
  split
  · rw [join3]; simp only [List.length_append, List.length_cons]; omega
  · split
    · rw [join3]; simp only [List.length_append, List.length_cons]; omega
    · rw [join2]; simp only [List.length_append, List.length_cons]; omega
end Go.Proofs.YthcclgoidchkdaaDoorC

/- Layer 19: the laws. -/
set_option linter.unusedVariables false
set_option linter.unusedSimpArgs false
set_option maxRecDepth 100000
namespace Go.Proofs.YthcclgoidchkdaaDoorC
open Go.RowKit
end Go.Proofs.YthcclgoidchkdaaDoorC

/- Layer 19: OpLines. -/
set_option linter.unusedVariables false
set_option linter.unusedSimpArgs false
set_option maxRecDepth 100000
namespace Go.Proofs.YthcclgoidchkdaaDoorC
open Go.RowKit
end Go.Proofs.YthcclgoidchkdaaDoorC
