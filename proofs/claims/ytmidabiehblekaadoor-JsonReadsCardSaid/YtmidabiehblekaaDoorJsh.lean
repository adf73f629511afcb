/- That the law JsonBack is true, as a contract. -/
import Derived.Test.YtmidabiehblekaaDoorJsg
import Derived.Test.YtmidabiehblekaaDoorJsd
import Derived.Test.YtmidabiehblekaaDoorNod2
import Derived.Test.YtmidabiehblekaaDoorJnc
import Derived.Test.YtmidabiehblekaaDoorJne
set_option linter.unusedVariables false
namespace Go.AL
open Go Go.Proofs Go.RowKit

end Go.AL
/- That the law JsonOnce is true, as a contract. -/
set_option linter.unusedVariables false
namespace Go.AL
open Go Go.Proofs Go.RowKit

/-- What a reader of the bytes makes: nothing, or a valid node with these bytes. -/
theorem jDec_two {V : ByteArray → Bool} (s : ByteArray) : gDec jsC V s = (Nd.zero, 4) ∨ ∃ x : Nd, gDec jsC V s = (x, 0) ∧ x.validB V 8 = true ∧ x.In ∧ x.Ok ∧ (jsC.E x).length ≤ 65536 ∧ s = ofL (jsC.E x) := by
  by_cases h : gGood jsC V s
  · obtain ⟨x, h1, h2, h3, rfl⟩ := gDec_iff (C := jsC).1 h
    exact .inr ⟨x, gDec_back (C := jsC) h1 h2 h3, h1, h2, Nd.ok_of_valid x 8 h1, h3, rfl⟩
  · exact .inl (gDec_zero (C := jsC) h)
end Go.AL
/- That the law JsonQuotes is true, as a contract. -/
set_option linter.unusedVariables false
namespace Go.AL
open Go Go.Proofs Go.RowKit

end Go.AL
