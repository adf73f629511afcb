/- What the document's Quote, Write and Encode of the first serialisation answer. -/
import Derived.Test.YtmidabiehblekaaDoorJsb
import Derived.Test.YtmidabiehblekaaDoorJnd
import Derived.Test.YtmidabiehblekaaDoorNod1
set_option linter.unusedVariables false
namespace Go.AL
open Go Go.Proofs Go.RowKit

theorem letters (c : UInt8) (h : c = 8 ∨ c = 9 ∨ c = 10 ∨ c = 12 ∨ c = 13) : escO c = some (UInt8.ofNat (bAt ⟨#[98, 116, 110, 63, 102, 114]⟩ (IntKind.u8.wrap ((c.toNat : Int) - 8))).toNat) ∧ 0 ≤ bAt ⟨#[98, 116, 110, 63, 102, 114]⟩ (IntKind.u8.wrap ((c.toNat : Int) - 8)) ∧ bAt ⟨#[98, 116, 110, 63, 102, 114]⟩ (IntKind.u8.wrap ((c.toNat : Int) - 8)) < 256 ∧ 0 ≤ IntKind.u8.wrap ((c.toNat : Int) - 8) ∧ IntKind.u8.wrap ((c.toNat : Int) - 8) < 6 := by
  rcases h with rfl | rfl | rfl | rfl | rfl <;> decide
end Go.AL
/- What the document's Write and Encode of the first serialisation answer. -/
set_option linter.unusedVariables false
namespace Go.AL
open Go Go.Proofs Go.RowKit

end Go.AL
