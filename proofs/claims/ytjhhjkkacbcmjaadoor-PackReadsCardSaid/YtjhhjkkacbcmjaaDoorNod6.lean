/- That the law NodePuts is true, as a contract. -/
import Derived.Test.YtjhhjkkacbcmjaaDoorNod5
import Derived.Test.YtjhhjkkacbcmjaaDoorNod1
set_option linter.unusedVariables false
namespace Go.AL
open Go Go.Proofs Go.RowKit

def putNames : List ByteArray := [⟨#[97]⟩, ⟨#[98]⟩, ⟨#[100]⟩, ⟨#[110, 101, 119]⟩]
end Go.AL
