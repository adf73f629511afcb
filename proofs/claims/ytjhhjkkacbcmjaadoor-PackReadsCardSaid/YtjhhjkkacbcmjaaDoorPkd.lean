/- That the law PackBack is true, as a contract. -/
import Derived.Test.YtjhhjkkacbcmjaaDoorPkc
import Derived.Test.YtjhhjkkacbcmjaaDoorCbo2
set_option linter.unusedVariables false
namespace Go.AL
open Go Go.Proofs Go.RowKit

end Go.AL
