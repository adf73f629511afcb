/- That the law VersionPlaces is true, as a contract. -/
import Derived.Test.YtkfjchmmhabocaaDoorVer4
import Derived.Test.YtkfjchmmhabocaaDoorNod1
set_option linter.unusedVariables false
namespace Go.AL
open Go Go.Proofs Go.RowKit

end Go.AL
/- That the law VersionTexts is true, as a contract. -/
set_option linter.unusedVariables false
namespace Go.AL
open Go Go.Proofs Go.RowKit

end Go.AL
