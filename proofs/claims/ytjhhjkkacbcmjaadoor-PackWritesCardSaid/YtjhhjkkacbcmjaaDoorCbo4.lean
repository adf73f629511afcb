/- What the document's Same answers. -/
import Derived.Test.YtjhhjkkacbcmjaaDoorCbo3
set_option linter.unusedVariables false
namespace Go.AL
open Go Go.Proofs Go.RowKit

end Go.AL
