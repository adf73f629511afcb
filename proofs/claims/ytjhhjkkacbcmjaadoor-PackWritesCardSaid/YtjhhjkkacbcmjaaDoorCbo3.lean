/- What the methods of parse.Reader answer. -/
import Derived.Test.YtjhhjkkacbcmjaaDoorCbo1
import Derived.Test.YtjhhjkkacbcmjaaDoorAl3
import Derived.Test.YtjhhjkkacbcmjaaDoorRed
set_option linter.unusedVariables false
namespace Go.AL
open Go Go.Proofs Go.RowKit

def Rs.row (ty : TypeId) (r : Rs) : Row := .var ty [.t (.str r.s), .t (.bool r.bad)]
end Go.AL
/- What cbor.reader's head and name answer. -/
set_option linter.unusedVariables false
namespace Go.AL
open Go Go.Proofs Go.RowKit

end Go.AL
/- What cbor.reader's items answers, given what node answers. -/
set_option linter.unusedVariables false
namespace Go.AL
open Go Go.Proofs Go.RowKit

end Go.AL
/- What cbor.reader's node answers. -/
set_option linter.unusedVariables false
namespace Go.AL
open Go Go.Proofs Go.RowKit

end Go.AL
/- What parse.Finish answers, given what the encoding answers, and what cbor.Decode answers. -/
set_option linter.unusedVariables false
namespace Go.AL
open Go Go.Proofs Go.RowKit

end Go.AL
