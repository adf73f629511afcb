/- What parse.Reader's Count, and pack.reader's text and number answer. -/
import Derived.Test.YtjhhjkkacbcmjaaDoorPkb
import Derived.Test.YtjhhjkkacbcmjaaDoorCbo4
set_option linter.unusedVariables false
namespace Go.AL
open Go Go.Proofs Go.RowKit

end Go.AL
/- What pack.reader's number answers. -/
set_option linter.unusedVariables false
namespace Go.AL
open Go Go.Proofs Go.RowKit

end Go.AL
/- What pack.reader's items answers, given what node answers. -/
set_option linter.unusedVariables false
namespace Go.AL
open Go Go.Proofs Go.RowKit

end Go.AL
/- What pack.reader's node answers, and what pack.Decode answers. -/
set_option linter.unusedVariables false
namespace Go.AL
open Go Go.Proofs Go.RowKit

end Go.AL
/- What pack.Decode answers. -/
set_option linter.unusedVariables false
namespace Go.AL
open Go Go.Proofs Go.RowKit

def pkR (s : ByteArray) : Nd × Rs := pNode 8 ⟨s, false⟩
end Go.AL
