/- What the document's test of a node answers. -/
import Derived.Test.YtmidabiehblekaaDoorJnc
import Derived.Test.YtmidabiehblekaaDoorJna
import Derived.Test.YtmidabiehblekaaDoorAl3
set_option linter.unusedVariables false
namespace Go.AL
open Go Go.Proofs Go.RowKit

def badB (k : Int) (b : Bool) (n : Int) (t : ByteArray) (ns : List ByteArray) (is : List Nd) (dp : Int) : Bool :=
  decide (dp < 1) || decide (k < 0) || decide (5 < k) || !(Nd.mk k b n t ns is).fieldsOK
end Go.AL
