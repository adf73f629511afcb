/- What slices.Index and node.place answer. -/
import Derived.Test.YtmidabiehblekaaDoorJna
import Derived.Test.YtmidabiehblekaaDoorAl3
import Derived.Test.YtmidabiehblekaaDoorNod1
set_option linter.unusedVariables false
namespace Go.AL
open Go Go.Proofs Go.RowKit

end Go.AL

/- What node.Get, node.Set and node.Put answer. -/
set_option linter.unusedVariables false
namespace Go.AL
open Go Go.Proofs Go.RowKit

theorem Spec.res {P : Program} {f : FuncId} {args : List AV} {S S' : StL} {r r' : T} (h : Spec P f args S (.t r) S') (e : r = r') : Spec P f args S (.t r') S' := e ▸ h
end Go.AL

/- What node.Own answers, with the rows that are the caller's own; what node.Set and node.Put answer. -/
set_option linter.unusedVariables false
namespace Go.AL
open Go Go.Proofs Go.RowKit

end Go.AL

/- What node.Set and node.Put answer. -/
set_option linter.unusedVariables false
namespace Go.AL
open Go Go.Proofs Go.RowKit

end Go.AL

/- What node.Put answers. -/
set_option linter.unusedVariables false
namespace Go.AL
open Go Go.Proofs Go.RowKit

theorem zero_toT : Nd.zero.toT = .agg [.int .i64 0, .bool false, .int .i64 0, .str ⟨#[]⟩, .sl 1 [], .sl 6 []] := Nd.toT_eq _ _ _ _ _ _

end Go.AL

/- What slices.Equal answers for texts, and slices.EqualFunc for nodes. -/
set_option linter.unusedVariables false
namespace Go.AL
open Go Go.Proofs Go.RowKit

theorem Nd.toT_full (x : Nd) : x.toT = .agg [.int .i64 x.kind, .bool x.bool, .int .i64 x.num, .str x.text, .sl 1 (x.names.map .str), .sl 6 (x.items.map Nd.toT)] := by
  cases x; exact Nd.toT_eq _ _ _ _ _ _
end Go.AL

/- What node.Texts and node.ReadTexts answer. -/
set_option linter.unusedVariables false
namespace Go.AL
open Go Go.Proofs Go.RowKit

def Nd.ofText (s : ByteArray) : Nd := .mk 3 false 0 s [] []
def Nd.ofTexts (l : List ByteArray) : Nd := .mk 4 false 0 eS [] (l.map Nd.ofText)
end Go.AL

/- What node.ReadTexts answers. -/
set_option linter.unusedVariables false
namespace Go.AL
open Go Go.Proofs Go.RowKit

def Nd.allText (l : List Nd) : Bool := l.all fun x => decide (x.kind = 3)
def Nd.readTexts (n : Nd) : List ByteArray × Bool := if n.kind = 4 ∧ Nd.allText n.items = true then (n.items.map Nd.text, true) else ([], false)
end Go.AL

/- What the kit's functions over dice answer: Light, Roll, Mod, Next, Word. -/
set_option linter.unusedVariables false
namespace Go.AL
open Go Go.Proofs Go.RowKit

/-- Dice in memory. -/
def Dc.row (d : Dc) : Row := .var 49 [.t (.sl 1 (d.l.map (T.int .i64))), .t (.int .i64 d.k)]
end Go.AL

/- What Dice.Word answers. -/
set_option linter.unusedVariables false
namespace Go.AL
open Go Go.Proofs Go.RowKit

end Go.AL

/- What the kit's Text answers. -/
set_option linter.unusedVariables false
namespace Go.AL
open Go Go.Proofs Go.RowKit

end Go.AL

/- What the kit's Node answers: all but lists and maps with items. -/
set_option linter.unusedVariables false
namespace Go.AL
open Go Go.Proofs Go.RowKit

end Go.AL

/- What the kit's Node answers: lists and maps with items. -/
set_option linter.unusedVariables false
namespace Go.AL
open Go Go.Proofs Go.RowKit

end Go.AL

/- What the kit's Node, Map and Spoil answer. -/
set_option linter.unusedVariables false
namespace Go.AL
open Go Go.Proofs Go.RowKit

end Go.AL
