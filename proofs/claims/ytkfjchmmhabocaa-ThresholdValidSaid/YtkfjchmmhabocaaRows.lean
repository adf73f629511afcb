/-
  No cell of these rows narrows 'for every input' (looked for: loops, veiled, ifaces, maps, wideKeys, modest, calm, conditions, laid).
  DERIVED. THE GIVEN ROWS OF THIS SEAT. 5 by the template 'for every input the law returns true; each argument reads behind the call as it read before'; 0 by the template 'total and deterministic' (their statements: YtkfjchmmhabocaaTotals.lean).
  GIVEN WITH THE SEED: the statements are not yours to turn. If you find one false, say at which input.
  Laid BY PROGRAM, IN A SANDBOX (cutbox-rows.mjs): the forced cells as the released guide's own fill.sh prints them over the translation 03574d76328a5c6d… (all of the seat's roots in one cut). By AI agents, Wed Nov 11 2026. No macro, syntax, notation, axiom, sorry.
-/
import Derived.Test.YtkfjchmmhabocaaChecked
import GoSem.Claim
import GoSem.ClaimJoined
import GoSem.ClaimMapViews
import Derived.JoinedTies
import Derived.KernelRfl
namespace Go.Proofs.Ytkfjchmmhabocaa
/- THE CELL 'sum', in the pinned program and in every row, IS THE sha256 OF THE DUMP (.gsa) THAT YtkfjchmmhabocaaProg.lean LOADS. Nothing in Lean hashes anything: it is a label: what it is worth is what the hold of that sum in a sandbox is worth. -/
noncomputable def Try.pinned : Pinned := { name := "ytkfjchmmhabocaa", sum := "03574d76328a5c6d250250d385784fd678d011a6fa13ece8dd367756ab279c7f", checked := Try.checked }
namespace Rows
def none {H : Type} : Left H := { results := [], args := [] }

/-- 'keyeventlaw13.ThresholdEnough': WHATEVER THE INPUT: true; the input reads as it did. -/
def thresholdEnoughSpec : ChangeSpec := { name := "thresholdEnough", fn := fun _ => fun
  | [d1, d2] => { results := [.lit (.bool true)], args := [d1, d2] }
  | _ => none }
def thresholdEnoughRow : OpenClaim := { program := "ytkfjchmmhabocaa", sum := "03574d76328a5c6d250250d385784fd678d011a6fa13ece8dd367756ab279c7f", func := "keyevent/keyeventlaw13.ThresholdEnough", spec := "thresholdEnough", unfollowed := true, recurses := true, apart := false }
def ThresholdEnoughSaid : Prop := thresholdEnoughRow.holds Try.pinned (OpenSpec.ofChange thresholdEnoughSpec)

/-- ITS FALSE NEIGHBOUR: 'it returns false'. Refute it at one input. -/
def thresholdEnoughWrong : ChangeSpec := { name := "thresholdEnough", fn := fun _ => fun
  | [d1, d2] => { results := [.lit (.bool false)], args := [d1, d2] }
  | _ => none }
def ThresholdEnoughWrongFalsely : Prop := thresholdEnoughRow.holds Try.pinned (OpenSpec.ofChange thresholdEnoughWrong)

/-- 'keyeventlaw13.ThresholdGrows': WHATEVER THE INPUT: true; the input reads as it did. -/
def thresholdGrowsSpec : ChangeSpec := { name := "thresholdGrows", fn := fun _ => fun
  | [d] => { results := [.lit (.bool true)], args := [d] }
  | _ => none }
def thresholdGrowsRow : OpenClaim := { program := "ytkfjchmmhabocaa", sum := "03574d76328a5c6d250250d385784fd678d011a6fa13ece8dd367756ab279c7f", func := "keyevent/keyeventlaw13.ThresholdGrows", spec := "thresholdGrows", unfollowed := true, recurses := true, apart := false }
def ThresholdGrowsSaid : Prop := thresholdGrowsRow.holds Try.pinned (OpenSpec.ofChange thresholdGrowsSpec)

/-- ITS FALSE NEIGHBOUR: 'it returns false'. Refute it at one input. -/
def thresholdGrowsWrong : ChangeSpec := { name := "thresholdGrows", fn := fun _ => fun
  | [d] => { results := [.lit (.bool false)], args := [d] }
  | _ => none }
def ThresholdGrowsWrongFalsely : Prop := thresholdGrowsRow.holds Try.pinned (OpenSpec.ofChange thresholdGrowsWrong)

/-- 'keyeventlaw13.ThresholdLists': WHATEVER THE INPUT: true; the input reads as it did. -/
def thresholdListsSpec : ChangeSpec := { name := "thresholdLists", fn := fun _ => fun
  | [d] => { results := [.lit (.bool true)], args := [d] }
  | _ => none }
def thresholdListsRow : OpenClaim := { program := "ytkfjchmmhabocaa", sum := "03574d76328a5c6d250250d385784fd678d011a6fa13ece8dd367756ab279c7f", func := "keyevent/keyeventlaw13.ThresholdLists", spec := "thresholdLists", unfollowed := true, recurses := true, apart := false }
def ThresholdListsSaid : Prop := thresholdListsRow.holds Try.pinned (OpenSpec.ofChange thresholdListsSpec)

/-- ITS FALSE NEIGHBOUR: 'it returns false'. Refute it at one input. -/
def thresholdListsWrong : ChangeSpec := { name := "thresholdLists", fn := fun _ => fun
  | [d] => { results := [.lit (.bool false)], args := [d] }
  | _ => none }
def ThresholdListsWrongFalsely : Prop := thresholdListsRow.holds Try.pinned (OpenSpec.ofChange thresholdListsWrong)

/-- 'keyeventlaw13.ThresholdValid': WHATEVER THE INPUT: true; the input reads as it did. -/
def thresholdValidSpec : ChangeSpec := { name := "thresholdValid", fn := fun _ => fun
  | [d1, d2, d3, d4] => { results := [.lit (.bool true)], args := [d1, d2, d3, d4] }
  | _ => none }
def thresholdValidRow : OpenClaim := { program := "ytkfjchmmhabocaa", sum := "03574d76328a5c6d250250d385784fd678d011a6fa13ece8dd367756ab279c7f", func := "keyevent/keyeventlaw13.ThresholdValid", spec := "thresholdValid", unfollowed := true, recurses := true, apart := false }
def ThresholdValidSaid : Prop := thresholdValidRow.holds Try.pinned (OpenSpec.ofChange thresholdValidSpec)

/-- ITS FALSE NEIGHBOUR: 'it returns false'. Refute it at one input. -/
def thresholdValidWrong : ChangeSpec := { name := "thresholdValid", fn := fun _ => fun
  | [d1, d2, d3, d4] => { results := [.lit (.bool false)], args := [d1, d2, d3, d4] }
  | _ => none }
def ThresholdValidWrongFalsely : Prop := thresholdValidRow.holds Try.pinned (OpenSpec.ofChange thresholdValidWrong)

/-- 'keyeventlaw13.ThresholdSums': WHATEVER THE INPUT: true; the input reads as it did. -/
def thresholdSumsSpec : ChangeSpec := { name := "thresholdSums", fn := fun _ => fun
  | [d1, d2] => { results := [.lit (.bool true)], args := [d1, d2] }
  | _ => none }
def thresholdSumsRow : OpenClaim := { program := "ytkfjchmmhabocaa", sum := "03574d76328a5c6d250250d385784fd678d011a6fa13ece8dd367756ab279c7f", func := "keyevent/keyeventlaw13.ThresholdSums", spec := "thresholdSums", unfollowed := true, recurses := true, apart := false }
def ThresholdSumsSaid : Prop := thresholdSumsRow.holds Try.pinned (OpenSpec.ofChange thresholdSumsSpec)

/-- ITS FALSE NEIGHBOUR: 'it returns false'. Refute it at one input. -/
def thresholdSumsWrong : ChangeSpec := { name := "thresholdSums", fn := fun _ => fun
  | [d1, d2] => { results := [.lit (.bool false)], args := [d1, d2] }
  | _ => none }
def ThresholdSumsWrongFalsely : Prop := thresholdSumsRow.holds Try.pinned (OpenSpec.ofChange thresholdSumsWrong)

/- THE SECOND FORM. 'bulk': how many values and letters a reading holds, each counted each time it is reached (what is shared counts as often as it is met; a slice's spare places count too). A statement '..UptoSaid' is the law's where the arguments, and the package variables that the reading takes, are together of bulk at most 1048576: NARROWER than '..Said'. Prove '..Said' where nothing that the law and all that it calls make is longer than what came in: it says more and counts as full. Else prove '..UptoSaid'. A law counts once. -/
mutual
def uptoBulk {H : Type} : DataW H → Nat
  | .lit (.string bytes) => bytes.length + 1
  | .lit _ => 1
  | .nil => 1
  | .ptr d => uptoBulk d + 1
  | .slice elems spare => uptoBulkAll elems + uptoBulkAll spare + 1
  | .agg parts => uptoBulkAll parts + 1
  | .iface _ d => uptoBulk d + 1
  | .map entries => uptoBulkEntries entries + 1
  | .held _ => 1
def uptoBulkAll {H : Type} : List (DataW H) → Nat
  | [] => 0
  | d :: r => uptoBulk d + uptoBulkAll r
def uptoBulkEntries {H : Type} : List (Lit × DataW H) → Nat
  | [] => 0
  | x :: r => uptoBulkEntry x + uptoBulkEntries r
def uptoBulkEntry {H : Type} : Lit × DataW H → Nat
  | (.string bytes, d) => bytes.length + uptoBulk d + 1
  | (_, d) => uptoBulk d + 1
 end
def uptoSmall : (H : Type) → List (DataW H) → Bool := fun _ ds => decide (uptoBulkAll ds ≤ 1048576)
def OpenSpec.upto (s : _root_.Go.ChangeSpec) : _root_.Go.OpenSpec := { _root_.Go.OpenSpec.ofChange s with cond := some uptoSmall }

/-- 'keyeventlaw13.ThresholdEnough', WHERE WHAT IT READS IS OF BULK AT MOST 1048576: true; the input reads as it did. -/
def thresholdEnoughUptoRow : OpenClaim := { program := "ytkfjchmmhabocaa", sum := "03574d76328a5c6d250250d385784fd678d011a6fa13ece8dd367756ab279c7f", func := "keyevent/keyeventlaw13.ThresholdEnough", spec := "thresholdEnough", unfollowed := true, recurses := true, apart := false, narrowed := true }
def ThresholdEnoughUptoSaid : Prop := thresholdEnoughUptoRow.holds Try.pinned (OpenSpec.upto thresholdEnoughSpec)

/-- 'keyeventlaw13.ThresholdGrows', WHERE WHAT IT READS IS OF BULK AT MOST 1048576: true; the input reads as it did. -/
def thresholdGrowsUptoRow : OpenClaim := { program := "ytkfjchmmhabocaa", sum := "03574d76328a5c6d250250d385784fd678d011a6fa13ece8dd367756ab279c7f", func := "keyevent/keyeventlaw13.ThresholdGrows", spec := "thresholdGrows", unfollowed := true, recurses := true, apart := false, narrowed := true }
def ThresholdGrowsUptoSaid : Prop := thresholdGrowsUptoRow.holds Try.pinned (OpenSpec.upto thresholdGrowsSpec)

/-- 'keyeventlaw13.ThresholdLists', WHERE WHAT IT READS IS OF BULK AT MOST 1048576: true; the input reads as it did. -/
def thresholdListsUptoRow : OpenClaim := { program := "ytkfjchmmhabocaa", sum := "03574d76328a5c6d250250d385784fd678d011a6fa13ece8dd367756ab279c7f", func := "keyevent/keyeventlaw13.ThresholdLists", spec := "thresholdLists", unfollowed := true, recurses := true, apart := false, narrowed := true }
def ThresholdListsUptoSaid : Prop := thresholdListsUptoRow.holds Try.pinned (OpenSpec.upto thresholdListsSpec)

/-- 'keyeventlaw13.ThresholdValid', WHERE WHAT IT READS IS OF BULK AT MOST 1048576: true; the input reads as it did. -/
def thresholdValidUptoRow : OpenClaim := { program := "ytkfjchmmhabocaa", sum := "03574d76328a5c6d250250d385784fd678d011a6fa13ece8dd367756ab279c7f", func := "keyevent/keyeventlaw13.ThresholdValid", spec := "thresholdValid", unfollowed := true, recurses := true, apart := false, narrowed := true }
def ThresholdValidUptoSaid : Prop := thresholdValidUptoRow.holds Try.pinned (OpenSpec.upto thresholdValidSpec)

/-- 'keyeventlaw13.ThresholdSums', WHERE WHAT IT READS IS OF BULK AT MOST 1048576: true; the input reads as it did. -/
def thresholdSumsUptoRow : OpenClaim := { program := "ytkfjchmmhabocaa", sum := "03574d76328a5c6d250250d385784fd678d011a6fa13ece8dd367756ab279c7f", func := "keyevent/keyeventlaw13.ThresholdSums", spec := "thresholdSums", unfollowed := true, recurses := true, apart := false, narrowed := true }
def ThresholdSumsUptoSaid : Prop := thresholdSumsUptoRow.holds Try.pinned (OpenSpec.upto thresholdSumsSpec)

end Rows
end Go.Proofs.Ytkfjchmmhabocaa
