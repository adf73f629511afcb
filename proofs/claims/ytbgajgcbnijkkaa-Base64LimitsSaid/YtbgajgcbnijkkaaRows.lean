/-
  No cell of these rows narrows 'for every input' (looked for: loops, veiled, ifaces, maps, wideKeys, modest, calm, conditions, laid).
  DERIVED. THE GIVEN ROWS OF THIS SEAT. 7 by the template 'for every input the law returns true; each argument reads behind the call as it read before'; 0 by the template 'total and deterministic' (their statements: YtbgajgcbnijkkaaTotals.lean).
  GIVEN WITH THE SEED: the statements are not yours to turn. If you find one false, say at which input.
  Laid BY PROGRAM, IN A SANDBOX (cutbox-rows.mjs): the forced cells as the released guide's own fill.sh prints them over the translation 63f6a2796522fa07… (all of the seat's roots in one cut). By AI agents, Wed Nov 11 2026. No macro, syntax, notation, axiom, sorry.
-/
import Derived.Test.YtbgajgcbnijkkaaChecked
import GoSem.Claim
import GoSem.ClaimJoined
import GoSem.ClaimMapViews
import Derived.JoinedTies
import Derived.KernelRfl
namespace Go.Proofs.Ytbgajgcbnijkkaa
/- THE CELL 'sum', in the pinned program and in every row, IS THE sha256 OF THE DUMP (.gsa) THAT YtbgajgcbnijkkaaProg.lean LOADS. Nothing in Lean hashes anything: it is a label: what it is worth is what the hold of that sum in a sandbox is worth. -/
noncomputable def Try.pinned : Pinned := { name := "ytbgajgcbnijkkaa", sum := "63f6a2796522fa079771447ad89048d83e30a44b1044bcd529f0e1d3563536b2", checked := Try.checked }
namespace Rows
def none {H : Type} : Left H := { results := [], args := [] }

/-- 'keyeventlaw35.EdgesGroups': WHATEVER THE INPUT: true; the input reads as it did. -/
def edgesGroupsSpec : ChangeSpec := { name := "edgesGroups", fn := fun _ => fun
  | [d] => { results := [.lit (.bool true)], args := [d] }
  | _ => none }
def edgesGroupsRow : OpenClaim := { program := "ytbgajgcbnijkkaa", sum := "63f6a2796522fa079771447ad89048d83e30a44b1044bcd529f0e1d3563536b2", func := "keyevent/keyeventlaw35.EdgesGroups", spec := "edgesGroups", apart := false }
def EdgesGroupsSaid : Prop := edgesGroupsRow.holds Try.pinned (OpenSpec.ofChange edgesGroupsSpec)

/-- ITS FALSE NEIGHBOUR: 'it returns false'. Refute it at one input. -/
def edgesGroupsWrong : ChangeSpec := { name := "edgesGroups", fn := fun _ => fun
  | [d] => { results := [.lit (.bool false)], args := [d] }
  | _ => none }
def EdgesGroupsWrongFalsely : Prop := edgesGroupsRow.holds Try.pinned (OpenSpec.ofChange edgesGroupsWrong)

/-- 'keyeventlaw01.Base64Limits': WHATEVER THE INPUT: true; the input reads as it did. -/
def base64LimitsSpec : ChangeSpec := { name := "base64Limits", fn := fun _ => fun
  | [d1, d2] => { results := [.lit (.bool true)], args := [d1, d2] }
  | _ => none }
def base64LimitsRow : OpenClaim := { program := "ytbgajgcbnijkkaa", sum := "63f6a2796522fa079771447ad89048d83e30a44b1044bcd529f0e1d3563536b2", func := "keyevent/keyeventlaw01.Base64Limits", spec := "base64Limits", apart := false }
def Base64LimitsSaid : Prop := base64LimitsRow.holds Try.pinned (OpenSpec.ofChange base64LimitsSpec)

/-- ITS FALSE NEIGHBOUR: 'it returns false'. Refute it at one input. -/
def base64LimitsWrong : ChangeSpec := { name := "base64Limits", fn := fun _ => fun
  | [d1, d2] => { results := [.lit (.bool false)], args := [d1, d2] }
  | _ => none }
def Base64LimitsWrongFalsely : Prop := base64LimitsRow.holds Try.pinned (OpenSpec.ofChange base64LimitsWrong)

/-- 'keyeventlaw03.PrimitiveSizes': WHATEVER THE INPUT: true; the input reads as it did. -/
def primitiveSizesSpec : ChangeSpec := { name := "primitiveSizes", fn := fun _ => fun
  | [d1, d2] => { results := [.lit (.bool true)], args := [d1, d2] }
  | _ => none }
def primitiveSizesRow : OpenClaim := { program := "ytbgajgcbnijkkaa", sum := "63f6a2796522fa079771447ad89048d83e30a44b1044bcd529f0e1d3563536b2", func := "keyevent/keyeventlaw03.PrimitiveSizes", spec := "primitiveSizes", inPlace := ["internal/abi.NoEscape", "internal/bytealg.MakeNoZero"], apart := false }
def PrimitiveSizesSaid : Prop := primitiveSizesRow.holds Try.pinned (OpenSpec.ofChange primitiveSizesSpec)

/-- ITS FALSE NEIGHBOUR: 'it returns false'. Refute it at one input. -/
def primitiveSizesWrong : ChangeSpec := { name := "primitiveSizes", fn := fun _ => fun
  | [d1, d2] => { results := [.lit (.bool false)], args := [d1, d2] }
  | _ => none }
def PrimitiveSizesWrongFalsely : Prop := primitiveSizesRow.holds Try.pinned (OpenSpec.ofChange primitiveSizesWrong)

/-- 'keyeventlaw02.HashSums': WHATEVER THE INPUT: true; the input reads as it did. -/
def hashSumsSpec : ChangeSpec := { name := "hashSums", fn := fun _ => fun
  | [d1, d2] => { results := [.lit (.bool true)], args := [d1, d2] }
  | _ => none }
def hashSumsRow : OpenClaim := { program := "ytbgajgcbnijkkaa", sum := "63f6a2796522fa079771447ad89048d83e30a44b1044bcd529f0e1d3563536b2", func := "keyevent/keyeventlaw02.HashSums", spec := "hashSums", inPlace := ["internal/abi.NoEscape", "internal/bytealg.MakeNoZero"], apart := false }
def HashSumsSaid : Prop := hashSumsRow.holds Try.pinned (OpenSpec.ofChange hashSumsSpec)

/-- ITS FALSE NEIGHBOUR: 'it returns false'. Refute it at one input. -/
def hashSumsWrong : ChangeSpec := { name := "hashSums", fn := fun _ => fun
  | [d1, d2] => { results := [.lit (.bool false)], args := [d1, d2] }
  | _ => none }
def HashSumsWrongFalsely : Prop := hashSumsRow.holds Try.pinned (OpenSpec.ofChange hashSumsWrong)

/-- 'keyeventlaw02.HashPads': WHATEVER THE INPUT: true; the input reads as it did. -/
def hashPadsSpec : ChangeSpec := { name := "hashPads", fn := fun _ => fun
  | [d1, d2] => { results := [.lit (.bool true)], args := [d1, d2] }
  | _ => none }
def hashPadsRow : OpenClaim := { program := "ytbgajgcbnijkkaa", sum := "63f6a2796522fa079771447ad89048d83e30a44b1044bcd529f0e1d3563536b2", func := "keyevent/keyeventlaw02.HashPads", spec := "hashPads", inPlace := ["internal/abi.NoEscape", "internal/bytealg.MakeNoZero"], apart := false }
def HashPadsSaid : Prop := hashPadsRow.holds Try.pinned (OpenSpec.ofChange hashPadsSpec)

/-- ITS FALSE NEIGHBOUR: 'it returns false'. Refute it at one input. -/
def hashPadsWrong : ChangeSpec := { name := "hashPads", fn := fun _ => fun
  | [d1, d2] => { results := [.lit (.bool false)], args := [d1, d2] }
  | _ => none }
def HashPadsWrongFalsely : Prop := hashPadsRow.holds Try.pinned (OpenSpec.ofChange hashPadsWrong)

/-- 'keyeventlaw02.HashLong': WHATEVER THE INPUT: true; the input reads as it did. -/
def hashLongSpec : ChangeSpec := { name := "hashLong", fn := fun _ => fun
  | [d1, d2] => { results := [.lit (.bool true)], args := [d1, d2] }
  | _ => none }
def hashLongRow : OpenClaim := { program := "ytbgajgcbnijkkaa", sum := "63f6a2796522fa079771447ad89048d83e30a44b1044bcd529f0e1d3563536b2", func := "keyevent/keyeventlaw02.HashLong", spec := "hashLong", inPlace := ["internal/abi.NoEscape", "internal/bytealg.MakeNoZero"], apart := false }
def HashLongSaid : Prop := hashLongRow.holds Try.pinned (OpenSpec.ofChange hashLongSpec)

/-- ITS FALSE NEIGHBOUR: 'it returns false'. Refute it at one input. -/
def hashLongWrong : ChangeSpec := { name := "hashLong", fn := fun _ => fun
  | [d1, d2] => { results := [.lit (.bool false)], args := [d1, d2] }
  | _ => none }
def HashLongWrongFalsely : Prop := hashLongRow.holds Try.pinned (OpenSpec.ofChange hashLongWrong)

/-- 'keyeventlaw02.HashLists': WHATEVER THE INPUT: true; the input reads as it did. -/
def hashListsSpec : ChangeSpec := { name := "hashLists", fn := fun _ => fun
  | [d1, d2, d3] => { results := [.lit (.bool true)], args := [d1, d2, d3] }
  | _ => none }
def hashListsRow : OpenClaim := { program := "ytbgajgcbnijkkaa", sum := "63f6a2796522fa079771447ad89048d83e30a44b1044bcd529f0e1d3563536b2", func := "keyevent/keyeventlaw02.HashLists", spec := "hashLists", inPlace := ["internal/abi.NoEscape", "internal/bytealg.MakeNoZero"], apart := false }
def HashListsSaid : Prop := hashListsRow.holds Try.pinned (OpenSpec.ofChange hashListsSpec)

/-- ITS FALSE NEIGHBOUR: 'it returns false'. Refute it at one input. -/
def hashListsWrong : ChangeSpec := { name := "hashLists", fn := fun _ => fun
  | [d1, d2, d3] => { results := [.lit (.bool false)], args := [d1, d2, d3] }
  | _ => none }
def HashListsWrongFalsely : Prop := hashListsRow.holds Try.pinned (OpenSpec.ofChange hashListsWrong)

/- THE SECOND FORM. 'bulk': how many values and letters a reading holds, each counted each time it is reached (what is shared counts as often as it is met; a slice's spare places count too). A statement '..UptoSaid' is the law's where the arguments, and the package variables that the reading takes, are together of bulk at most 1048576: NARROWER than '..Said'. Prove '..Said' where nothing that the law and all that it calls make is longer than what came in: it says more and counts as full. Else prove '..UptoSaid'. A law counts once. -/
mutual
def uptoBulk {H : Type} : DataW H → Nat
  | .lit (.string bytes) => bytes.length + 1
  | .lit _ => 1
  | .nil => 1
  | .ptr d => uptoBulk d + 1
  | .slice elems spare => uptoBulkAll elems + uptoBulkAll spare + 1
  | .agg parts => uptoBulkAll parts + 1
  | .iface _ d => uptoBulk d + 1
  | .map entries => uptoBulkEntries entries + 1
  | .held _ => 1
def uptoBulkAll {H : Type} : List (DataW H) → Nat
  | [] => 0
  | d :: r => uptoBulk d + uptoBulkAll r
def uptoBulkEntries {H : Type} : List (Lit × DataW H) → Nat
  | [] => 0
  | x :: r => uptoBulkEntry x + uptoBulkEntries r
def uptoBulkEntry {H : Type} : Lit × DataW H → Nat
  | (.string bytes, d) => bytes.length + uptoBulk d + 1
  | (_, d) => uptoBulk d + 1
 end
def uptoSmall : (H : Type) → List (DataW H) → Bool := fun _ ds => decide (uptoBulkAll ds ≤ 1048576)
def OpenSpec.upto (s : _root_.Go.ChangeSpec) : _root_.Go.OpenSpec := { _root_.Go.OpenSpec.ofChange s with cond := some uptoSmall }

/-- 'keyeventlaw35.EdgesGroups', WHERE WHAT IT READS IS OF BULK AT MOST 1048576: true; the input reads as it did. -/
def edgesGroupsUptoRow : OpenClaim := { program := "ytbgajgcbnijkkaa", sum := "63f6a2796522fa079771447ad89048d83e30a44b1044bcd529f0e1d3563536b2", func := "keyevent/keyeventlaw35.EdgesGroups", spec := "edgesGroups", apart := false, narrowed := true }
def EdgesGroupsUptoSaid : Prop := edgesGroupsUptoRow.holds Try.pinned (OpenSpec.upto edgesGroupsSpec)

/-- 'keyeventlaw01.Base64Limits', WHERE WHAT IT READS IS OF BULK AT MOST 1048576: true; the input reads as it did. -/
def base64LimitsUptoRow : OpenClaim := { program := "ytbgajgcbnijkkaa", sum := "63f6a2796522fa079771447ad89048d83e30a44b1044bcd529f0e1d3563536b2", func := "keyevent/keyeventlaw01.Base64Limits", spec := "base64Limits", apart := false, narrowed := true }
def Base64LimitsUptoSaid : Prop := base64LimitsUptoRow.holds Try.pinned (OpenSpec.upto base64LimitsSpec)

/-- 'keyeventlaw03.PrimitiveSizes', WHERE WHAT IT READS IS OF BULK AT MOST 1048576: true; the input reads as it did. -/
def primitiveSizesUptoRow : OpenClaim := { program := "ytbgajgcbnijkkaa", sum := "63f6a2796522fa079771447ad89048d83e30a44b1044bcd529f0e1d3563536b2", func := "keyevent/keyeventlaw03.PrimitiveSizes", spec := "primitiveSizes", inPlace := ["internal/abi.NoEscape", "internal/bytealg.MakeNoZero"], apart := false, narrowed := true }
def PrimitiveSizesUptoSaid : Prop := primitiveSizesUptoRow.holds Try.pinned (OpenSpec.upto primitiveSizesSpec)

/-- 'keyeventlaw02.HashSums', WHERE WHAT IT READS IS OF BULK AT MOST 1048576: true; the input reads as it did. -/
def hashSumsUptoRow : OpenClaim := { program := "ytbgajgcbnijkkaa", sum := "63f6a2796522fa079771447ad89048d83e30a44b1044bcd529f0e1d3563536b2", func := "keyevent/keyeventlaw02.HashSums", spec := "hashSums", inPlace := ["internal/abi.NoEscape", "internal/bytealg.MakeNoZero"], apart := false, narrowed := true }
def HashSumsUptoSaid : Prop := hashSumsUptoRow.holds Try.pinned (OpenSpec.upto hashSumsSpec)

/-- 'keyeventlaw02.HashPads', WHERE WHAT IT READS IS OF BULK AT MOST 1048576: true; the input reads as it did. -/
def hashPadsUptoRow : OpenClaim := { program := "ytbgajgcbnijkkaa", sum := "63f6a2796522fa079771447ad89048d83e30a44b1044bcd529f0e1d3563536b2", func := "keyevent/keyeventlaw02.HashPads", spec := "hashPads", inPlace := ["internal/abi.NoEscape", "internal/bytealg.MakeNoZero"], apart := false, narrowed := true }
def HashPadsUptoSaid : Prop := hashPadsUptoRow.holds Try.pinned (OpenSpec.upto hashPadsSpec)

/-- 'keyeventlaw02.HashLong', WHERE WHAT IT READS IS OF BULK AT MOST 1048576: true; the input reads as it did. -/
def hashLongUptoRow : OpenClaim := { program := "ytbgajgcbnijkkaa", sum := "63f6a2796522fa079771447ad89048d83e30a44b1044bcd529f0e1d3563536b2", func := "keyevent/keyeventlaw02.HashLong", spec := "hashLong", inPlace := ["internal/abi.NoEscape", "internal/bytealg.MakeNoZero"], apart := false, narrowed := true }
def HashLongUptoSaid : Prop := hashLongUptoRow.holds Try.pinned (OpenSpec.upto hashLongSpec)

/-- 'keyeventlaw02.HashLists', WHERE WHAT IT READS IS OF BULK AT MOST 1048576: true; the input reads as it did. -/
def hashListsUptoRow : OpenClaim := { program := "ytbgajgcbnijkkaa", sum := "63f6a2796522fa079771447ad89048d83e30a44b1044bcd529f0e1d3563536b2", func := "keyevent/keyeventlaw02.HashLists", spec := "hashLists", inPlace := ["internal/abi.NoEscape", "internal/bytealg.MakeNoZero"], apart := false, narrowed := true }
def HashListsUptoSaid : Prop := hashListsUptoRow.holds Try.pinned (OpenSpec.upto hashListsSpec)

end Rows
end Go.Proofs.Ytbgajgcbnijkkaa
