/-
  No cell of these rows narrows 'for every input' (looked for: loops, veiled, ifaces, maps, wideKeys, modest, calm, conditions, laid).
  DERIVED. THE GIVEN ROWS OF THIS SEAT. 11 by the template 'for every input the law returns true; each argument reads behind the call as it read before'; 0 by the template 'total and deterministic' (their statements: YtohgkmphkgaabaaTotals.lean).
  GIVEN WITH THE SEED: the statements are not yours to turn. If you find one false, say at which input.
  Laid BY PROGRAM, IN A SANDBOX (cutbox-rows.mjs): the forced cells as the released guide's own fill.sh prints them over the translation 041b2b52abdd208b… (all of the seat's roots in one cut). By AI agents, Wed Nov 11 2026. No macro, syntax, notation, axiom, sorry.
-/
import Derived.Test.YtohgkmphkgaabaaChecked
import GoSem.Claim
import GoSem.ClaimJoined
import GoSem.ClaimMapViews
import Derived.JoinedTies
import Derived.KernelRfl
namespace Go.Proofs.Ytohgkmphkgaabaa
/- THE CELL 'sum', in the pinned program and in every row, IS THE sha256 OF THE DUMP (.gsa) THAT YtohgkmphkgaabaaProg.lean LOADS. Nothing in Lean hashes anything: it is a label: what it is worth is what the hold of that sum in a sandbox is worth. -/
noncomputable def Try.pinned : Pinned := { name := "ytohgkmphkgaabaa", sum := "041b2b52abdd208bad7e021a8ae4e5d1625df285a8619255479170ec27152731", checked := Try.checked }
namespace Rows
def none {H : Type} : Left H := { results := [], args := [] }

/-- 'keyeventlaw03.PrimitiveSizes': WHATEVER THE INPUT: true; the input reads as it did. -/
def primitiveSizesSpec : ChangeSpec := { name := "primitiveSizes", fn := fun _ => fun
  | [d1, d2] => { results := [.lit (.bool true)], args := [d1, d2] }
  | _ => none }
def primitiveSizesRow : OpenClaim := { program := "ytohgkmphkgaabaa", sum := "041b2b52abdd208bad7e021a8ae4e5d1625df285a8619255479170ec27152731", func := "keyevent/keyeventlaw03.PrimitiveSizes", spec := "primitiveSizes", inPlace := ["internal/abi.NoEscape", "internal/bytealg.MakeNoZero"], apart := false }
def PrimitiveSizesSaid : Prop := primitiveSizesRow.holds Try.pinned (OpenSpec.ofChange primitiveSizesSpec)

/-- ITS FALSE NEIGHBOUR: 'it returns false'. Refute it at one input. -/
def primitiveSizesWrong : ChangeSpec := { name := "primitiveSizes", fn := fun _ => fun
  | [d1, d2] => { results := [.lit (.bool false)], args := [d1, d2] }
  | _ => none }
def PrimitiveSizesWrongFalsely : Prop := primitiveSizesRow.holds Try.pinned (OpenSpec.ofChange primitiveSizesWrong)

/-- 'keyeventlaw02.HashSums': WHATEVER THE INPUT: true; the input reads as it did. -/
def hashSumsSpec : ChangeSpec := { name := "hashSums", fn := fun _ => fun
  | [d1, d2] => { results := [.lit (.bool true)], args := [d1, d2] }
  | _ => none }
def hashSumsRow : OpenClaim := { program := "ytohgkmphkgaabaa", sum := "041b2b52abdd208bad7e021a8ae4e5d1625df285a8619255479170ec27152731", func := "keyevent/keyeventlaw02.HashSums", spec := "hashSums", inPlace := ["internal/abi.NoEscape", "internal/bytealg.MakeNoZero"], apart := false }
def HashSumsSaid : Prop := hashSumsRow.holds Try.pinned (OpenSpec.ofChange hashSumsSpec)

/-- ITS FALSE NEIGHBOUR: 'it returns false'. Refute it at one input. -/
def hashSumsWrong : ChangeSpec := { name := "hashSums", fn := fun _ => fun
  | [d1, d2] => { results := [.lit (.bool false)], args := [d1, d2] }
  | _ => none }
def HashSumsWrongFalsely : Prop := hashSumsRow.holds Try.pinned (OpenSpec.ofChange hashSumsWrong)

/-- 'keyeventlaw02.HashPads': WHATEVER THE INPUT: true; the input reads as it did. -/
def hashPadsSpec : ChangeSpec := { name := "hashPads", fn := fun _ => fun
  | [d1, d2] => { results := [.lit (.bool true)], args := [d1, d2] }
  | _ => none }
def hashPadsRow : OpenClaim := { program := "ytohgkmphkgaabaa", sum := "041b2b52abdd208bad7e021a8ae4e5d1625df285a8619255479170ec27152731", func := "keyevent/keyeventlaw02.HashPads", spec := "hashPads", inPlace := ["internal/abi.NoEscape", "internal/bytealg.MakeNoZero"], apart := false }
def HashPadsSaid : Prop := hashPadsRow.holds Try.pinned (OpenSpec.ofChange hashPadsSpec)

/-- ITS FALSE NEIGHBOUR: 'it returns false'. Refute it at one input. -/
def hashPadsWrong : ChangeSpec := { name := "hashPads", fn := fun _ => fun
  | [d1, d2] => { results := [.lit (.bool false)], args := [d1, d2] }
  | _ => none }
def HashPadsWrongFalsely : Prop := hashPadsRow.holds Try.pinned (OpenSpec.ofChange hashPadsWrong)

/-- 'keyeventlaw02.HashLong': WHATEVER THE INPUT: true; the input reads as it did. -/
def hashLongSpec : ChangeSpec := { name := "hashLong", fn := fun _ => fun
  | [d1, d2] => { results := [.lit (.bool true)], args := [d1, d2] }
  | _ => none }
def hashLongRow : OpenClaim := { program := "ytohgkmphkgaabaa", sum := "041b2b52abdd208bad7e021a8ae4e5d1625df285a8619255479170ec27152731", func := "keyevent/keyeventlaw02.HashLong", spec := "hashLong", inPlace := ["internal/abi.NoEscape", "internal/bytealg.MakeNoZero"], apart := false }
def HashLongSaid : Prop := hashLongRow.holds Try.pinned (OpenSpec.ofChange hashLongSpec)

/-- ITS FALSE NEIGHBOUR: 'it returns false'. Refute it at one input. -/
def hashLongWrong : ChangeSpec := { name := "hashLong", fn := fun _ => fun
  | [d1, d2] => { results := [.lit (.bool false)], args := [d1, d2] }
  | _ => none }
def HashLongWrongFalsely : Prop := hashLongRow.holds Try.pinned (OpenSpec.ofChange hashLongWrong)

/-- 'keyeventlaw02.HashLists': WHATEVER THE INPUT: true; the input reads as it did. -/
def hashListsSpec : ChangeSpec := { name := "hashLists", fn := fun _ => fun
  | [d1, d2, d3] => { results := [.lit (.bool true)], args := [d1, d2, d3] }
  | _ => none }
def hashListsRow : OpenClaim := { program := "ytohgkmphkgaabaa", sum := "041b2b52abdd208bad7e021a8ae4e5d1625df285a8619255479170ec27152731", func := "keyevent/keyeventlaw02.HashLists", spec := "hashLists", inPlace := ["internal/abi.NoEscape", "internal/bytealg.MakeNoZero"], apart := false }
def HashListsSaid : Prop := hashListsRow.holds Try.pinned (OpenSpec.ofChange hashListsSpec)

/-- ITS FALSE NEIGHBOUR: 'it returns false'. Refute it at one input. -/
def hashListsWrong : ChangeSpec := { name := "hashLists", fn := fun _ => fun
  | [d1, d2, d3] => { results := [.lit (.bool false)], args := [d1, d2, d3] }
  | _ => none }
def HashListsWrongFalsely : Prop := hashListsRow.holds Try.pinned (OpenSpec.ofChange hashListsWrong)

/-- 'keyeventlaw11.OnetimeActs': WHATEVER THE INPUT: true; the input reads as it did. -/
def onetimeActsSpec : ChangeSpec := { name := "onetimeActs", fn := fun _ => fun
  | [d1, d2, d3, d4, d5, d6, d7] => { results := [.lit (.bool true)], args := [d1, d2, d3, d4, d5, d6, d7] }
  | _ => none }
def onetimeActsRow : OpenClaim := { program := "ytohgkmphkgaabaa", sum := "041b2b52abdd208bad7e021a8ae4e5d1625df285a8619255479170ec27152731", func := "keyevent/keyeventlaw11.OnetimeActs", spec := "onetimeActs", inPlace := ["internal/abi.NoEscape", "internal/bytealg.MakeNoZero"], apart := false }
def OnetimeActsSaid : Prop := onetimeActsRow.holds Try.pinned (OpenSpec.ofChange onetimeActsSpec)

/-- ITS FALSE NEIGHBOUR: 'it returns false'. Refute it at one input. -/
def onetimeActsWrong : ChangeSpec := { name := "onetimeActs", fn := fun _ => fun
  | [d1, d2, d3, d4, d5, d6, d7] => { results := [.lit (.bool false)], args := [d1, d2, d3, d4, d5, d6, d7] }
  | _ => none }
def OnetimeActsWrongFalsely : Prop := onetimeActsRow.holds Try.pinned (OpenSpec.ofChange onetimeActsWrong)

/-- 'keyeventlaw11.OnetimeForward': WHATEVER THE INPUT: true; the input reads as it did. -/
def onetimeForwardSpec : ChangeSpec := { name := "onetimeForward", fn := fun _ => fun
  | [d1, d2] => { results := [.lit (.bool true)], args := [d1, d2] }
  | _ => none }
def onetimeForwardRow : OpenClaim := { program := "ytohgkmphkgaabaa", sum := "041b2b52abdd208bad7e021a8ae4e5d1625df285a8619255479170ec27152731", func := "keyevent/keyeventlaw11.OnetimeForward", spec := "onetimeForward", inPlace := ["internal/abi.NoEscape", "internal/bytealg.MakeNoZero"], apart := false }
def OnetimeForwardSaid : Prop := onetimeForwardRow.holds Try.pinned (OpenSpec.ofChange onetimeForwardSpec)

/-- ITS FALSE NEIGHBOUR: 'it returns false'. Refute it at one input. -/
def onetimeForwardWrong : ChangeSpec := { name := "onetimeForward", fn := fun _ => fun
  | [d1, d2] => { results := [.lit (.bool false)], args := [d1, d2] }
  | _ => none }
def OnetimeForwardWrongFalsely : Prop := onetimeForwardRow.holds Try.pinned (OpenSpec.ofChange onetimeForwardWrong)

/-- 'keyeventlaw11.OnetimeChains': WHATEVER THE INPUT: true; the input reads as it did. -/
def onetimeChainsSpec : ChangeSpec := { name := "onetimeChains", fn := fun _ => fun
  | [d1, d2] => { results := [.lit (.bool true)], args := [d1, d2] }
  | _ => none }
def onetimeChainsRow : OpenClaim := { program := "ytohgkmphkgaabaa", sum := "041b2b52abdd208bad7e021a8ae4e5d1625df285a8619255479170ec27152731", func := "keyevent/keyeventlaw11.OnetimeChains", spec := "onetimeChains", inPlace := ["internal/abi.NoEscape", "internal/bytealg.MakeNoZero"], apart := false }
def OnetimeChainsSaid : Prop := onetimeChainsRow.holds Try.pinned (OpenSpec.ofChange onetimeChainsSpec)

/-- ITS FALSE NEIGHBOUR: 'it returns false'. Refute it at one input. -/
def onetimeChainsWrong : ChangeSpec := { name := "onetimeChains", fn := fun _ => fun
  | [d1, d2] => { results := [.lit (.bool false)], args := [d1, d2] }
  | _ => none }
def OnetimeChainsWrongFalsely : Prop := onetimeChainsRow.holds Try.pinned (OpenSpec.ofChange onetimeChainsWrong)

/-- 'keyeventlaw43.StoreCrash': WHATEVER THE INPUT: true; the input reads as it did. -/
def storeCrashSpec : ChangeSpec := { name := "storeCrash", fn := fun _ => fun
  | [d1, d2, d3] => { results := [.lit (.bool true)], args := [d1, d2, d3] }
  | _ => none }
def storeCrashRow : OpenClaim := { program := "ytohgkmphkgaabaa", sum := "041b2b52abdd208bad7e021a8ae4e5d1625df285a8619255479170ec27152731", func := "keyevent/keyeventlaw43.StoreCrash", spec := "storeCrash", inPlace := ["internal/abi.NoEscape", "internal/bytealg.MakeNoZero"], unfollowed := true, recurses := true, apart := false }
def StoreCrashSaid : Prop := storeCrashRow.holds Try.pinned (OpenSpec.ofChange storeCrashSpec)

/-- ITS FALSE NEIGHBOUR: 'it returns false'. Refute it at one input. -/
def storeCrashWrong : ChangeSpec := { name := "storeCrash", fn := fun _ => fun
  | [d1, d2, d3] => { results := [.lit (.bool false)], args := [d1, d2, d3] }
  | _ => none }
def StoreCrashWrongFalsely : Prop := storeCrashRow.holds Try.pinned (OpenSpec.ofChange storeCrashWrong)

/-- 'keyeventlaw43.StoreTorn': WHATEVER THE INPUT: true; the input reads as it did. -/
def storeTornSpec : ChangeSpec := { name := "storeTorn", fn := fun _ => fun
  | [d1, d2, d3] => { results := [.lit (.bool true)], args := [d1, d2, d3] }
  | _ => none }
def storeTornRow : OpenClaim := { program := "ytohgkmphkgaabaa", sum := "041b2b52abdd208bad7e021a8ae4e5d1625df285a8619255479170ec27152731", func := "keyevent/keyeventlaw43.StoreTorn", spec := "storeTorn", inPlace := ["internal/abi.NoEscape", "internal/bytealg.MakeNoZero"], unfollowed := true, recurses := true, apart := false }
def StoreTornSaid : Prop := storeTornRow.holds Try.pinned (OpenSpec.ofChange storeTornSpec)

/-- ITS FALSE NEIGHBOUR: 'it returns false'. Refute it at one input. -/
def storeTornWrong : ChangeSpec := { name := "storeTorn", fn := fun _ => fun
  | [d1, d2, d3] => { results := [.lit (.bool false)], args := [d1, d2, d3] }
  | _ => none }
def StoreTornWrongFalsely : Prop := storeTornRow.holds Try.pinned (OpenSpec.ofChange storeTornWrong)

/-- 'keyeventlaw21.VaultUses': WHATEVER THE INPUT: true; the input reads as it did. -/
def vaultUsesSpec : ChangeSpec := { name := "vaultUses", fn := fun _ => fun
  | [d1, d2] => { results := [.lit (.bool true)], args := [d1, d2] }
  | _ => none }
def vaultUsesRow : OpenClaim := { program := "ytohgkmphkgaabaa", sum := "041b2b52abdd208bad7e021a8ae4e5d1625df285a8619255479170ec27152731", func := "keyevent/keyeventlaw21.VaultUses", spec := "vaultUses", inPlace := ["internal/abi.NoEscape", "internal/bytealg.MakeNoZero"], unfollowed := true, recurses := true, apart := false }
def VaultUsesSaid : Prop := vaultUsesRow.holds Try.pinned (OpenSpec.ofChange vaultUsesSpec)

/-- ITS FALSE NEIGHBOUR: 'it returns false'. Refute it at one input. -/
def vaultUsesWrong : ChangeSpec := { name := "vaultUses", fn := fun _ => fun
  | [d1, d2] => { results := [.lit (.bool false)], args := [d1, d2] }
  | _ => none }
def VaultUsesWrongFalsely : Prop := vaultUsesRow.holds Try.pinned (OpenSpec.ofChange vaultUsesWrong)

/- THE SECOND FORM. 'bulk': how many values and letters a reading holds, each counted each time it is reached (what is shared counts as often as it is met; a slice's spare places count too). A statement '..UptoSaid' is the law's where the arguments, and the package variables that the reading takes, are together of bulk at most 1048576: NARROWER than '..Said'. Prove '..Said' where nothing that the law and all that it calls make is longer than what came in: it says more and counts as full. Else prove '..UptoSaid'. A law counts once. -/
mutual
def uptoBulk {H : Type} : DataW H → Nat
  | .lit (.string bytes) => bytes.length + 1
  | .lit _ => 1
  | .nil => 1
  | .ptr d => uptoBulk d + 1
  | .slice elems spare => uptoBulkAll elems + uptoBulkAll spare + 1
  | .agg parts => uptoBulkAll parts + 1
  | .iface _ d => uptoBulk d + 1
  | .map entries => uptoBulkEntries entries + 1
  | .held _ => 1
def uptoBulkAll {H : Type} : List (DataW H) → Nat
  | [] => 0
  | d :: r => uptoBulk d + uptoBulkAll r
def uptoBulkEntries {H : Type} : List (Lit × DataW H) → Nat
  | [] => 0
  | x :: r => uptoBulkEntry x + uptoBulkEntries r
def uptoBulkEntry {H : Type} : Lit × DataW H → Nat
  | (.string bytes, d) => bytes.length + uptoBulk d + 1
  | (_, d) => uptoBulk d + 1
 end
def uptoSmall : (H : Type) → List (DataW H) → Bool := fun _ ds => decide (uptoBulkAll ds ≤ 1048576)
def OpenSpec.upto (s : _root_.Go.ChangeSpec) : _root_.Go.OpenSpec := { _root_.Go.OpenSpec.ofChange s with cond := some uptoSmall }

/-- 'keyeventlaw03.PrimitiveSizes', WHERE WHAT IT READS IS OF BULK AT MOST 1048576: true; the input reads as it did. -/
def primitiveSizesUptoRow : OpenClaim := { program := "ytohgkmphkgaabaa", sum := "041b2b52abdd208bad7e021a8ae4e5d1625df285a8619255479170ec27152731", func := "keyevent/keyeventlaw03.PrimitiveSizes", spec := "primitiveSizes", inPlace := ["internal/abi.NoEscape", "internal/bytealg.MakeNoZero"], apart := false, narrowed := true }
def PrimitiveSizesUptoSaid : Prop := primitiveSizesUptoRow.holds Try.pinned (OpenSpec.upto primitiveSizesSpec)

/-- 'keyeventlaw02.HashSums', WHERE WHAT IT READS IS OF BULK AT MOST 1048576: true; the input reads as it did. -/
def hashSumsUptoRow : OpenClaim := { program := "ytohgkmphkgaabaa", sum := "041b2b52abdd208bad7e021a8ae4e5d1625df285a8619255479170ec27152731", func := "keyevent/keyeventlaw02.HashSums", spec := "hashSums", inPlace := ["internal/abi.NoEscape", "internal/bytealg.MakeNoZero"], apart := false, narrowed := true }
def HashSumsUptoSaid : Prop := hashSumsUptoRow.holds Try.pinned (OpenSpec.upto hashSumsSpec)

/-- 'keyeventlaw02.HashPads', WHERE WHAT IT READS IS OF BULK AT MOST 1048576: true; the input reads as it did. -/
def hashPadsUptoRow : OpenClaim := { program := "ytohgkmphkgaabaa", sum := "041b2b52abdd208bad7e021a8ae4e5d1625df285a8619255479170ec27152731", func := "keyevent/keyeventlaw02.HashPads", spec := "hashPads", inPlace := ["internal/abi.NoEscape", "internal/bytealg.MakeNoZero"], apart := false, narrowed := true }
def HashPadsUptoSaid : Prop := hashPadsUptoRow.holds Try.pinned (OpenSpec.upto hashPadsSpec)

/-- 'keyeventlaw02.HashLong', WHERE WHAT IT READS IS OF BULK AT MOST 1048576: true; the input reads as it did. -/
def hashLongUptoRow : OpenClaim := { program := "ytohgkmphkgaabaa", sum := "041b2b52abdd208bad7e021a8ae4e5d1625df285a8619255479170ec27152731", func := "keyevent/keyeventlaw02.HashLong", spec := "hashLong", inPlace := ["internal/abi.NoEscape", "internal/bytealg.MakeNoZero"], apart := false, narrowed := true }
def HashLongUptoSaid : Prop := hashLongUptoRow.holds Try.pinned (OpenSpec.upto hashLongSpec)

/-- 'keyeventlaw02.HashLists', WHERE WHAT IT READS IS OF BULK AT MOST 1048576: true; the input reads as it did. -/
def hashListsUptoRow : OpenClaim := { program := "ytohgkmphkgaabaa", sum := "041b2b52abdd208bad7e021a8ae4e5d1625df285a8619255479170ec27152731", func := "keyevent/keyeventlaw02.HashLists", spec := "hashLists", inPlace := ["internal/abi.NoEscape", "internal/bytealg.MakeNoZero"], apart := false, narrowed := true }
def HashListsUptoSaid : Prop := hashListsUptoRow.holds Try.pinned (OpenSpec.upto hashListsSpec)

/-- 'keyeventlaw11.OnetimeActs', WHERE WHAT IT READS IS OF BULK AT MOST 1048576: true; the input reads as it did. -/
def onetimeActsUptoRow : OpenClaim := { program := "ytohgkmphkgaabaa", sum := "041b2b52abdd208bad7e021a8ae4e5d1625df285a8619255479170ec27152731", func := "keyevent/keyeventlaw11.OnetimeActs", spec := "onetimeActs", inPlace := ["internal/abi.NoEscape", "internal/bytealg.MakeNoZero"], apart := false, narrowed := true }
def OnetimeActsUptoSaid : Prop := onetimeActsUptoRow.holds Try.pinned (OpenSpec.upto onetimeActsSpec)

/-- 'keyeventlaw11.OnetimeForward', WHERE WHAT IT READS IS OF BULK AT MOST 1048576: true; the input reads as it did. -/
def onetimeForwardUptoRow : OpenClaim := { program := "ytohgkmphkgaabaa", sum := "041b2b52abdd208bad7e021a8ae4e5d1625df285a8619255479170ec27152731", func := "keyevent/keyeventlaw11.OnetimeForward", spec := "onetimeForward", inPlace := ["internal/abi.NoEscape", "internal/bytealg.MakeNoZero"], apart := false, narrowed := true }
def OnetimeForwardUptoSaid : Prop := onetimeForwardUptoRow.holds Try.pinned (OpenSpec.upto onetimeForwardSpec)

/-- 'keyeventlaw11.OnetimeChains', WHERE WHAT IT READS IS OF BULK AT MOST 1048576: true; the input reads as it did. -/
def onetimeChainsUptoRow : OpenClaim := { program := "ytohgkmphkgaabaa", sum := "041b2b52abdd208bad7e021a8ae4e5d1625df285a8619255479170ec27152731", func := "keyevent/keyeventlaw11.OnetimeChains", spec := "onetimeChains", inPlace := ["internal/abi.NoEscape", "internal/bytealg.MakeNoZero"], apart := false, narrowed := true }
def OnetimeChainsUptoSaid : Prop := onetimeChainsUptoRow.holds Try.pinned (OpenSpec.upto onetimeChainsSpec)

/-- 'keyeventlaw43.StoreCrash', WHERE WHAT IT READS IS OF BULK AT MOST 1048576: true; the input reads as it did. -/
def storeCrashUptoRow : OpenClaim := { program := "ytohgkmphkgaabaa", sum := "041b2b52abdd208bad7e021a8ae4e5d1625df285a8619255479170ec27152731", func := "keyevent/keyeventlaw43.StoreCrash", spec := "storeCrash", inPlace := ["internal/abi.NoEscape", "internal/bytealg.MakeNoZero"], unfollowed := true, recurses := true, apart := false, narrowed := true }
def StoreCrashUptoSaid : Prop := storeCrashUptoRow.holds Try.pinned (OpenSpec.upto storeCrashSpec)

/-- 'keyeventlaw43.StoreTorn', WHERE WHAT IT READS IS OF BULK AT MOST 1048576: true; the input reads as it did. -/
def storeTornUptoRow : OpenClaim := { program := "ytohgkmphkgaabaa", sum := "041b2b52abdd208bad7e021a8ae4e5d1625df285a8619255479170ec27152731", func := "keyevent/keyeventlaw43.StoreTorn", spec := "storeTorn", inPlace := ["internal/abi.NoEscape", "internal/bytealg.MakeNoZero"], unfollowed := true, recurses := true, apart := false, narrowed := true }
def StoreTornUptoSaid : Prop := storeTornUptoRow.holds Try.pinned (OpenSpec.upto storeTornSpec)

/-- 'keyeventlaw21.VaultUses', WHERE WHAT IT READS IS OF BULK AT MOST 1048576: true; the input reads as it did. -/
def vaultUsesUptoRow : OpenClaim := { program := "ytohgkmphkgaabaa", sum := "041b2b52abdd208bad7e021a8ae4e5d1625df285a8619255479170ec27152731", func := "keyevent/keyeventlaw21.VaultUses", spec := "vaultUses", inPlace := ["internal/abi.NoEscape", "internal/bytealg.MakeNoZero"], unfollowed := true, recurses := true, apart := false, narrowed := true }
def VaultUsesUptoSaid : Prop := vaultUsesUptoRow.holds Try.pinned (OpenSpec.upto vaultUsesSpec)

end Rows
end Go.Proofs.Ytohgkmphkgaabaa
