/-
  NARROWER THAN 'FOR EVERY INPUT', by the rows' own cells (each row's printed sentence says how): NodeDeep: laid · NodePuts: laid · NodeTexts: laid · CborWrites: loops, laid · CborHeads: laid · CborReads: laid · CborBack: laid · CborOnce: laid · PackWrites: loops, laid · PackReads: laid · PackBack: laid · PackOnce: laid.
  DERIVED. THE GIVEN ROWS OF THIS SEAT. 12 by the template 'for every input the law returns true; each argument reads behind the call as it read before'; 0 by the template 'total and deterministic' (their statements: YtjhhjkkacbcmjaaDoorTotals.lean).
  GIVEN WITH THE SEED: the statements are not yours to turn. If you find one false, say at which input.
  Laid BY PROGRAM, IN A SANDBOX (cutbox-rows.mjs): the forced cells as the released guide's own fill.sh prints them over the translation 1e58f0d90e17fa91… (all of the seat's roots in one cut). By AI agents, Wed Nov 11 2026. No macro, syntax, notation, axiom, sorry.
-/
import Derived.Test.YtjhhjkkacbcmjaaDoorChecked
import GoSem.PinnedTables
import GoSem.Claim
import GoSem.ClaimJoined
import GoSem.ClaimMapViews
import Derived.JoinedTies
import Derived.KernelRfl
namespace Go.Proofs.YtjhhjkkacbcmjaaDoor
/- THE CELL 'sum', in the pinned program and in every row, IS THE sha256 OF THE DUMP (.gsa) THAT YtjhhjkkacbcmjaaDoorProg.lean LOADS. Nothing in Lean hashes anything: it is a label: what it is worth is what the hold of that sum in a sandbox is worth. -/
noncomputable def Tryd.pinned : Pinned := { name := "ytjhhjkkacbcmjaadoor", sum := "1e58f0d90e17fa91cf417531c3d350ea11c20ae03f57a8f7e9b70263053b6ae7", checked := Tryd.checked }
namespace Rows
def none {H : Type} : Left H := { results := [], args := [] }

/- WHAT THE LISTED PACKAGE-LEVEL VARIABLES READ AS WHEN THE CALL BEGINS. Each datum BY PROGRAM (the guide's laid-datum.mjs) off the statement by which the dump's own 'gosem.cut.vars' lays the variable. In a bare row this is a premise. The card (YtjhhjkkacbcmjaaDoorCards.lean) ties it to the program's text. -/
def laid_unicode_utf8_acceptRanges {H : Type} : DataW H := .agg [.agg [.lit (.int .u8 128), .lit (.int .u8 191)], .agg [.lit (.int .u8 160), .lit (.int .u8 191)], .agg [.lit (.int .u8 128), .lit (.int .u8 159)], .agg [.lit (.int .u8 144), .lit (.int .u8 191)], .agg [.lit (.int .u8 128), .lit (.int .u8 143)], .agg [.lit (.int .u8 0), .lit (.int .u8 0)], .agg [.lit (.int .u8 0), .lit (.int .u8 0)], .agg [.lit (.int .u8 0), .lit (.int .u8 0)], .agg [.lit (.int .u8 0), .lit (.int .u8 0)], .agg [.lit (.int .u8 0), .lit (.int .u8 0)], .agg [.lit (.int .u8 0), .lit (.int .u8 0)], .agg [.lit (.int .u8 0), .lit (.int .u8 0)], .agg [.lit (.int .u8 0), .lit (.int .u8 0)], .agg [.lit (.int .u8 0), .lit (.int .u8 0)], .agg [.lit (.int .u8 0), .lit (.int .u8 0)], .agg [.lit (.int .u8 0), .lit (.int .u8 0)]]
/-- One of Go's own tables, pinned by name: the form's constant. -/
def laid_unicode_utf8_first : DataW Unit := Go.Pinned.utf8First

/-- 'keyeventlaw05.NodeDeep': WHATEVER THE INPUT: true; the input reads as it did. -/
def nodeDeepSpec : ChangeSpec := { name := "nodeDeep", fn := fun _ => fun
  | [d1, d2] => { results := [.lit (.bool true)], args := [d1, d2] }
  | _ => none }
def nodeDeepRow : OpenClaim := { program := "ytjhhjkkacbcmjaadoor", sum := "1e58f0d90e17fa91cf417531c3d350ea11c20ae03f57a8f7e9b70263053b6ae7", func := "keyevent/keyeventlaw05.NodeDeep", spec := "nodeDeep", unfollowed := true, recurses := true, named := ["unicode/utf8.first", "unicode/utf8.acceptRanges"], apart := false, laid := [("unicode/utf8.acceptRanges", laid_unicode_utf8_acceptRanges), ("unicode/utf8.first", laid_unicode_utf8_first)] }
def NodeDeepSaid : Prop := nodeDeepRow.holds Tryd.pinned (OpenSpec.ofChange nodeDeepSpec)

/-- ITS FALSE NEIGHBOUR: 'it returns false'. Refute it at one input. -/
def nodeDeepWrong : ChangeSpec := { name := "nodeDeep", fn := fun _ => fun
  | [d1, d2] => { results := [.lit (.bool false)], args := [d1, d2] }
  | _ => none }
def NodeDeepWrongFalsely : Prop := nodeDeepRow.holds Tryd.pinned (OpenSpec.ofChange nodeDeepWrong)

/-- 'keyeventlaw05.NodePuts': WHATEVER THE INPUT: true; the input reads as it did. -/
def nodePutsSpec : ChangeSpec := { name := "nodePuts", fn := fun _ => fun
  | [d] => { results := [.lit (.bool true)], args := [d] }
  | _ => none }
def nodePutsRow : OpenClaim := { program := "ytjhhjkkacbcmjaadoor", sum := "1e58f0d90e17fa91cf417531c3d350ea11c20ae03f57a8f7e9b70263053b6ae7", func := "keyevent/keyeventlaw05.NodePuts", spec := "nodePuts", unfollowed := true, recurses := true, named := ["unicode/utf8.first", "unicode/utf8.acceptRanges"], apart := false, laid := [("unicode/utf8.acceptRanges", laid_unicode_utf8_acceptRanges), ("unicode/utf8.first", laid_unicode_utf8_first)] }
def NodePutsSaid : Prop := nodePutsRow.holds Tryd.pinned (OpenSpec.ofChange nodePutsSpec)

/-- ITS FALSE NEIGHBOUR: 'it returns false'. Refute it at one input. -/
def nodePutsWrong : ChangeSpec := { name := "nodePuts", fn := fun _ => fun
  | [d] => { results := [.lit (.bool false)], args := [d] }
  | _ => none }
def NodePutsWrongFalsely : Prop := nodePutsRow.holds Tryd.pinned (OpenSpec.ofChange nodePutsWrong)

/-- 'keyeventlaw05.NodeTexts': WHATEVER THE INPUT: true; the input reads as it did. -/
def nodeTextsSpec : ChangeSpec := { name := "nodeTexts", fn := fun _ => fun
  | [d1, d2, d3] => { results := [.lit (.bool true)], args := [d1, d2, d3] }
  | _ => none }
def nodeTextsRow : OpenClaim := { program := "ytjhhjkkacbcmjaadoor", sum := "1e58f0d90e17fa91cf417531c3d350ea11c20ae03f57a8f7e9b70263053b6ae7", func := "keyevent/keyeventlaw05.NodeTexts", spec := "nodeTexts", unfollowed := true, recurses := true, named := ["unicode/utf8.first", "unicode/utf8.acceptRanges"], apart := false, laid := [("unicode/utf8.acceptRanges", laid_unicode_utf8_acceptRanges), ("unicode/utf8.first", laid_unicode_utf8_first)] }
def NodeTextsSaid : Prop := nodeTextsRow.holds Tryd.pinned (OpenSpec.ofChange nodeTextsSpec)

/-- ITS FALSE NEIGHBOUR: 'it returns false'. Refute it at one input. -/
def nodeTextsWrong : ChangeSpec := { name := "nodeTexts", fn := fun _ => fun
  | [d1, d2, d3] => { results := [.lit (.bool false)], args := [d1, d2, d3] }
  | _ => none }
def NodeTextsWrongFalsely : Prop := nodeTextsRow.holds Tryd.pinned (OpenSpec.ofChange nodeTextsWrong)

/-- 'keyeventlaw07.CborWrites': WHATEVER THE INPUT: true; the input reads as it did. -/
def cborWritesSpec : ChangeSpec := { name := "cborWrites", fn := fun _ => fun
  | [d1, d2] => { results := [.lit (.bool true)], args := [d1, d2] }
  | _ => none }
def cborWritesRow : OpenClaim := { program := "ytjhhjkkacbcmjaadoor", sum := "1e58f0d90e17fa91cf417531c3d350ea11c20ae03f57a8f7e9b70263053b6ae7", func := "keyevent/keyeventlaw07.CborWrites", spec := "cborWrites", unfollowed := true, recurses := true, named := ["unicode/utf8.first", "unicode/utf8.acceptRanges"], loops := true, apart := false, laid := [("unicode/utf8.acceptRanges", laid_unicode_utf8_acceptRanges), ("unicode/utf8.first", laid_unicode_utf8_first)] }
def CborWritesSaid : Prop := cborWritesRow.holds Tryd.pinned (OpenSpec.ofChange cborWritesSpec)

/-- ITS FALSE NEIGHBOUR: 'it returns false'. Refute it at one input. -/
def cborWritesWrong : ChangeSpec := { name := "cborWrites", fn := fun _ => fun
  | [d1, d2] => { results := [.lit (.bool false)], args := [d1, d2] }
  | _ => none }
def CborWritesWrongFalsely : Prop := cborWritesRow.holds Tryd.pinned (OpenSpec.ofChange cborWritesWrong)

/-- 'keyeventlaw07.CborHeads': WHATEVER THE INPUT: true; the input reads as it did. -/
def cborHeadsSpec : ChangeSpec := { name := "cborHeads", fn := fun _ => fun
  | [d1, d2, d3] => { results := [.lit (.bool true)], args := [d1, d2, d3] }
  | _ => none }
def cborHeadsRow : OpenClaim := { program := "ytjhhjkkacbcmjaadoor", sum := "1e58f0d90e17fa91cf417531c3d350ea11c20ae03f57a8f7e9b70263053b6ae7", func := "keyevent/keyeventlaw07.CborHeads", spec := "cborHeads", unfollowed := true, recurses := true, named := ["unicode/utf8.first", "unicode/utf8.acceptRanges"], apart := false, laid := [("unicode/utf8.acceptRanges", laid_unicode_utf8_acceptRanges), ("unicode/utf8.first", laid_unicode_utf8_first)] }
def CborHeadsSaid : Prop := cborHeadsRow.holds Tryd.pinned (OpenSpec.ofChange cborHeadsSpec)

/-- ITS FALSE NEIGHBOUR: 'it returns false'. Refute it at one input. -/
def cborHeadsWrong : ChangeSpec := { name := "cborHeads", fn := fun _ => fun
  | [d1, d2, d3] => { results := [.lit (.bool false)], args := [d1, d2, d3] }
  | _ => none }
def CborHeadsWrongFalsely : Prop := cborHeadsRow.holds Tryd.pinned (OpenSpec.ofChange cborHeadsWrong)

/-- 'keyeventlaw07.CborReads': WHATEVER THE INPUT: true; the input reads as it did. -/
def cborReadsSpec : ChangeSpec := { name := "cborReads", fn := fun _ => fun
  | [d1, d2, d3, d4] => { results := [.lit (.bool true)], args := [d1, d2, d3, d4] }
  | _ => none }
def cborReadsRow : OpenClaim := { program := "ytjhhjkkacbcmjaadoor", sum := "1e58f0d90e17fa91cf417531c3d350ea11c20ae03f57a8f7e9b70263053b6ae7", func := "keyevent/keyeventlaw07.CborReads", spec := "cborReads", unfollowed := true, recurses := true, named := ["unicode/utf8.first", "unicode/utf8.acceptRanges"], apart := false, laid := [("unicode/utf8.acceptRanges", laid_unicode_utf8_acceptRanges), ("unicode/utf8.first", laid_unicode_utf8_first)] }
def CborReadsSaid : Prop := cborReadsRow.holds Tryd.pinned (OpenSpec.ofChange cborReadsSpec)

/-- ITS FALSE NEIGHBOUR: 'it returns false'. Refute it at one input. -/
def cborReadsWrong : ChangeSpec := { name := "cborReads", fn := fun _ => fun
  | [d1, d2, d3, d4] => { results := [.lit (.bool false)], args := [d1, d2, d3, d4] }
  | _ => none }
def CborReadsWrongFalsely : Prop := cborReadsRow.holds Tryd.pinned (OpenSpec.ofChange cborReadsWrong)

/-- 'keyeventlaw07.CborBack': WHATEVER THE INPUT: true; the input reads as it did. -/
def cborBackSpec : ChangeSpec := { name := "cborBack", fn := fun _ => fun
  | [d] => { results := [.lit (.bool true)], args := [d] }
  | _ => none }
def cborBackRow : OpenClaim := { program := "ytjhhjkkacbcmjaadoor", sum := "1e58f0d90e17fa91cf417531c3d350ea11c20ae03f57a8f7e9b70263053b6ae7", func := "keyevent/keyeventlaw07.CborBack", spec := "cborBack", unfollowed := true, recurses := true, named := ["unicode/utf8.first", "unicode/utf8.acceptRanges"], apart := false, laid := [("unicode/utf8.acceptRanges", laid_unicode_utf8_acceptRanges), ("unicode/utf8.first", laid_unicode_utf8_first)] }
def CborBackSaid : Prop := cborBackRow.holds Tryd.pinned (OpenSpec.ofChange cborBackSpec)

/-- ITS FALSE NEIGHBOUR: 'it returns false'. Refute it at one input. -/
def cborBackWrong : ChangeSpec := { name := "cborBack", fn := fun _ => fun
  | [d] => { results := [.lit (.bool false)], args := [d] }
  | _ => none }
def CborBackWrongFalsely : Prop := cborBackRow.holds Tryd.pinned (OpenSpec.ofChange cborBackWrong)

/-- 'keyeventlaw07.CborOnce': WHATEVER THE INPUT: true; the input reads as it did. -/
def cborOnceSpec : ChangeSpec := { name := "cborOnce", fn := fun _ => fun
  | [d1, d2, d3, d4] => { results := [.lit (.bool true)], args := [d1, d2, d3, d4] }
  | _ => none }
def cborOnceRow : OpenClaim := { program := "ytjhhjkkacbcmjaadoor", sum := "1e58f0d90e17fa91cf417531c3d350ea11c20ae03f57a8f7e9b70263053b6ae7", func := "keyevent/keyeventlaw07.CborOnce", spec := "cborOnce", unfollowed := true, recurses := true, named := ["unicode/utf8.first", "unicode/utf8.acceptRanges"], apart := false, laid := [("unicode/utf8.acceptRanges", laid_unicode_utf8_acceptRanges), ("unicode/utf8.first", laid_unicode_utf8_first)] }
def CborOnceSaid : Prop := cborOnceRow.holds Tryd.pinned (OpenSpec.ofChange cborOnceSpec)

/-- ITS FALSE NEIGHBOUR: 'it returns false'. Refute it at one input. -/
def cborOnceWrong : ChangeSpec := { name := "cborOnce", fn := fun _ => fun
  | [d1, d2, d3, d4] => { results := [.lit (.bool false)], args := [d1, d2, d3, d4] }
  | _ => none }
def CborOnceWrongFalsely : Prop := cborOnceRow.holds Tryd.pinned (OpenSpec.ofChange cborOnceWrong)

/-- 'keyeventlaw08.PackWrites': WHATEVER THE INPUT: true; the input reads as it did. -/
def packWritesSpec : ChangeSpec := { name := "packWrites", fn := fun _ => fun
  | [d1, d2] => { results := [.lit (.bool true)], args := [d1, d2] }
  | _ => none }
def packWritesRow : OpenClaim := { program := "ytjhhjkkacbcmjaadoor", sum := "1e58f0d90e17fa91cf417531c3d350ea11c20ae03f57a8f7e9b70263053b6ae7", func := "keyevent/keyeventlaw08.PackWrites", spec := "packWrites", unfollowed := true, recurses := true, named := ["unicode/utf8.first", "unicode/utf8.acceptRanges"], loops := true, apart := false, laid := [("unicode/utf8.acceptRanges", laid_unicode_utf8_acceptRanges), ("unicode/utf8.first", laid_unicode_utf8_first)] }
def PackWritesSaid : Prop := packWritesRow.holds Tryd.pinned (OpenSpec.ofChange packWritesSpec)

/-- ITS FALSE NEIGHBOUR: 'it returns false'. Refute it at one input. -/
def packWritesWrong : ChangeSpec := { name := "packWrites", fn := fun _ => fun
  | [d1, d2] => { results := [.lit (.bool false)], args := [d1, d2] }
  | _ => none }
def PackWritesWrongFalsely : Prop := packWritesRow.holds Tryd.pinned (OpenSpec.ofChange packWritesWrong)

/-- 'keyeventlaw08.PackReads': WHATEVER THE INPUT: true; the input reads as it did. -/
def packReadsSpec : ChangeSpec := { name := "packReads", fn := fun _ => fun
  | [d1, d2, d3, d4] => { results := [.lit (.bool true)], args := [d1, d2, d3, d4] }
  | _ => none }
def packReadsRow : OpenClaim := { program := "ytjhhjkkacbcmjaadoor", sum := "1e58f0d90e17fa91cf417531c3d350ea11c20ae03f57a8f7e9b70263053b6ae7", func := "keyevent/keyeventlaw08.PackReads", spec := "packReads", unfollowed := true, recurses := true, named := ["unicode/utf8.first", "unicode/utf8.acceptRanges"], apart := false, laid := [("unicode/utf8.acceptRanges", laid_unicode_utf8_acceptRanges), ("unicode/utf8.first", laid_unicode_utf8_first)] }
def PackReadsSaid : Prop := packReadsRow.holds Tryd.pinned (OpenSpec.ofChange packReadsSpec)

/-- ITS FALSE NEIGHBOUR: 'it returns false'. Refute it at one input. -/
def packReadsWrong : ChangeSpec := { name := "packReads", fn := fun _ => fun
  | [d1, d2, d3, d4] => { results := [.lit (.bool false)], args := [d1, d2, d3, d4] }
  | _ => none }
def PackReadsWrongFalsely : Prop := packReadsRow.holds Tryd.pinned (OpenSpec.ofChange packReadsWrong)

/-- 'keyeventlaw08.PackBack': WHATEVER THE INPUT: true; the input reads as it did. -/
def packBackSpec : ChangeSpec := { name := "packBack", fn := fun _ => fun
  | [d] => { results := [.lit (.bool true)], args := [d] }
  | _ => none }
def packBackRow : OpenClaim := { program := "ytjhhjkkacbcmjaadoor", sum := "1e58f0d90e17fa91cf417531c3d350ea11c20ae03f57a8f7e9b70263053b6ae7", func := "keyevent/keyeventlaw08.PackBack", spec := "packBack", unfollowed := true, recurses := true, named := ["unicode/utf8.first", "unicode/utf8.acceptRanges"], apart := false, laid := [("unicode/utf8.acceptRanges", laid_unicode_utf8_acceptRanges), ("unicode/utf8.first", laid_unicode_utf8_first)] }
def PackBackSaid : Prop := packBackRow.holds Tryd.pinned (OpenSpec.ofChange packBackSpec)

/-- ITS FALSE NEIGHBOUR: 'it returns false'. Refute it at one input. -/
def packBackWrong : ChangeSpec := { name := "packBack", fn := fun _ => fun
  | [d] => { results := [.lit (.bool false)], args := [d] }
  | _ => none }
def PackBackWrongFalsely : Prop := packBackRow.holds Tryd.pinned (OpenSpec.ofChange packBackWrong)

/-- 'keyeventlaw08.PackOnce': WHATEVER THE INPUT: true; the input reads as it did. -/
def packOnceSpec : ChangeSpec := { name := "packOnce", fn := fun _ => fun
  | [d1, d2, d3, d4] => { results := [.lit (.bool true)], args := [d1, d2, d3, d4] }
  | _ => none }
def packOnceRow : OpenClaim := { program := "ytjhhjkkacbcmjaadoor", sum := "1e58f0d90e17fa91cf417531c3d350ea11c20ae03f57a8f7e9b70263053b6ae7", func := "keyevent/keyeventlaw08.PackOnce", spec := "packOnce", unfollowed := true, recurses := true, named := ["unicode/utf8.first", "unicode/utf8.acceptRanges"], apart := false, laid := [("unicode/utf8.acceptRanges", laid_unicode_utf8_acceptRanges), ("unicode/utf8.first", laid_unicode_utf8_first)] }
def PackOnceSaid : Prop := packOnceRow.holds Tryd.pinned (OpenSpec.ofChange packOnceSpec)

/-- ITS FALSE NEIGHBOUR: 'it returns false'. Refute it at one input. -/
def packOnceWrong : ChangeSpec := { name := "packOnce", fn := fun _ => fun
  | [d1, d2, d3, d4] => { results := [.lit (.bool false)], args := [d1, d2, d3, d4] }
  | _ => none }
def PackOnceWrongFalsely : Prop := packOnceRow.holds Tryd.pinned (OpenSpec.ofChange packOnceWrong)

/- THE SECOND FORM. 'bulk': how many values and letters a reading holds, each counted each time it is reached (what is shared counts as often as it is met; a slice's spare places count too). A statement '..UptoSaid' is the law's where the arguments, and the package variables that the reading takes, are together of bulk at most 1048576: NARROWER than '..Said'. Prove '..Said' where nothing that the law and all that it calls make is longer than what came in: it says more and counts as full. Else prove '..UptoSaid'. A law counts once. -/
mutual
def uptoBulk {H : Type} : DataW H → Nat
  | .lit (.string bytes) => bytes.length + 1
  | .lit _ => 1
  | .nil => 1
  | .ptr d => uptoBulk d + 1
  | .slice elems spare => uptoBulkAll elems + uptoBulkAll spare + 1
  | .agg parts => uptoBulkAll parts + 1
  | .iface _ d => uptoBulk d + 1
  | .map entries => uptoBulkEntries entries + 1
  | .held _ => 1
def uptoBulkAll {H : Type} : List (DataW H) → Nat
  | [] => 0
  | d :: r => uptoBulk d + uptoBulkAll r
def uptoBulkEntries {H : Type} : List (Lit × DataW H) → Nat
  | [] => 0
  | x :: r => uptoBulkEntry x + uptoBulkEntries r
def uptoBulkEntry {H : Type} : Lit × DataW H → Nat
  | (.string bytes, d) => bytes.length + uptoBulk d + 1
  | (_, d) => uptoBulk d + 1
 end
def uptoSmall : (H : Type) → List (DataW H) → Bool := fun _ ds => decide (uptoBulkAll ds ≤ 1048576)
def OpenSpec.upto (s : _root_.Go.ChangeSpec) : _root_.Go.OpenSpec := { _root_.Go.OpenSpec.ofChange s with cond := some uptoSmall }

/-- 'keyeventlaw05.NodeDeep', WHERE WHAT IT READS IS OF BULK AT MOST 1048576: true; the input reads as it did. -/
def nodeDeepUptoRow : OpenClaim := { program := "ytjhhjkkacbcmjaadoor", sum := "1e58f0d90e17fa91cf417531c3d350ea11c20ae03f57a8f7e9b70263053b6ae7", func := "keyevent/keyeventlaw05.NodeDeep", spec := "nodeDeep", unfollowed := true, recurses := true, named := ["unicode/utf8.first", "unicode/utf8.acceptRanges"], apart := false, laid := [("unicode/utf8.acceptRanges", laid_unicode_utf8_acceptRanges), ("unicode/utf8.first", laid_unicode_utf8_first)], narrowed := true }
def NodeDeepUptoSaid : Prop := nodeDeepUptoRow.holds Tryd.pinned (OpenSpec.upto nodeDeepSpec)

/-- 'keyeventlaw05.NodePuts', WHERE WHAT IT READS IS OF BULK AT MOST 1048576: true; the input reads as it did. -/
def nodePutsUptoRow : OpenClaim := { program := "ytjhhjkkacbcmjaadoor", sum := "1e58f0d90e17fa91cf417531c3d350ea11c20ae03f57a8f7e9b70263053b6ae7", func := "keyevent/keyeventlaw05.NodePuts", spec := "nodePuts", unfollowed := true, recurses := true, named := ["unicode/utf8.first", "unicode/utf8.acceptRanges"], apart := false, laid := [("unicode/utf8.acceptRanges", laid_unicode_utf8_acceptRanges), ("unicode/utf8.first", laid_unicode_utf8_first)], narrowed := true }
def NodePutsUptoSaid : Prop := nodePutsUptoRow.holds Tryd.pinned (OpenSpec.upto nodePutsSpec)

/-- 'keyeventlaw05.NodeTexts', WHERE WHAT IT READS IS OF BULK AT MOST 1048576: true; the input reads as it did. -/
def nodeTextsUptoRow : OpenClaim := { program := "ytjhhjkkacbcmjaadoor", sum := "1e58f0d90e17fa91cf417531c3d350ea11c20ae03f57a8f7e9b70263053b6ae7", func := "keyevent/keyeventlaw05.NodeTexts", spec := "nodeTexts", unfollowed := true, recurses := true, named := ["unicode/utf8.first", "unicode/utf8.acceptRanges"], apart := false, laid := [("unicode/utf8.acceptRanges", laid_unicode_utf8_acceptRanges), ("unicode/utf8.first", laid_unicode_utf8_first)], narrowed := true }
def NodeTextsUptoSaid : Prop := nodeTextsUptoRow.holds Tryd.pinned (OpenSpec.upto nodeTextsSpec)

/-- 'keyeventlaw07.CborWrites', WHERE WHAT IT READS IS OF BULK AT MOST 1048576: true; the input reads as it did. -/
def cborWritesUptoRow : OpenClaim := { program := "ytjhhjkkacbcmjaadoor", sum := "1e58f0d90e17fa91cf417531c3d350ea11c20ae03f57a8f7e9b70263053b6ae7", func := "keyevent/keyeventlaw07.CborWrites", spec := "cborWrites", unfollowed := true, recurses := true, named := ["unicode/utf8.first", "unicode/utf8.acceptRanges"], loops := true, apart := false, laid := [("unicode/utf8.acceptRanges", laid_unicode_utf8_acceptRanges), ("unicode/utf8.first", laid_unicode_utf8_first)], narrowed := true }
def CborWritesUptoSaid : Prop := cborWritesUptoRow.holds Tryd.pinned (OpenSpec.upto cborWritesSpec)

/-- 'keyeventlaw07.CborHeads', WHERE WHAT IT READS IS OF BULK AT MOST 1048576: true; the input reads as it did. -/
def cborHeadsUptoRow : OpenClaim := { program := "ytjhhjkkacbcmjaadoor", sum := "1e58f0d90e17fa91cf417531c3d350ea11c20ae03f57a8f7e9b70263053b6ae7", func := "keyevent/keyeventlaw07.CborHeads", spec := "cborHeads", unfollowed := true, recurses := true, named := ["unicode/utf8.first", "unicode/utf8.acceptRanges"], apart := false, laid := [("unicode/utf8.acceptRanges", laid_unicode_utf8_acceptRanges), ("unicode/utf8.first", laid_unicode_utf8_first)], narrowed := true }
def CborHeadsUptoSaid : Prop := cborHeadsUptoRow.holds Tryd.pinned (OpenSpec.upto cborHeadsSpec)

/-- 'keyeventlaw07.CborReads', WHERE WHAT IT READS IS OF BULK AT MOST 1048576: true; the input reads as it did. -/
def cborReadsUptoRow : OpenClaim := { program := "ytjhhjkkacbcmjaadoor", sum := "1e58f0d90e17fa91cf417531c3d350ea11c20ae03f57a8f7e9b70263053b6ae7", func := "keyevent/keyeventlaw07.CborReads", spec := "cborReads", unfollowed := true, recurses := true, named := ["unicode/utf8.first", "unicode/utf8.acceptRanges"], apart := false, laid := [("unicode/utf8.acceptRanges", laid_unicode_utf8_acceptRanges), ("unicode/utf8.first", laid_unicode_utf8_first)], narrowed := true }
def CborReadsUptoSaid : Prop := cborReadsUptoRow.holds Tryd.pinned (OpenSpec.upto cborReadsSpec)

/-- 'keyeventlaw07.CborBack', WHERE WHAT IT READS IS OF BULK AT MOST 1048576: true; the input reads as it did. -/
def cborBackUptoRow : OpenClaim := { program := "ytjhhjkkacbcmjaadoor", sum := "1e58f0d90e17fa91cf417531c3d350ea11c20ae03f57a8f7e9b70263053b6ae7", func := "keyevent/keyeventlaw07.CborBack", spec := "cborBack", unfollowed := true, recurses := true, named := ["unicode/utf8.first", "unicode/utf8.acceptRanges"], apart := false, laid := [("unicode/utf8.acceptRanges", laid_unicode_utf8_acceptRanges), ("unicode/utf8.first", laid_unicode_utf8_first)], narrowed := true }
def CborBackUptoSaid : Prop := cborBackUptoRow.holds Tryd.pinned (OpenSpec.upto cborBackSpec)

/-- 'keyeventlaw07.CborOnce', WHERE WHAT IT READS IS OF BULK AT MOST 1048576: true; the input reads as it did. -/
def cborOnceUptoRow : OpenClaim := { program := "ytjhhjkkacbcmjaadoor", sum := "1e58f0d90e17fa91cf417531c3d350ea11c20ae03f57a8f7e9b70263053b6ae7", func := "keyevent/keyeventlaw07.CborOnce", spec := "cborOnce", unfollowed := true, recurses := true, named := ["unicode/utf8.first", "unicode/utf8.acceptRanges"], apart := false, laid := [("unicode/utf8.acceptRanges", laid_unicode_utf8_acceptRanges), ("unicode/utf8.first", laid_unicode_utf8_first)], narrowed := true }
def CborOnceUptoSaid : Prop := cborOnceUptoRow.holds Tryd.pinned (OpenSpec.upto cborOnceSpec)

/-- 'keyeventlaw08.PackWrites', WHERE WHAT IT READS IS OF BULK AT MOST 1048576: true; the input reads as it did. -/
def packWritesUptoRow : OpenClaim := { program := "ytjhhjkkacbcmjaadoor", sum := "1e58f0d90e17fa91cf417531c3d350ea11c20ae03f57a8f7e9b70263053b6ae7", func := "keyevent/keyeventlaw08.PackWrites", spec := "packWrites", unfollowed := true, recurses := true, named := ["unicode/utf8.first", "unicode/utf8.acceptRanges"], loops := true, apart := false, laid := [("unicode/utf8.acceptRanges", laid_unicode_utf8_acceptRanges), ("unicode/utf8.first", laid_unicode_utf8_first)], narrowed := true }
def PackWritesUptoSaid : Prop := packWritesUptoRow.holds Tryd.pinned (OpenSpec.upto packWritesSpec)

/-- 'keyeventlaw08.PackReads', WHERE WHAT IT READS IS OF BULK AT MOST 1048576: true; the input reads as it did. -/
def packReadsUptoRow : OpenClaim := { program := "ytjhhjkkacbcmjaadoor", sum := "1e58f0d90e17fa91cf417531c3d350ea11c20ae03f57a8f7e9b70263053b6ae7", func := "keyevent/keyeventlaw08.PackReads", spec := "packReads", unfollowed := true, recurses := true, named := ["unicode/utf8.first", "unicode/utf8.acceptRanges"], apart := false, laid := [("unicode/utf8.acceptRanges", laid_unicode_utf8_acceptRanges), ("unicode/utf8.first", laid_unicode_utf8_first)], narrowed := true }
def PackReadsUptoSaid : Prop := packReadsUptoRow.holds Tryd.pinned (OpenSpec.upto packReadsSpec)

/-- 'keyeventlaw08.PackBack', WHERE WHAT IT READS IS OF BULK AT MOST 1048576: true; the input reads as it did. -/
def packBackUptoRow : OpenClaim := { program := "ytjhhjkkacbcmjaadoor", sum := "1e58f0d90e17fa91cf417531c3d350ea11c20ae03f57a8f7e9b70263053b6ae7", func := "keyevent/keyeventlaw08.PackBack", spec := "packBack", unfollowed := true, recurses := true, named := ["unicode/utf8.first", "unicode/utf8.acceptRanges"], apart := false, laid := [("unicode/utf8.acceptRanges", laid_unicode_utf8_acceptRanges), ("unicode/utf8.first", laid_unicode_utf8_first)], narrowed := true }
def PackBackUptoSaid : Prop := packBackUptoRow.holds Tryd.pinned (OpenSpec.upto packBackSpec)

/-- 'keyeventlaw08.PackOnce', WHERE WHAT IT READS IS OF BULK AT MOST 1048576: true; the input reads as it did. -/
def packOnceUptoRow : OpenClaim := { program := "ytjhhjkkacbcmjaadoor", sum := "1e58f0d90e17fa91cf417531c3d350ea11c20ae03f57a8f7e9b70263053b6ae7", func := "keyevent/keyeventlaw08.PackOnce", spec := "packOnce", unfollowed := true, recurses := true, named := ["unicode/utf8.first", "unicode/utf8.acceptRanges"], apart := false, laid := [("unicode/utf8.acceptRanges", laid_unicode_utf8_acceptRanges), ("unicode/utf8.first", laid_unicode_utf8_first)], narrowed := true }
def PackOnceUptoSaid : Prop := packOnceUptoRow.holds Tryd.pinned (OpenSpec.upto packOnceSpec)

end Rows
end Go.Proofs.YtjhhjkkacbcmjaaDoor
