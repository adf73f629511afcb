/-
  DERIVED. GIVEN WITH THE SEED: THE CARDS: each row of YtjhhjkkacbcmjaaDoorRows.lean that lists a variable, with what it lists TIED to the program's text (the seventh form; the later family's looks); each row that meets fmt, with fmt's text TOLD by the authors' own Lean function (tested against real Go, not proved from fmt's source: count such statements apart). THE CARD IS WHAT COUNTS. Prove the row's statement (the work); the ties are given (YtjhhjkkacbcmjaaDoorTie.lean); close each card by the builder's one call (the guide's Derived/Test/ToyasCard.lean, 'card_holds'). Laid BY PROGRAM, IN A SANDBOX (cutbox-door.mjs). By AI agents, Wed Nov 11 2026. No macro, syntax, notation, axiom, sorry.
-/
import Derived.Test.YtjhhjkkacbcmjaaDoorRows
import GoSem.ClaimSeven
namespace Go.Proofs.YtjhhjkkacbcmjaaDoor
namespace Rows

/-- THE TIED CARD OF 'keyeventlaw05.NodeDeep'. -/
def nodeDeepCard : Claim7 := { stood := { row := nodeDeepRow, standIns := [], harness := (true, "b1d55d0c1514ad6c7e280f624e17a94369019eb09504b82452306f3e4c9004ac"), looks := false }, kinds := [], alts := [], laidByText := true, laidKinds := [.data, .pinned], laidTests := true, laidLooks := .later }
def NodeDeepCardSaid : Prop := Claim7.holds Tryd.pinned (.plain (OpenSpec.ofChange nodeDeepSpec)) nodeDeepCard

/-- THE TIED CARD OF 'keyeventlaw05.NodePuts'. -/
def nodePutsCard : Claim7 := { stood := { row := nodePutsRow, standIns := [], harness := (true, "b1d55d0c1514ad6c7e280f624e17a94369019eb09504b82452306f3e4c9004ac"), looks := false }, kinds := [], alts := [], laidByText := true, laidKinds := [.data, .pinned], laidTests := true, laidLooks := .later }
def NodePutsCardSaid : Prop := Claim7.holds Tryd.pinned (.plain (OpenSpec.ofChange nodePutsSpec)) nodePutsCard

/-- THE TIED CARD OF 'keyeventlaw05.NodeTexts'. -/
def nodeTextsCard : Claim7 := { stood := { row := nodeTextsRow, standIns := [], harness := (true, "b1d55d0c1514ad6c7e280f624e17a94369019eb09504b82452306f3e4c9004ac"), looks := false }, kinds := [], alts := [], laidByText := true, laidKinds := [.data, .pinned], laidTests := true, laidLooks := .later }
def NodeTextsCardSaid : Prop := Claim7.holds Tryd.pinned (.plain (OpenSpec.ofChange nodeTextsSpec)) nodeTextsCard

/-- THE TIED CARD OF 'keyeventlaw07.CborWrites'. -/
def cborWritesCard : Claim7 := { stood := { row := cborWritesRow, standIns := [], harness := (true, "b1d55d0c1514ad6c7e280f624e17a94369019eb09504b82452306f3e4c9004ac"), looks := false }, kinds := [], alts := [], laidByText := true, laidKinds := [.data, .pinned], laidTests := true, laidLooks := .later }
def CborWritesCardSaid : Prop := Claim7.holds Tryd.pinned (.plain (OpenSpec.ofChange cborWritesSpec)) cborWritesCard

/-- THE TIED CARD OF 'keyeventlaw07.CborHeads'. -/
def cborHeadsCard : Claim7 := { stood := { row := cborHeadsRow, standIns := [], harness := (true, "b1d55d0c1514ad6c7e280f624e17a94369019eb09504b82452306f3e4c9004ac"), looks := false }, kinds := [], alts := [], laidByText := true, laidKinds := [.data, .pinned], laidTests := true, laidLooks := .later }
def CborHeadsCardSaid : Prop := Claim7.holds Tryd.pinned (.plain (OpenSpec.ofChange cborHeadsSpec)) cborHeadsCard

/-- THE TIED CARD OF 'keyeventlaw07.CborReads'. -/
def cborReadsCard : Claim7 := { stood := { row := cborReadsRow, standIns := [], harness := (true, "b1d55d0c1514ad6c7e280f624e17a94369019eb09504b82452306f3e4c9004ac"), looks := false }, kinds := [], alts := [], laidByText := true, laidKinds := [.data, .pinned], laidTests := true, laidLooks := .later }
def CborReadsCardSaid : Prop := Claim7.holds Tryd.pinned (.plain (OpenSpec.ofChange cborReadsSpec)) cborReadsCard

/-- THE TIED CARD OF 'keyeventlaw07.CborBack'. -/
def cborBackCard : Claim7 := { stood := { row := cborBackRow, standIns := [], harness := (true, "b1d55d0c1514ad6c7e280f624e17a94369019eb09504b82452306f3e4c9004ac"), looks := false }, kinds := [], alts := [], laidByText := true, laidKinds := [.data, .pinned], laidTests := true, laidLooks := .later }
def CborBackCardSaid : Prop := Claim7.holds Tryd.pinned (.plain (OpenSpec.ofChange cborBackSpec)) cborBackCard

/-- THE TIED CARD OF 'keyeventlaw07.CborOnce'. -/
def cborOnceCard : Claim7 := { stood := { row := cborOnceRow, standIns := [], harness := (true, "b1d55d0c1514ad6c7e280f624e17a94369019eb09504b82452306f3e4c9004ac"), looks := false }, kinds := [], alts := [], laidByText := true, laidKinds := [.data, .pinned], laidTests := true, laidLooks := .later }
def CborOnceCardSaid : Prop := Claim7.holds Tryd.pinned (.plain (OpenSpec.ofChange cborOnceSpec)) cborOnceCard

/-- THE TIED CARD OF 'keyeventlaw08.PackWrites'. -/
def packWritesCard : Claim7 := { stood := { row := packWritesRow, standIns := [], harness := (true, "b1d55d0c1514ad6c7e280f624e17a94369019eb09504b82452306f3e4c9004ac"), looks := false }, kinds := [], alts := [], laidByText := true, laidKinds := [.data, .pinned], laidTests := true, laidLooks := .later }
def PackWritesCardSaid : Prop := Claim7.holds Tryd.pinned (.plain (OpenSpec.ofChange packWritesSpec)) packWritesCard

/-- THE TIED CARD OF 'keyeventlaw08.PackReads'. -/
def packReadsCard : Claim7 := { stood := { row := packReadsRow, standIns := [], harness := (true, "b1d55d0c1514ad6c7e280f624e17a94369019eb09504b82452306f3e4c9004ac"), looks := false }, kinds := [], alts := [], laidByText := true, laidKinds := [.data, .pinned], laidTests := true, laidLooks := .later }
def PackReadsCardSaid : Prop := Claim7.holds Tryd.pinned (.plain (OpenSpec.ofChange packReadsSpec)) packReadsCard

/-- THE TIED CARD OF 'keyeventlaw08.PackBack'. -/
def packBackCard : Claim7 := { stood := { row := packBackRow, standIns := [], harness := (true, "b1d55d0c1514ad6c7e280f624e17a94369019eb09504b82452306f3e4c9004ac"), looks := false }, kinds := [], alts := [], laidByText := true, laidKinds := [.data, .pinned], laidTests := true, laidLooks := .later }
def PackBackCardSaid : Prop := Claim7.holds Tryd.pinned (.plain (OpenSpec.ofChange packBackSpec)) packBackCard

/-- THE TIED CARD OF 'keyeventlaw08.PackOnce'. -/
def packOnceCard : Claim7 := { stood := { row := packOnceRow, standIns := [], harness := (true, "b1d55d0c1514ad6c7e280f624e17a94369019eb09504b82452306f3e4c9004ac"), looks := false }, kinds := [], alts := [], laidByText := true, laidKinds := [.data, .pinned], laidTests := true, laidLooks := .later }
def PackOnceCardSaid : Prop := Claim7.holds Tryd.pinned (.plain (OpenSpec.ofChange packOnceSpec)) packOnceCard

/-- THE SECOND FORM's CARD OF 'keyeventlaw05.NodeDeep'. -/
def nodeDeepUptoCard : Claim7 := { stood := { row := nodeDeepUptoRow, standIns := [], harness := (true, "b1d55d0c1514ad6c7e280f624e17a94369019eb09504b82452306f3e4c9004ac"), looks := false }, kinds := [], alts := [], laidByText := true, laidKinds := [.data, .pinned], laidTests := true, laidLooks := .later }
def NodeDeepUptoCardSaid : Prop := Claim7.holds Tryd.pinned (.plain (OpenSpec.upto nodeDeepSpec)) nodeDeepUptoCard

/-- THE SECOND FORM's CARD OF 'keyeventlaw05.NodePuts'. -/
def nodePutsUptoCard : Claim7 := { stood := { row := nodePutsUptoRow, standIns := [], harness := (true, "b1d55d0c1514ad6c7e280f624e17a94369019eb09504b82452306f3e4c9004ac"), looks := false }, kinds := [], alts := [], laidByText := true, laidKinds := [.data, .pinned], laidTests := true, laidLooks := .later }
def NodePutsUptoCardSaid : Prop := Claim7.holds Tryd.pinned (.plain (OpenSpec.upto nodePutsSpec)) nodePutsUptoCard

/-- THE SECOND FORM's CARD OF 'keyeventlaw05.NodeTexts'. -/
def nodeTextsUptoCard : Claim7 := { stood := { row := nodeTextsUptoRow, standIns := [], harness := (true, "b1d55d0c1514ad6c7e280f624e17a94369019eb09504b82452306f3e4c9004ac"), looks := false }, kinds := [], alts := [], laidByText := true, laidKinds := [.data, .pinned], laidTests := true, laidLooks := .later }
def NodeTextsUptoCardSaid : Prop := Claim7.holds Tryd.pinned (.plain (OpenSpec.upto nodeTextsSpec)) nodeTextsUptoCard

/-- THE SECOND FORM's CARD OF 'keyeventlaw07.CborWrites'. -/
def cborWritesUptoCard : Claim7 := { stood := { row := cborWritesUptoRow, standIns := [], harness := (true, "b1d55d0c1514ad6c7e280f624e17a94369019eb09504b82452306f3e4c9004ac"), looks := false }, kinds := [], alts := [], laidByText := true, laidKinds := [.data, .pinned], laidTests := true, laidLooks := .later }
def CborWritesUptoCardSaid : Prop := Claim7.holds Tryd.pinned (.plain (OpenSpec.upto cborWritesSpec)) cborWritesUptoCard

/-- THE SECOND FORM's CARD OF 'keyeventlaw07.CborHeads'. -/
def cborHeadsUptoCard : Claim7 := { stood := { row := cborHeadsUptoRow, standIns := [], harness := (true, "b1d55d0c1514ad6c7e280f624e17a94369019eb09504b82452306f3e4c9004ac"), looks := false }, kinds := [], alts := [], laidByText := true, laidKinds := [.data, .pinned], laidTests := true, laidLooks := .later }
def CborHeadsUptoCardSaid : Prop := Claim7.holds Tryd.pinned (.plain (OpenSpec.upto cborHeadsSpec)) cborHeadsUptoCard

/-- THE SECOND FORM's CARD OF 'keyeventlaw07.CborReads'. -/
def cborReadsUptoCard : Claim7 := { stood := { row := cborReadsUptoRow, standIns := [], harness := (true, "b1d55d0c1514ad6c7e280f624e17a94369019eb09504b82452306f3e4c9004ac"), looks := false }, kinds := [], alts := [], laidByText := true, laidKinds := [.data, .pinned], laidTests := true, laidLooks := .later }
def CborReadsUptoCardSaid : Prop := Claim7.holds Tryd.pinned (.plain (OpenSpec.upto cborReadsSpec)) cborReadsUptoCard

/-- THE SECOND FORM's CARD OF 'keyeventlaw07.CborBack'. -/
def cborBackUptoCard : Claim7 := { stood := { row := cborBackUptoRow, standIns := [], harness := (true, "b1d55d0c1514ad6c7e280f624e17a94369019eb09504b82452306f3e4c9004ac"), looks := false }, kinds := [], alts := [], laidByText := true, laidKinds := [.data, .pinned], laidTests := true, laidLooks := .later }
def CborBackUptoCardSaid : Prop := Claim7.holds Tryd.pinned (.plain (OpenSpec.upto cborBackSpec)) cborBackUptoCard

/-- THE SECOND FORM's CARD OF 'keyeventlaw07.CborOnce'. -/
def cborOnceUptoCard : Claim7 := { stood := { row := cborOnceUptoRow, standIns := [], harness := (true, "b1d55d0c1514ad6c7e280f624e17a94369019eb09504b82452306f3e4c9004ac"), looks := false }, kinds := [], alts := [], laidByText := true, laidKinds := [.data, .pinned], laidTests := true, laidLooks := .later }
def CborOnceUptoCardSaid : Prop := Claim7.holds Tryd.pinned (.plain (OpenSpec.upto cborOnceSpec)) cborOnceUptoCard

/-- THE SECOND FORM's CARD OF 'keyeventlaw08.PackWrites'. -/
def packWritesUptoCard : Claim7 := { stood := { row := packWritesUptoRow, standIns := [], harness := (true, "b1d55d0c1514ad6c7e280f624e17a94369019eb09504b82452306f3e4c9004ac"), looks := false }, kinds := [], alts := [], laidByText := true, laidKinds := [.data, .pinned], laidTests := true, laidLooks := .later }
def PackWritesUptoCardSaid : Prop := Claim7.holds Tryd.pinned (.plain (OpenSpec.upto packWritesSpec)) packWritesUptoCard

/-- THE SECOND FORM's CARD OF 'keyeventlaw08.PackReads'. -/
def packReadsUptoCard : Claim7 := { stood := { row := packReadsUptoRow, standIns := [], harness := (true, "b1d55d0c1514ad6c7e280f624e17a94369019eb09504b82452306f3e4c9004ac"), looks := false }, kinds := [], alts := [], laidByText := true, laidKinds := [.data, .pinned], laidTests := true, laidLooks := .later }
def PackReadsUptoCardSaid : Prop := Claim7.holds Tryd.pinned (.plain (OpenSpec.upto packReadsSpec)) packReadsUptoCard

/-- THE SECOND FORM's CARD OF 'keyeventlaw08.PackBack'. -/
def packBackUptoCard : Claim7 := { stood := { row := packBackUptoRow, standIns := [], harness := (true, "b1d55d0c1514ad6c7e280f624e17a94369019eb09504b82452306f3e4c9004ac"), looks := false }, kinds := [], alts := [], laidByText := true, laidKinds := [.data, .pinned], laidTests := true, laidLooks := .later }
def PackBackUptoCardSaid : Prop := Claim7.holds Tryd.pinned (.plain (OpenSpec.upto packBackSpec)) packBackUptoCard

/-- THE SECOND FORM's CARD OF 'keyeventlaw08.PackOnce'. -/
def packOnceUptoCard : Claim7 := { stood := { row := packOnceUptoRow, standIns := [], harness := (true, "b1d55d0c1514ad6c7e280f624e17a94369019eb09504b82452306f3e4c9004ac"), looks := false }, kinds := [], alts := [], laidByText := true, laidKinds := [.data, .pinned], laidTests := true, laidLooks := .later }
def PackOnceUptoCardSaid : Prop := Claim7.holds Tryd.pinned (.plain (OpenSpec.upto packOnceSpec)) packOnceUptoCard
end Rows
end Go.Proofs.YtjhhjkkacbcmjaaDoor
