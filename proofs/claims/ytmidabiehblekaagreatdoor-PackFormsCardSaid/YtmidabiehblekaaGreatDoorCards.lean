/-
  DERIVED. GIVEN WITH THE SEED: THE CARDS: each row of YtmidabiehblekaaGreatDoorRows.lean that lists a variable, with what it lists TIED to the program's text (the seventh form; the later family's looks); each row that meets fmt, with fmt's text TOLD by the authors' own Lean function (tested against real Go, not proved from fmt's source: count such statements apart). THE CARD IS WHAT COUNTS. Prove the row's statement (the work); the ties are given (YtmidabiehblekaaGreatDoorTie.lean); close each card by the builder's one call (the guide's Derived/Test/ToyasCard.lean, 'card_holds'). Laid BY PROGRAM, IN A SANDBOX (cutbox-door.mjs). By AI agents, Wed Nov 11 2026. No macro, syntax, notation, axiom, sorry.
-/
import Derived.Test.YtmidabiehblekaaGreatDoorRows
import GoSem.ClaimSeven
namespace Go.Proofs.YtmidabiehblekaaGreatDoor
namespace Rows

/-- THE TIED CARD OF 'keyeventlaw08.PackForms'. -/
def packFormsCard : Claim7 := { stood := { row := packFormsRow, standIns := [], harness := (true, "75a7c67862ed0bc8ea976f5c5358787221cf2f2049c129a11ccb9b90f21a9a26"), looks := true }, kinds := [], alts := [], laidByText := true, laidKinds := [.data, .data, .data, .data, .sentinel, .sentinel, .pinned], laidTests := true, laidLooks := .later }
def PackFormsCardSaid : Prop := Claim7.holds Tryz.pinned (.plain (OpenSpec.ofChange packFormsSpec)) packFormsCard

/-- THE TIED CARD OF 'keyeventlaw08.PackTurns'. -/
def packTurnsCard : Claim7 := { stood := { row := packTurnsRow, standIns := [], harness := (true, "75a7c67862ed0bc8ea976f5c5358787221cf2f2049c129a11ccb9b90f21a9a26"), looks := true }, kinds := [], alts := [], laidByText := true, laidKinds := [.data, .data, .data, .data, .sentinel, .sentinel, .pinned], laidTests := true, laidLooks := .later }
def PackTurnsCardSaid : Prop := Claim7.holds Tryz.pinned (.plain (OpenSpec.ofChange packTurnsSpec)) packTurnsCard

/-- THE TIED CARD OF 'keyeventlaw13.ThresholdBack'. -/
def thresholdBackCard : Claim7 := { stood := { row := thresholdBackRow, standIns := [], harness := (true, "75a7c67862ed0bc8ea976f5c5358787221cf2f2049c129a11ccb9b90f21a9a26"), looks := true }, kinds := [], alts := [], laidByText := true, laidKinds := [.data, .data, .data, .sentinel, .sentinel], laidTests := true, laidLooks := .later }
def ThresholdBackCardSaid : Prop := Claim7.holds Tryz.pinned (.plain (OpenSpec.ofChange thresholdBackSpec)) thresholdBackCard

/-- THE TIED CARD OF 'keyeventlaw09.VersionFits'. -/
def versionFitsCard : Claim7 := { stood := { row := versionFitsRow, standIns := [], harness := (true, "75a7c67862ed0bc8ea976f5c5358787221cf2f2049c129a11ccb9b90f21a9a26"), looks := true }, kinds := [], alts := [], laidByText := true, laidKinds := [.data, .data, .data, .data, .sentinel, .sentinel, .pinned], laidTests := true, laidLooks := .later }
def VersionFitsCardSaid : Prop := Claim7.holds Tryz.pinned (.plain (OpenSpec.ofChange versionFitsSpec)) versionFitsCard

/-- THE TIED CARD OF 'keyeventlaw09.VersionSizes'. -/
def versionSizesCard : Claim7 := { stood := { row := versionSizesRow, standIns := [], harness := (true, "75a7c67862ed0bc8ea976f5c5358787221cf2f2049c129a11ccb9b90f21a9a26"), looks := true }, kinds := [], alts := [], laidByText := true, laidKinds := [.data, .data, .data, .data, .sentinel, .sentinel, .pinned], laidTests := true, laidLooks := .later }
def VersionSizesCardSaid : Prop := Claim7.holds Tryz.pinned (.plain (OpenSpec.ofChange versionSizesSpec)) versionSizesCard

/-- THE TIED CARD OF 'keyeventlaw10.SaidForms'. -/
def saidFormsCard : Claim7 := { stood := { row := saidFormsRow, standIns := [], harness := (true, "75a7c67862ed0bc8ea976f5c5358787221cf2f2049c129a11ccb9b90f21a9a26"), looks := true }, kinds := [], alts := [], laidByText := true, laidKinds := [.data, .data, .data, .data, .sentinel, .sentinel, .pinned], laidTests := true, laidLooks := .later }
def SaidFormsCardSaid : Prop := Claim7.holds Tryz.pinned (.plain (OpenSpec.ofChange saidFormsSpec)) saidFormsCard

/-- THE TIED CARD OF 'keyeventlaw10.SaidBack'. -/
def saidBackCard : Claim7 := { stood := { row := saidBackRow, standIns := [], harness := (true, "75a7c67862ed0bc8ea976f5c5358787221cf2f2049c129a11ccb9b90f21a9a26"), looks := true }, kinds := [], alts := [], laidByText := true, laidKinds := [.data, .data, .data, .data, .sentinel, .sentinel, .pinned], laidTests := true, laidLooks := .later }
def SaidBackCardSaid : Prop := Claim7.holds Tryz.pinned (.plain (OpenSpec.ofChange saidBackSpec)) saidBackCard

/-- THE TIED CARD OF 'keyeventlaw10.SaidPuts'. -/
def saidPutsCard : Claim7 := { stood := { row := saidPutsRow, standIns := [], harness := (true, "75a7c67862ed0bc8ea976f5c5358787221cf2f2049c129a11ccb9b90f21a9a26"), looks := true }, kinds := [], alts := [], laidByText := true, laidKinds := [.data, .data, .data, .data, .sentinel, .sentinel, .pinned], laidTests := true, laidLooks := .later }
def SaidPutsCardSaid : Prop := Claim7.holds Tryz.pinned (.plain (OpenSpec.ofChange saidPutsSpec)) saidPutsCard

/-- THE TIED CARD OF 'keyeventlaw10.SaidChecks'. -/
def saidChecksCard : Claim7 := { stood := { row := saidChecksRow, standIns := [], harness := (true, "75a7c67862ed0bc8ea976f5c5358787221cf2f2049c129a11ccb9b90f21a9a26"), looks := true }, kinds := [], alts := [], laidByText := true, laidKinds := [.data, .data, .data, .data, .sentinel, .sentinel, .pinned], laidTests := true, laidLooks := .later }
def SaidChecksCardSaid : Prop := Claim7.holds Tryz.pinned (.plain (OpenSpec.ofChange saidChecksSpec)) saidChecksCard

/-- THE SECOND FORM's CARD OF 'keyeventlaw08.PackForms'. -/
def packFormsUptoCard : Claim7 := { stood := { row := packFormsUptoRow, standIns := [], harness := (true, "75a7c67862ed0bc8ea976f5c5358787221cf2f2049c129a11ccb9b90f21a9a26"), looks := true }, kinds := [], alts := [], laidByText := true, laidKinds := [.data, .data, .data, .data, .sentinel, .sentinel, .pinned], laidTests := true, laidLooks := .later }
def PackFormsUptoCardSaid : Prop := Claim7.holds Tryz.pinned (.plain (OpenSpec.upto packFormsSpec)) packFormsUptoCard

/-- THE SECOND FORM's CARD OF 'keyeventlaw08.PackTurns'. -/
def packTurnsUptoCard : Claim7 := { stood := { row := packTurnsUptoRow, standIns := [], harness := (true, "75a7c67862ed0bc8ea976f5c5358787221cf2f2049c129a11ccb9b90f21a9a26"), looks := true }, kinds := [], alts := [], laidByText := true, laidKinds := [.data, .data, .data, .data, .sentinel, .sentinel, .pinned], laidTests := true, laidLooks := .later }
def PackTurnsUptoCardSaid : Prop := Claim7.holds Tryz.pinned (.plain (OpenSpec.upto packTurnsSpec)) packTurnsUptoCard

/-- THE SECOND FORM's CARD OF 'keyeventlaw13.ThresholdBack'. -/
def thresholdBackUptoCard : Claim7 := { stood := { row := thresholdBackUptoRow, standIns := [], harness := (true, "75a7c67862ed0bc8ea976f5c5358787221cf2f2049c129a11ccb9b90f21a9a26"), looks := true }, kinds := [], alts := [], laidByText := true, laidKinds := [.data, .data, .data, .sentinel, .sentinel], laidTests := true, laidLooks := .later }
def ThresholdBackUptoCardSaid : Prop := Claim7.holds Tryz.pinned (.plain (OpenSpec.upto thresholdBackSpec)) thresholdBackUptoCard

/-- THE SECOND FORM's CARD OF 'keyeventlaw09.VersionFits'. -/
def versionFitsUptoCard : Claim7 := { stood := { row := versionFitsUptoRow, standIns := [], harness := (true, "75a7c67862ed0bc8ea976f5c5358787221cf2f2049c129a11ccb9b90f21a9a26"), looks := true }, kinds := [], alts := [], laidByText := true, laidKinds := [.data, .data, .data, .data, .sentinel, .sentinel, .pinned], laidTests := true, laidLooks := .later }
def VersionFitsUptoCardSaid : Prop := Claim7.holds Tryz.pinned (.plain (OpenSpec.upto versionFitsSpec)) versionFitsUptoCard

/-- THE SECOND FORM's CARD OF 'keyeventlaw09.VersionSizes'. -/
def versionSizesUptoCard : Claim7 := { stood := { row := versionSizesUptoRow, standIns := [], harness := (true, "75a7c67862ed0bc8ea976f5c5358787221cf2f2049c129a11ccb9b90f21a9a26"), looks := true }, kinds := [], alts := [], laidByText := true, laidKinds := [.data, .data, .data, .data, .sentinel, .sentinel, .pinned], laidTests := true, laidLooks := .later }
def VersionSizesUptoCardSaid : Prop := Claim7.holds Tryz.pinned (.plain (OpenSpec.upto versionSizesSpec)) versionSizesUptoCard

/-- THE SECOND FORM's CARD OF 'keyeventlaw10.SaidForms'. -/
def saidFormsUptoCard : Claim7 := { stood := { row := saidFormsUptoRow, standIns := [], harness := (true, "75a7c67862ed0bc8ea976f5c5358787221cf2f2049c129a11ccb9b90f21a9a26"), looks := true }, kinds := [], alts := [], laidByText := true, laidKinds := [.data, .data, .data, .data, .sentinel, .sentinel, .pinned], laidTests := true, laidLooks := .later }
def SaidFormsUptoCardSaid : Prop := Claim7.holds Tryz.pinned (.plain (OpenSpec.upto saidFormsSpec)) saidFormsUptoCard

/-- THE SECOND FORM's CARD OF 'keyeventlaw10.SaidBack'. -/
def saidBackUptoCard : Claim7 := { stood := { row := saidBackUptoRow, standIns := [], harness := (true, "75a7c67862ed0bc8ea976f5c5358787221cf2f2049c129a11ccb9b90f21a9a26"), looks := true }, kinds := [], alts := [], laidByText := true, laidKinds := [.data, .data, .data, .data, .sentinel, .sentinel, .pinned], laidTests := true, laidLooks := .later }
def SaidBackUptoCardSaid : Prop := Claim7.holds Tryz.pinned (.plain (OpenSpec.upto saidBackSpec)) saidBackUptoCard

/-- THE SECOND FORM's CARD OF 'keyeventlaw10.SaidPuts'. -/
def saidPutsUptoCard : Claim7 := { stood := { row := saidPutsUptoRow, standIns := [], harness := (true, "75a7c67862ed0bc8ea976f5c5358787221cf2f2049c129a11ccb9b90f21a9a26"), looks := true }, kinds := [], alts := [], laidByText := true, laidKinds := [.data, .data, .data, .data, .sentinel, .sentinel, .pinned], laidTests := true, laidLooks := .later }
def SaidPutsUptoCardSaid : Prop := Claim7.holds Tryz.pinned (.plain (OpenSpec.upto saidPutsSpec)) saidPutsUptoCard

/-- THE SECOND FORM's CARD OF 'keyeventlaw10.SaidChecks'. -/
def saidChecksUptoCard : Claim7 := { stood := { row := saidChecksUptoRow, standIns := [], harness := (true, "75a7c67862ed0bc8ea976f5c5358787221cf2f2049c129a11ccb9b90f21a9a26"), looks := true }, kinds := [], alts := [], laidByText := true, laidKinds := [.data, .data, .data, .data, .sentinel, .sentinel, .pinned], laidTests := true, laidLooks := .later }
def SaidChecksUptoCardSaid : Prop := Claim7.holds Tryz.pinned (.plain (OpenSpec.upto saidChecksSpec)) saidChecksUptoCard
end Rows
end Go.Proofs.YtmidabiehblekaaGreatDoor
