/-
  DERIVED. GIVEN WITH THE SEED: THE CARDS: each row of YtkfjchmmhabocaaDoorRows.lean that lists a variable, with what it lists TIED to the program's text (the seventh form; the later family's looks); each row that meets fmt, with fmt's text TOLD by the authors' own Lean function (tested against real Go, not proved from fmt's source: count such statements apart). THE CARD IS WHAT COUNTS. Prove the row's statement (the work); the ties are given (YtkfjchmmhabocaaDoorTie.lean); close each card by the builder's one call (the guide's Derived/Test/ToyasCard.lean, 'card_holds'). Laid BY PROGRAM, IN A SANDBOX (cutbox-door.mjs). By AI agents, Wed Nov 11 2026. No macro, syntax, notation, axiom, sorry.
-/
import Derived.Test.YtkfjchmmhabocaaDoorRows
import GoSem.ClaimSeven
namespace Go.Proofs.YtkfjchmmhabocaaDoor
namespace Rows

/-- THE TIED CARD OF 'keyeventlaw09.VersionTexts'. -/
def versionTextsCard : Claim7 := { stood := { row := versionTextsRow, standIns := [], harness := (true, "debd2df2d8300a84a44b821a40bf1f4cf9604dbca2964ec3e41743f6487b68a1"), looks := true }, kinds := [], alts := [], laidByText := true, laidKinds := [.data, .data, .data, .sentinel, .sentinel], laidTests := true, laidLooks := .later }
def VersionTextsCardSaid : Prop := Claim7.holds Tryd.pinned (.plain (OpenSpec.ofChange versionTextsSpec)) versionTextsCard

/-- THE TIED CARD OF 'keyeventlaw09.VersionBack'. -/
def versionBackCard : Claim7 := { stood := { row := versionBackRow, standIns := [], harness := (true, "debd2df2d8300a84a44b821a40bf1f4cf9604dbca2964ec3e41743f6487b68a1"), looks := true }, kinds := [], alts := [], laidByText := true, laidKinds := [.data, .data, .data, .sentinel, .sentinel], laidTests := true, laidLooks := .later }
def VersionBackCardSaid : Prop := Claim7.holds Tryd.pinned (.plain (OpenSpec.ofChange versionBackSpec)) versionBackCard

/-- THE TIED CARD OF 'keyeventlaw09.VersionFinds'. -/
def versionFindsCard : Claim7 := { stood := { row := versionFindsRow, standIns := [], harness := (true, "debd2df2d8300a84a44b821a40bf1f4cf9604dbca2964ec3e41743f6487b68a1"), looks := true }, kinds := [], alts := [], laidByText := true, laidKinds := [.data, .data, .data, .sentinel, .sentinel], laidTests := true, laidLooks := .later }
def VersionFindsCardSaid : Prop := Claim7.holds Tryd.pinned (.plain (OpenSpec.ofChange versionFindsSpec)) versionFindsCard

/-- THE TIED CARD OF 'keyeventlaw09.VersionPlaces'. -/
def versionPlacesCard : Claim7 := { stood := { row := versionPlacesRow, standIns := [], harness := (true, "debd2df2d8300a84a44b821a40bf1f4cf9604dbca2964ec3e41743f6487b68a1"), looks := true }, kinds := [], alts := [], laidByText := true, laidKinds := [.data, .data, .data, .sentinel, .sentinel], laidTests := true, laidLooks := .later }
def VersionPlacesCardSaid : Prop := Claim7.holds Tryd.pinned (.plain (OpenSpec.ofChange versionPlacesSpec)) versionPlacesCard

/-- THE SECOND FORM's CARD OF 'keyeventlaw09.VersionTexts'. -/
def versionTextsUptoCard : Claim7 := { stood := { row := versionTextsUptoRow, standIns := [], harness := (true, "debd2df2d8300a84a44b821a40bf1f4cf9604dbca2964ec3e41743f6487b68a1"), looks := true }, kinds := [], alts := [], laidByText := true, laidKinds := [.data, .data, .data, .sentinel, .sentinel], laidTests := true, laidLooks := .later }
def VersionTextsUptoCardSaid : Prop := Claim7.holds Tryd.pinned (.plain (OpenSpec.upto versionTextsSpec)) versionTextsUptoCard

/-- THE SECOND FORM's CARD OF 'keyeventlaw09.VersionBack'. -/
def versionBackUptoCard : Claim7 := { stood := { row := versionBackUptoRow, standIns := [], harness := (true, "debd2df2d8300a84a44b821a40bf1f4cf9604dbca2964ec3e41743f6487b68a1"), looks := true }, kinds := [], alts := [], laidByText := true, laidKinds := [.data, .data, .data, .sentinel, .sentinel], laidTests := true, laidLooks := .later }
def VersionBackUptoCardSaid : Prop := Claim7.holds Tryd.pinned (.plain (OpenSpec.upto versionBackSpec)) versionBackUptoCard

/-- THE SECOND FORM's CARD OF 'keyeventlaw09.VersionFinds'. -/
def versionFindsUptoCard : Claim7 := { stood := { row := versionFindsUptoRow, standIns := [], harness := (true, "debd2df2d8300a84a44b821a40bf1f4cf9604dbca2964ec3e41743f6487b68a1"), looks := true }, kinds := [], alts := [], laidByText := true, laidKinds := [.data, .data, .data, .sentinel, .sentinel], laidTests := true, laidLooks := .later }
def VersionFindsUptoCardSaid : Prop := Claim7.holds Tryd.pinned (.plain (OpenSpec.upto versionFindsSpec)) versionFindsUptoCard

/-- THE SECOND FORM's CARD OF 'keyeventlaw09.VersionPlaces'. -/
def versionPlacesUptoCard : Claim7 := { stood := { row := versionPlacesUptoRow, standIns := [], harness := (true, "debd2df2d8300a84a44b821a40bf1f4cf9604dbca2964ec3e41743f6487b68a1"), looks := true }, kinds := [], alts := [], laidByText := true, laidKinds := [.data, .data, .data, .sentinel, .sentinel], laidTests := true, laidLooks := .later }
def VersionPlacesUptoCardSaid : Prop := Claim7.holds Tryd.pinned (.plain (OpenSpec.upto versionPlacesSpec)) versionPlacesUptoCard
end Rows
end Go.Proofs.YtkfjchmmhabocaaDoor
