/-
  DERIVED. GIVEN WITH THE SEED: THE CARDS: each row of YtmidabiehblekaaDoorRows.lean that lists a variable, with what it lists TIED to the program's text (the seventh form; the later family's looks); each row that meets fmt, with fmt's text TOLD by the authors' own Lean function (tested against real Go, not proved from fmt's source: count such statements apart). THE CARD IS WHAT COUNTS. Prove the row's statement (the work); the ties are given (YtmidabiehblekaaDoorTie.lean); close each card by the builder's one call (the guide's Derived/Test/ToyasCard.lean, 'card_holds'). Laid BY PROGRAM, IN A SANDBOX (cutbox-door.mjs). By AI agents, Wed Nov 11 2026. No macro, syntax, notation, axiom, sorry.
-/
import Derived.Test.YtmidabiehblekaaDoorRows
import GoSem.ClaimSeven
namespace Go.Proofs.YtmidabiehblekaaDoor
namespace Rows

/-- THE TIED CARD OF 'keyeventlaw06.JsonWrites'. -/
def jsonWritesCard : Claim7 := { stood := { row := jsonWritesRow, standIns := [], harness := (true, "f966046cbc27836299a96dae98bfe8089ca148a5ccf004d407645abdd6eb9554"), looks := true }, kinds := [], alts := [], laidByText := true, laidKinds := [.data, .data, .data, .data, .pinned], laidTests := true, laidLooks := .later }
def JsonWritesCardSaid : Prop := Claim7.holds Tryd.pinned (.plain (OpenSpec.ofChange jsonWritesSpec)) jsonWritesCard

/-- THE TIED CARD OF 'keyeventlaw06.JsonBack'. -/
def jsonBackCard : Claim7 := { stood := { row := jsonBackRow, standIns := [], harness := (true, "f966046cbc27836299a96dae98bfe8089ca148a5ccf004d407645abdd6eb9554"), looks := true }, kinds := [], alts := [], laidByText := true, laidKinds := [.data, .data, .data, .data, .sentinel, .sentinel, .pinned], laidTests := true, laidLooks := .later }
def JsonBackCardSaid : Prop := Claim7.holds Tryd.pinned (.plain (OpenSpec.ofChange jsonBackSpec)) jsonBackCard

/-- THE TIED CARD OF 'keyeventlaw06.JsonOnce'. -/
def jsonOnceCard : Claim7 := { stood := { row := jsonOnceRow, standIns := [], harness := (true, "f966046cbc27836299a96dae98bfe8089ca148a5ccf004d407645abdd6eb9554"), looks := true }, kinds := [], alts := [], laidByText := true, laidKinds := [.data, .data, .data, .data, .sentinel, .sentinel, .pinned], laidTests := true, laidLooks := .later }
def JsonOnceCardSaid : Prop := Claim7.holds Tryd.pinned (.plain (OpenSpec.ofChange jsonOnceSpec)) jsonOnceCard

/-- THE TIED CARD OF 'keyeventlaw06.JsonQuotes'. -/
def jsonQuotesCard : Claim7 := { stood := { row := jsonQuotesRow, standIns := [], harness := (true, "f966046cbc27836299a96dae98bfe8089ca148a5ccf004d407645abdd6eb9554"), looks := true }, kinds := [], alts := [], laidByText := true, laidKinds := [.data, .data, .data, .data, .sentinel, .sentinel, .pinned], laidTests := true, laidLooks := .later }
def JsonQuotesCardSaid : Prop := Claim7.holds Tryd.pinned (.plain (OpenSpec.ofChange jsonQuotesSpec)) jsonQuotesCard

/-- THE TIED CARD OF 'keyeventlaw06.JsonReads'. -/
def jsonReadsCard : Claim7 := { stood := { row := jsonReadsRow, standIns := [], harness := (true, "f966046cbc27836299a96dae98bfe8089ca148a5ccf004d407645abdd6eb9554"), looks := true }, kinds := [], alts := [], laidByText := true, laidKinds := [.data, .data, .data, .data, .sentinel, .sentinel, .pinned], laidTests := true, laidLooks := .later }
def JsonReadsCardSaid : Prop := Claim7.holds Tryd.pinned (.plain (OpenSpec.ofChange jsonReadsSpec)) jsonReadsCard

/-- THE SECOND FORM's CARD OF 'keyeventlaw06.JsonWrites'. -/
def jsonWritesUptoCard : Claim7 := { stood := { row := jsonWritesUptoRow, standIns := [], harness := (true, "f966046cbc27836299a96dae98bfe8089ca148a5ccf004d407645abdd6eb9554"), looks := true }, kinds := [], alts := [], laidByText := true, laidKinds := [.data, .data, .data, .data, .pinned], laidTests := true, laidLooks := .later }
def JsonWritesUptoCardSaid : Prop := Claim7.holds Tryd.pinned (.plain (OpenSpec.upto jsonWritesSpec)) jsonWritesUptoCard

/-- THE SECOND FORM's CARD OF 'keyeventlaw06.JsonBack'. -/
def jsonBackUptoCard : Claim7 := { stood := { row := jsonBackUptoRow, standIns := [], harness := (true, "f966046cbc27836299a96dae98bfe8089ca148a5ccf004d407645abdd6eb9554"), looks := true }, kinds := [], alts := [], laidByText := true, laidKinds := [.data, .data, .data, .data, .sentinel, .sentinel, .pinned], laidTests := true, laidLooks := .later }
def JsonBackUptoCardSaid : Prop := Claim7.holds Tryd.pinned (.plain (OpenSpec.upto jsonBackSpec)) jsonBackUptoCard

/-- THE SECOND FORM's CARD OF 'keyeventlaw06.JsonOnce'. -/
def jsonOnceUptoCard : Claim7 := { stood := { row := jsonOnceUptoRow, standIns := [], harness := (true, "f966046cbc27836299a96dae98bfe8089ca148a5ccf004d407645abdd6eb9554"), looks := true }, kinds := [], alts := [], laidByText := true, laidKinds := [.data, .data, .data, .data, .sentinel, .sentinel, .pinned], laidTests := true, laidLooks := .later }
def JsonOnceUptoCardSaid : Prop := Claim7.holds Tryd.pinned (.plain (OpenSpec.upto jsonOnceSpec)) jsonOnceUptoCard

/-- THE SECOND FORM's CARD OF 'keyeventlaw06.JsonQuotes'. -/
def jsonQuotesUptoCard : Claim7 := { stood := { row := jsonQuotesUptoRow, standIns := [], harness := (true, "f966046cbc27836299a96dae98bfe8089ca148a5ccf004d407645abdd6eb9554"), looks := true }, kinds := [], alts := [], laidByText := true, laidKinds := [.data, .data, .data, .data, .sentinel, .sentinel, .pinned], laidTests := true, laidLooks := .later }
def JsonQuotesUptoCardSaid : Prop := Claim7.holds Tryd.pinned (.plain (OpenSpec.upto jsonQuotesSpec)) jsonQuotesUptoCard

/-- THE SECOND FORM's CARD OF 'keyeventlaw06.JsonReads'. -/
def jsonReadsUptoCard : Claim7 := { stood := { row := jsonReadsUptoRow, standIns := [], harness := (true, "f966046cbc27836299a96dae98bfe8089ca148a5ccf004d407645abdd6eb9554"), looks := true }, kinds := [], alts := [], laidByText := true, laidKinds := [.data, .data, .data, .data, .sentinel, .sentinel, .pinned], laidTests := true, laidLooks := .later }
def JsonReadsUptoCardSaid : Prop := Claim7.holds Tryd.pinned (.plain (OpenSpec.upto jsonReadsSpec)) jsonReadsUptoCard
end Rows
end Go.Proofs.YtmidabiehblekaaDoor
