/-
  DERIVED. GIVEN WITH THE SEED: THE CARDS: each row of YtmjdgpiofhildaaGreatDoorRows.lean that lists a variable, with what it lists TIED to the program's text (the seventh form; the later family's looks); each row that meets fmt, with fmt's text TOLD by the authors' own Lean function (tested against real Go, not proved from fmt's source: count such statements apart). THE CARD IS WHAT COUNTS. Prove the row's statement (the work); the ties are given (YtmjdgpiofhildaaGreatDoorTie.lean); close each card by the builder's one call (the guide's Derived/Test/ToyasCard.lean, 'card_holds'). Laid BY PROGRAM, IN A SANDBOX (cutbox-door.mjs). By AI agents, Wed Nov 11 2026. No macro, syntax, notation, axiom, sorry.
-/
import Derived.Test.YtmjdgpiofhildaaGreatDoorRows
import GoSem.ClaimSeven
namespace Go.Proofs.YtmjdgpiofhildaaGreatDoor
namespace Rows

/-- THE TIED CARD OF 'licitlaw17.RecordAgrees'. -/
def recordAgreesCard : Claim7 := { stood := { row := recordAgreesRow, standIns := [], harness := (true, "48ed89d4b51b585a93375eef22142416353979785146b606f11aa17589321a38"), looks := true }, kinds := [], alts := [], laidByText := true, laidKinds := [.data, .pinned], laidTests := true, laidLooks := .later }
def RecordAgreesCardSaid : Prop := Claim7.holds Tryz.pinned (.plain (OpenSpec.ofChange recordAgreesSpec)) recordAgreesCard

/-- THE TIED CARD OF 'licitlaw17.RecordTexts'. -/
def recordTextsCard : Claim7 := { stood := { row := recordTextsRow, standIns := [], harness := (true, "48ed89d4b51b585a93375eef22142416353979785146b606f11aa17589321a38"), looks := true }, kinds := [], alts := [], laidByText := true, laidKinds := [.data, .data, .data, .data, .sentinel, .sentinel, .pinned], laidTests := true, laidLooks := .later }
def RecordTextsCardSaid : Prop := Claim7.holds Tryz.pinned (.plain (OpenSpec.ofChange recordTextsSpec)) recordTextsCard

/-- THE TIED CARD OF 'licitlaw17.RecordBack'. -/
def recordBackCard : Claim7 := { stood := { row := recordBackRow, standIns := [], harness := (true, "48ed89d4b51b585a93375eef22142416353979785146b606f11aa17589321a38"), looks := true }, kinds := [], alts := [], laidByText := true, laidKinds := [.data, .data, .data, .data, .sentinel, .sentinel, .pinned], laidTests := true, laidLooks := .later }
def RecordBackCardSaid : Prop := Claim7.holds Tryz.pinned (.plain (OpenSpec.ofChange recordBackSpec)) recordBackCard

/-- THE SECOND FORM's CARD OF 'licitlaw17.RecordAgrees'. -/
def recordAgreesUptoCard : Claim7 := { stood := { row := recordAgreesUptoRow, standIns := [], harness := (true, "48ed89d4b51b585a93375eef22142416353979785146b606f11aa17589321a38"), looks := true }, kinds := [], alts := [], laidByText := true, laidKinds := [.data, .pinned], laidTests := true, laidLooks := .later }
def RecordAgreesUptoCardSaid : Prop := Claim7.holds Tryz.pinned (.plain (OpenSpec.upto recordAgreesSpec)) recordAgreesUptoCard

/-- THE SECOND FORM's CARD OF 'licitlaw17.RecordTexts'. -/
def recordTextsUptoCard : Claim7 := { stood := { row := recordTextsUptoRow, standIns := [], harness := (true, "48ed89d4b51b585a93375eef22142416353979785146b606f11aa17589321a38"), looks := true }, kinds := [], alts := [], laidByText := true, laidKinds := [.data, .data, .data, .data, .sentinel, .sentinel, .pinned], laidTests := true, laidLooks := .later }
def RecordTextsUptoCardSaid : Prop := Claim7.holds Tryz.pinned (.plain (OpenSpec.upto recordTextsSpec)) recordTextsUptoCard

/-- THE SECOND FORM's CARD OF 'licitlaw17.RecordBack'. -/
def recordBackUptoCard : Claim7 := { stood := { row := recordBackUptoRow, standIns := [], harness := (true, "48ed89d4b51b585a93375eef22142416353979785146b606f11aa17589321a38"), looks := true }, kinds := [], alts := [], laidByText := true, laidKinds := [.data, .data, .data, .data, .sentinel, .sentinel, .pinned], laidTests := true, laidLooks := .later }
def RecordBackUptoCardSaid : Prop := Claim7.holds Tryz.pinned (.plain (OpenSpec.upto recordBackSpec)) recordBackUptoCard
end Rows
end Go.Proofs.YtmjdgpiofhildaaGreatDoor
