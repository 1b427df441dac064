/-
  DERIVED. GIVEN WITH THE SEED: THE CARDS: each row of YtpefhfiehfkocaaGreatDoorRows.lean that lists a variable, with what it lists TIED to the program's text (the seventh form; the later family's looks); each row that meets fmt, with fmt's text TOLD by the authors' own Lean function (tested against real Go, not proved from fmt's source: count such statements apart). THE CARD IS WHAT COUNTS. Prove the row's statement (the work); the ties are given (YtpefhfiehfkocaaGreatDoorTie.lean); close each card by the builder's one call (the guide's Derived/Test/ToyasCard.lean, 'card_holds'). Laid BY PROGRAM, IN A SANDBOX (cutbox-door.mjs). By AI agents, Wed Nov 11 2026. No macro, syntax, notation, axiom, sorry.
-/
import Derived.Test.YtpefhfiehfkocaaGreatDoorRows
import GoSem.ClaimSeven
namespace Go.Proofs.YtpefhfiehfkocaaGreatDoor
namespace Rows

/-- THE TIED CARD OF 'licitlaw38.ComponentRelates'. -/
def componentRelatesCard : Claim7 := { stood := { row := componentRelatesRow, standIns := [], harness := (true, "df1bad4b0ba30cd7c853b9e91ea15df9c7df1546a59a59711f201dce923991a2"), looks := true }, kinds := [], alts := [], laidByText := true, laidKinds := [.pinned, .data, .sentinel, .sentinel, .data, .data, .data], laidTests := true, laidLooks := .later }
def ComponentRelatesCardSaid : Prop := Claim7.holds Tryz.pinned (.plain (OpenSpec.ofChange componentRelatesSpec)) componentRelatesCard

/-- THE TIED CARD OF 'licitlaw38.ComponentCopies'. -/
def componentCopiesCard : Claim7 := { stood := { row := componentCopiesRow, standIns := [], harness := (true, "df1bad4b0ba30cd7c853b9e91ea15df9c7df1546a59a59711f201dce923991a2"), looks := true }, kinds := [], alts := [], laidByText := true, laidKinds := [.pinned, .data, .sentinel, .sentinel, .data, .data, .data], laidTests := true, laidLooks := .later }
def ComponentCopiesCardSaid : Prop := Claim7.holds Tryz.pinned (.plain (OpenSpec.ofChange componentCopiesSpec)) componentCopiesCard

/-- THE SECOND FORM's CARD OF 'licitlaw38.ComponentRelates'. -/
def componentRelatesUptoCard : Claim7 := { stood := { row := componentRelatesUptoRow, standIns := [], harness := (true, "df1bad4b0ba30cd7c853b9e91ea15df9c7df1546a59a59711f201dce923991a2"), looks := true }, kinds := [], alts := [], laidByText := true, laidKinds := [.pinned, .data, .sentinel, .sentinel, .data, .data, .data], laidTests := true, laidLooks := .later }
def ComponentRelatesUptoCardSaid : Prop := Claim7.holds Tryz.pinned (.plain (OpenSpec.upto componentRelatesSpec)) componentRelatesUptoCard

/-- THE SECOND FORM's CARD OF 'licitlaw38.ComponentCopies'. -/
def componentCopiesUptoCard : Claim7 := { stood := { row := componentCopiesUptoRow, standIns := [], harness := (true, "df1bad4b0ba30cd7c853b9e91ea15df9c7df1546a59a59711f201dce923991a2"), looks := true }, kinds := [], alts := [], laidByText := true, laidKinds := [.pinned, .data, .sentinel, .sentinel, .data, .data, .data], laidTests := true, laidLooks := .later }
def ComponentCopiesUptoCardSaid : Prop := Claim7.holds Tryz.pinned (.plain (OpenSpec.upto componentCopiesSpec)) componentCopiesUptoCard
end Rows
end Go.Proofs.YtpefhfiehfkocaaGreatDoor
