/-
  DERIVED. GIVEN WITH THE SEED: THE CARDS: each row of YtbfcbkjemlgnpaaGreatDoorRows.lean that lists a variable, with what it lists TIED to the program's text (the seventh form; the later family's looks); each row that meets fmt, with fmt's text TOLD by the authors' own Lean function (tested against real Go, not proved from fmt's source: count such statements apart). THE CARD IS WHAT COUNTS. Prove the row's statement (the work); the ties are given (YtbfcbkjemlgnpaaGreatDoorTie.lean); close each card by the builder's one call (the guide's Derived/Test/ToyasCard.lean, 'card_holds'). Laid BY PROGRAM, IN A SANDBOX (cutbox-door.mjs). By AI agents, Wed Nov 11 2026. No macro, syntax, notation, axiom, sorry.
-/
import Derived.Test.YtbfcbkjemlgnpaaGreatDoorRows
import GoSem.ClaimSeven
namespace Go.Proofs.YtbfcbkjemlgnpaaGreatDoor
namespace Rows

/-- THE TIED CARD OF 'licitlaw19.OriginSets'. -/
def originSetsCard : Claim7 := { stood := { row := originSetsRow, standIns := [], harness := (true, "6885a660a5316ed294724c452cac4fa2d3bd52d2b51a03e76f8860e3c83e5576"), looks := true }, kinds := [], alts := [], laidByText := true, laidKinds := [.pinned, .data, .sentinel, .sentinel, .data, .data, .data], laidTests := true, laidLooks := .later }
def OriginSetsCardSaid : Prop := Claim7.holds Tryz.pinned (.plain (OpenSpec.ofChange originSetsSpec)) originSetsCard

/-- THE TIED CARD OF 'licitlaw19.OriginUnions'. -/
def originUnionsCard : Claim7 := { stood := { row := originUnionsRow, standIns := [], harness := (true, "6885a660a5316ed294724c452cac4fa2d3bd52d2b51a03e76f8860e3c83e5576"), looks := true }, kinds := [], alts := [], laidByText := true, laidKinds := [.pinned, .data, .sentinel, .sentinel, .data, .data, .data], laidTests := true, laidLooks := .later }
def OriginUnionsCardSaid : Prop := Claim7.holds Tryz.pinned (.plain (OpenSpec.ofChange originUnionsSpec)) originUnionsCard

/-- THE SECOND FORM's CARD OF 'licitlaw19.OriginSets'. -/
def originSetsUptoCard : Claim7 := { stood := { row := originSetsUptoRow, standIns := [], harness := (true, "6885a660a5316ed294724c452cac4fa2d3bd52d2b51a03e76f8860e3c83e5576"), looks := true }, kinds := [], alts := [], laidByText := true, laidKinds := [.pinned, .data, .sentinel, .sentinel, .data, .data, .data], laidTests := true, laidLooks := .later }
def OriginSetsUptoCardSaid : Prop := Claim7.holds Tryz.pinned (.plain (OpenSpec.upto originSetsSpec)) originSetsUptoCard

/-- THE SECOND FORM's CARD OF 'licitlaw19.OriginUnions'. -/
def originUnionsUptoCard : Claim7 := { stood := { row := originUnionsUptoRow, standIns := [], harness := (true, "6885a660a5316ed294724c452cac4fa2d3bd52d2b51a03e76f8860e3c83e5576"), looks := true }, kinds := [], alts := [], laidByText := true, laidKinds := [.pinned, .data, .sentinel, .sentinel, .data, .data, .data], laidTests := true, laidLooks := .later }
def OriginUnionsUptoCardSaid : Prop := Claim7.holds Tryz.pinned (.plain (OpenSpec.upto originUnionsSpec)) originUnionsUptoCard
end Rows
end Go.Proofs.YtbfcbkjemlgnpaaGreatDoor
