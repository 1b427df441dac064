/-
  DERIVED. GIVEN WITH THE SEED: THE CARDS: each row of YtdebajodkallbaaGreatDoorRows.lean that lists a variable, with what it lists TIED to the program's text (the seventh form; the later family's looks); each row that meets fmt, with fmt's text TOLD by the authors' own Lean function (tested against real Go, not proved from fmt's source: count such statements apart). THE CARD IS WHAT COUNTS. Prove the row's statement (the work); the ties are given (YtdebajodkallbaaGreatDoorTie.lean); close each card by the builder's one call (the guide's Derived/Test/ToyasCard.lean, 'card_holds'). Laid BY PROGRAM, IN A SANDBOX (cutbox-door.mjs). By AI agents, Wed Nov 11 2026. No macro, syntax, notation, axiom, sorry.
-/
import Derived.Test.YtdebajodkallbaaGreatDoorRows
import GoSem.ClaimSeven
namespace Go.Proofs.YtdebajodkallbaaGreatDoor
namespace Rows

/-- THE TIED CARD OF 'licitlaw46.BundleSeals'. -/
def bundleSealsCard : Claim7 := { stood := { row := bundleSealsRow, standIns := [], harness := (true, "370807a4155f256b896277481e6228235abd0af36d9a9a5ea8ed366b4d8f0f22"), looks := true }, kinds := [], alts := [], laidByText := true, laidKinds := [.pinned, .data, .sentinel, .sentinel, .data, .data, .data], laidTests := true, laidLooks := .later }
def BundleSealsCardSaid : Prop := Claim7.holds Tryz.pinned (.plain (OpenSpec.ofChange bundleSealsSpec)) bundleSealsCard

/-- THE SECOND FORM's CARD OF 'licitlaw46.BundleSeals'. -/
def bundleSealsUptoCard : Claim7 := { stood := { row := bundleSealsUptoRow, standIns := [], harness := (true, "370807a4155f256b896277481e6228235abd0af36d9a9a5ea8ed366b4d8f0f22"), looks := true }, kinds := [], alts := [], laidByText := true, laidKinds := [.pinned, .data, .sentinel, .sentinel, .data, .data, .data], laidTests := true, laidLooks := .later }
def BundleSealsUptoCardSaid : Prop := Claim7.holds Tryz.pinned (.plain (OpenSpec.upto bundleSealsSpec)) bundleSealsUptoCard
end Rows
end Go.Proofs.YtdebajodkallbaaGreatDoor
