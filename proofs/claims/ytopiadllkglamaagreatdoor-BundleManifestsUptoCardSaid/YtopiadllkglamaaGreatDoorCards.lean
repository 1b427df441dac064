/-
  DERIVED. GIVEN WITH THE SEED: THE CARDS: each row of YtopiadllkglamaaGreatDoorRows.lean that lists a variable, with what it lists TIED to the program's text (the seventh form; the later family's looks); each row that meets fmt, with fmt's text TOLD by the authors' own Lean function (tested against real Go, not proved from fmt's source: count such statements apart). THE CARD IS WHAT COUNTS. Prove the row's statement (the work); the ties are given (YtopiadllkglamaaGreatDoorTie.lean); close each card by the builder's one call (the guide's Derived/Test/ToyasCard.lean, 'card_holds'). Laid BY PROGRAM, IN A SANDBOX (cutbox-door.mjs). By AI agents, Wed Nov 11 2026. No macro, syntax, notation, axiom, sorry.
-/
import Derived.Test.YtopiadllkglamaaGreatDoorRows
import GoSem.ClaimSeven
namespace Go.Proofs.YtopiadllkglamaaGreatDoor
namespace Rows

/-- THE TIED CARD OF 'licitlaw46.BundleLists'. -/
def bundleListsCard : Claim7 := { stood := { row := bundleListsRow, standIns := [], harness := (true, "f2a9ee6875ba6cc92567d2715302ab54e48734a4160741a3e5805685067462a2"), looks := true }, kinds := [], alts := [], laidByText := true, laidKinds := [.pinned, .data, .sentinel, .sentinel, .data, .data, .data], laidTests := true, laidLooks := .later }
def BundleListsCardSaid : Prop := Claim7.holds Tryz.pinned (.plain (OpenSpec.ofChange bundleListsSpec)) bundleListsCard

/-- THE TIED CARD OF 'licitlaw46.BundleJoins'. -/
def bundleJoinsCard : Claim7 := { stood := { row := bundleJoinsRow, standIns := [], harness := (true, "f2a9ee6875ba6cc92567d2715302ab54e48734a4160741a3e5805685067462a2"), looks := true }, kinds := [], alts := [], laidByText := true, laidKinds := [.pinned, .data, .sentinel, .sentinel, .data, .data, .data], laidTests := true, laidLooks := .later }
def BundleJoinsCardSaid : Prop := Claim7.holds Tryz.pinned (.plain (OpenSpec.ofChange bundleJoinsSpec)) bundleJoinsCard

/-- THE TIED CARD OF 'licitlaw46.BundleManifests'. -/
def bundleManifestsCard : Claim7 := { stood := { row := bundleManifestsRow, standIns := [], harness := (true, "f2a9ee6875ba6cc92567d2715302ab54e48734a4160741a3e5805685067462a2"), looks := true }, kinds := [], alts := [], laidByText := true, laidKinds := [.pinned, .data, .sentinel, .sentinel, .data, .data, .data], laidTests := true, laidLooks := .later }
def BundleManifestsCardSaid : Prop := Claim7.holds Tryz.pinned (.plain (OpenSpec.ofChange bundleManifestsSpec)) bundleManifestsCard

/-- THE SECOND FORM's CARD OF 'licitlaw46.BundleLists'. -/
def bundleListsUptoCard : Claim7 := { stood := { row := bundleListsUptoRow, standIns := [], harness := (true, "f2a9ee6875ba6cc92567d2715302ab54e48734a4160741a3e5805685067462a2"), looks := true }, kinds := [], alts := [], laidByText := true, laidKinds := [.pinned, .data, .sentinel, .sentinel, .data, .data, .data], laidTests := true, laidLooks := .later }
def BundleListsUptoCardSaid : Prop := Claim7.holds Tryz.pinned (.plain (OpenSpec.upto bundleListsSpec)) bundleListsUptoCard

/-- THE SECOND FORM's CARD OF 'licitlaw46.BundleJoins'. -/
def bundleJoinsUptoCard : Claim7 := { stood := { row := bundleJoinsUptoRow, standIns := [], harness := (true, "f2a9ee6875ba6cc92567d2715302ab54e48734a4160741a3e5805685067462a2"), looks := true }, kinds := [], alts := [], laidByText := true, laidKinds := [.pinned, .data, .sentinel, .sentinel, .data, .data, .data], laidTests := true, laidLooks := .later }
def BundleJoinsUptoCardSaid : Prop := Claim7.holds Tryz.pinned (.plain (OpenSpec.upto bundleJoinsSpec)) bundleJoinsUptoCard

/-- THE SECOND FORM's CARD OF 'licitlaw46.BundleManifests'. -/
def bundleManifestsUptoCard : Claim7 := { stood := { row := bundleManifestsUptoRow, standIns := [], harness := (true, "f2a9ee6875ba6cc92567d2715302ab54e48734a4160741a3e5805685067462a2"), looks := true }, kinds := [], alts := [], laidByText := true, laidKinds := [.pinned, .data, .sentinel, .sentinel, .data, .data, .data], laidTests := true, laidLooks := .later }
def BundleManifestsUptoCardSaid : Prop := Claim7.holds Tryz.pinned (.plain (OpenSpec.upto bundleManifestsSpec)) bundleManifestsUptoCard
end Rows
end Go.Proofs.YtopiadllkglamaaGreatDoor
