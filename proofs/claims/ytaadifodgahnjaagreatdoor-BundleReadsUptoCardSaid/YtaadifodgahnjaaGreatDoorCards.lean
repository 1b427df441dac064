/-
  DERIVED. GIVEN WITH THE SEED: THE CARDS: each row of YtaadifodgahnjaaGreatDoorRows.lean that lists a variable, with what it lists TIED to the program's text (the seventh form; the later family's looks); each row that meets fmt, with fmt's text TOLD by the authors' own Lean function (tested against real Go, not proved from fmt's source: count such statements apart). THE CARD IS WHAT COUNTS. Prove the row's statement (the work); the ties are given (YtaadifodgahnjaaGreatDoorTie.lean); close each card by the builder's one call (the guide's Derived/Test/ToyasCard.lean, 'card_holds'). Laid BY PROGRAM, IN A SANDBOX (cutbox-door.mjs). By AI agents, Wed Nov 11 2026. No macro, syntax, notation, axiom, sorry.
-/
import Derived.Test.YtaadifodgahnjaaGreatDoorRows
import GoSem.ClaimSeven
namespace Go.Proofs.YtaadifodgahnjaaGreatDoor
namespace Rows

/-- THE TIED CARD OF 'licitlaw46.BundlePacks'. -/
def bundlePacksCard : Claim7 := { stood := { row := bundlePacksRow, standIns := [], harness := (true, "7b5573bdd0e1ba808329bc0464fdd7ccd747056d471a0e94b4dae6eb84af28dd"), looks := true }, kinds := [], alts := [], laidByText := true, laidKinds := [.pinned, .data, .sentinel, .sentinel, .data, .data, .data], laidTests := true, laidLooks := .later }
def BundlePacksCardSaid : Prop := Claim7.holds Tryz.pinned (.plain (OpenSpec.ofChange bundlePacksSpec)) bundlePacksCard

/-- THE TIED CARD OF 'licitlaw46.BundleUnpacks'. -/
def bundleUnpacksCard : Claim7 := { stood := { row := bundleUnpacksRow, standIns := [], harness := (true, "7b5573bdd0e1ba808329bc0464fdd7ccd747056d471a0e94b4dae6eb84af28dd"), looks := true }, kinds := [], alts := [], laidByText := true, laidKinds := [.pinned, .data, .sentinel, .sentinel, .data, .data, .data], laidTests := true, laidLooks := .later }
def BundleUnpacksCardSaid : Prop := Claim7.holds Tryz.pinned (.plain (OpenSpec.ofChange bundleUnpacksSpec)) bundleUnpacksCard

/-- THE TIED CARD OF 'licitlaw46.BundleReads'. -/
def bundleReadsCard : Claim7 := { stood := { row := bundleReadsRow, standIns := [], harness := (true, "7b5573bdd0e1ba808329bc0464fdd7ccd747056d471a0e94b4dae6eb84af28dd"), looks := true }, kinds := [], alts := [], laidByText := true, laidKinds := [.pinned, .data, .sentinel, .sentinel, .data, .data, .data], laidTests := true, laidLooks := .later }
def BundleReadsCardSaid : Prop := Claim7.holds Tryz.pinned (.plain (OpenSpec.ofChange bundleReadsSpec)) bundleReadsCard

/-- THE SECOND FORM's CARD OF 'licitlaw46.BundlePacks'. -/
def bundlePacksUptoCard : Claim7 := { stood := { row := bundlePacksUptoRow, standIns := [], harness := (true, "7b5573bdd0e1ba808329bc0464fdd7ccd747056d471a0e94b4dae6eb84af28dd"), looks := true }, kinds := [], alts := [], laidByText := true, laidKinds := [.pinned, .data, .sentinel, .sentinel, .data, .data, .data], laidTests := true, laidLooks := .later }
def BundlePacksUptoCardSaid : Prop := Claim7.holds Tryz.pinned (.plain (OpenSpec.upto bundlePacksSpec)) bundlePacksUptoCard

/-- THE SECOND FORM's CARD OF 'licitlaw46.BundleUnpacks'. -/
def bundleUnpacksUptoCard : Claim7 := { stood := { row := bundleUnpacksUptoRow, standIns := [], harness := (true, "7b5573bdd0e1ba808329bc0464fdd7ccd747056d471a0e94b4dae6eb84af28dd"), looks := true }, kinds := [], alts := [], laidByText := true, laidKinds := [.pinned, .data, .sentinel, .sentinel, .data, .data, .data], laidTests := true, laidLooks := .later }
def BundleUnpacksUptoCardSaid : Prop := Claim7.holds Tryz.pinned (.plain (OpenSpec.upto bundleUnpacksSpec)) bundleUnpacksUptoCard

/-- THE SECOND FORM's CARD OF 'licitlaw46.BundleReads'. -/
def bundleReadsUptoCard : Claim7 := { stood := { row := bundleReadsUptoRow, standIns := [], harness := (true, "7b5573bdd0e1ba808329bc0464fdd7ccd747056d471a0e94b4dae6eb84af28dd"), looks := true }, kinds := [], alts := [], laidByText := true, laidKinds := [.pinned, .data, .sentinel, .sentinel, .data, .data, .data], laidTests := true, laidLooks := .later }
def BundleReadsUptoCardSaid : Prop := Claim7.holds Tryz.pinned (.plain (OpenSpec.upto bundleReadsSpec)) bundleReadsUptoCard
end Rows
end Go.Proofs.YtaadifodgahnjaaGreatDoor
