/- The closed facts of the row of BundleManifests,each by itself. -/
import Derived.Test.YtopiadllkglamaaGreatDoorChecked
import Derived.Test.YtopiadllkglamaaGreatDoorRows
import Derived.Test.YtopiadllkglamaaGreatDoorNoGo
import Derived.JoinedCond
import Derived.SevenTiedAt
import Derived.KernelRfl
namespace Go.Proofs.YtopiadllkglamaaGreatDoor
namespace manifests
open Go
set_option maxRecDepth 100000
theorem band {a b : Bool} (h1 : a = true) (h2 : b = true) : (a && b) = true := by rw [h1,h2]; rfl
theorem k0 : Rows.bundleManifestsUptoRow.wf (OpenSpec.ofChange (Rows.OpenSpec.upto Rows.bundleManifestsSpec).bare) = true := by kernel_rfl
theorem k1 : laidOutB Tryz.prog = true := by kernel_rfl
theorem k2 : mapsRowed Tryz.prog = true := by kernel_rfl
theorem k3 : Tryz.f5.params.all (Tryz.prog.readableRec ·) = true := by kernel_rfl
theorem k4 : namedTie Tryz.prog Rows.bundleManifestsUptoRow.named (Rows.OpenSpec.upto Rows.bundleManifestsSpec).bare.vars = true := by kernel_rfl
theorem k5 : (Rows.bundleManifestsUptoRow.stops == []) = true := by kernel_rfl
theorem k6 : (Tryz.prog.stops == []) = true := by kernel_rfl
theorem k7 : (Rows.bundleManifestsUptoRow.knobs == []) = true := by kernel_rfl
theorem k8 : (Tryz.prog.stopKnobs == []) = true := by kernel_rfl
theorem k9 : (Rows.bundleManifestsUptoRow.inPlace == Tryz.prog.inPlace 5) = true := by kernel_rfl
theorem k10 : (Rows.bundleManifestsUptoRow.unfollowed == Tryz.prog.unfollowed 5) = true := by kernel_rfl
theorem k11 : (Rows.bundleManifestsUptoRow.recurses == Tryz.prog.recurses 5) = true := by kernel_rfl
theorem k12 : (Rows.bundleManifestsUptoRow.named == Tryz.prog.varsNamed 5) = true := by kernel_rfl
theorem k13 : (Rows.bundleManifestsUptoRow.maps == (Tryz.f5.params.toList ++ (Rows.OpenSpec.upto Rows.bundleManifestsSpec).bare.plain.varTypes Tryz.prog).any (Tryz.prog.mapsRec ·)) = true := by kernel_rfl
theorem k14 : (Rows.bundleManifestsUptoRow.ifaces == (Tryz.f5.params.toList ++ (Rows.OpenSpec.upto Rows.bundleManifestsSpec).bare.plain.varTypes Tryz.prog).any (Tryz.prog.ifacesRec ·)) = true := by kernel_rfl
theorem k15 : (Rows.bundleManifestsUptoRow.mapsOut == Tryz.prog.mapsAmong Tryz.f5.resultTypes.toList) = true := by kernel_rfl
theorem k16 : (Rows.bundleManifestsUptoRow.loops == (Tryz.f5.params.toList ++ (Rows.OpenSpec.upto Rows.bundleManifestsSpec).bare.plain.varTypes Tryz.prog).any (Tryz.prog.loopsFrom ·)) = true := by kernel_rfl
theorem k17 : (Rows.bundleManifestsUptoRow.wideKeys == (Tryz.f5.params.toList ++ (Rows.OpenSpec.upto Rows.bundleManifestsSpec).bare.plain.varTypes Tryz.prog ++ Tryz.f5.resultTypes.toList).any (Tryz.prog.wideKeysFrom ·)) = true := by kernel_rfl
theorem k18 : (Rows.OpenSpec.upto Rows.bundleManifestsSpec).bare.vars.all (Tryz.prog.varReadable ·) = true := by kernel_rfl
theorem k19 : Tryz.f5.resultTypes.all (fun t => Tryz.prog.readableRec t && decide (t < Tryz.prog.types.size)) = true := by kernel_rfl
theorem k20 : (Rows.bundleManifestsUptoRow.ifacesOut == Tryz.f5.resultTypes.toList.any (Tryz.prog.ifacesRec ·)) = true := by kernel_rfl
theorem k21 : (Rows.bundleManifestsUptoRow.loopsOut == Tryz.f5.resultTypes.toList.any (Tryz.prog.loopsFrom ·)) = true := by kernel_rfl
theorem k22 : (Rows.bundleManifestsUptoRow.plainKeys == Tryz.prog.plainKeys) = true := by kernel_rfl
theorem k23 : Rows.bundleManifestsUptoRow.shortTexts.isNone = true := by kernel_rfl
theorem k24 : Tryz.prog.stopsHeard = true := by kernel_rfl
theorem k25 : Tryz.prog.mayEnter = true := by kernel_rfl
theorem k26 : (Rows.bundleManifestsUptoRow.lifted == Tryz.prog.liftsFinal) = true := by kernel_rfl
theorem k27 : (Tryz.prog.make == some Rows.bundleManifestsUptoRow.make) = true := by kernel_rfl
theorem k28 : (Rows.bundleManifestsUptoRow.kinds == (if Rows.bundleManifestsUptoRow.domain.isEmpty then [] else Tryz.f5.params.toList.map fun t => match Tryz.prog.underlying t with | some (.int k) => some k | _ => none)) = true := by kernel_rfl
theorem k29 : (Rows.bundleManifestsUptoRow.pinned == Rows.bundleManifestsUptoRow.pinnedBy) = true := by kernel_rfl
theorem k30 : (Rows.bundleManifestsUptoRow.veiled == (Tryz.f5.params.toList ++ (Rows.OpenSpec.upto Rows.bundleManifestsSpec).bare.plain.varTypes Tryz.prog ++ Tryz.f5.resultTypes.toList).any (Tryz.prog.veiledRec ·)) = true := by kernel_rfl
theorem k31 : Rows.bundleManifestsUptoRow.veiledFits Tryz.prog Tryz.f5.params.toList (Tryz.f5.params.toList ++ (Rows.OpenSpec.upto Rows.bundleManifestsSpec).bare.plain.varTypes Tryz.prog ++ Tryz.f5.resultTypes.toList) = true := by kernel_rfl
theorem closed : joinedFacts Tryz.prog 5 Tryz.f5 (Rows.OpenSpec.upto Rows.bundleManifestsSpec).bare Rows.bundleManifestsUptoRow = true := band (band (band (band (band (band (band (band (band (band (band (band (band (band (band (band (band (band (band (band (band (band (band (band (band (band (band (band (band (band (band k0 k1) k2) k3) k4) k5) k6) k7) k8) k9) k10) k11) k12) k13) k14) k15) k16) k17) k18) k19) k20) k21) k22) k23) k24) k25) k26) k27) k28) k29) k30) k31
theorem wfT : Rows.bundleManifestsUptoRow.wfByText (Rows.OpenSpec.upto Rows.bundleManifestsSpec) = true := by kernel_rfl
theorem mainT : Tryz.prog.mainIs = some (((true,"f2a9ee6875ba6cc92567d2715302ab54e48734a4160741a3e5805685067462a2") : Bool × String).1,((true,"f2a9ee6875ba6cc92567d2715302ab54e48734a4160741a3e5805685067462a2") : Bool × String).2.toList) := by kernel_rfl
theorem goesT : false = Rows.bundleManifestsUptoRow.goesBy Tryz.prog := goesBy_false (start := rfl) noGo
theorem nameT : Tryz.prog.funcNamed Rows.bundleManifestsUptoRow.func = some 5 := by kernel_rfl
end manifests
end Go.Proofs.YtopiadllkglamaaGreatDoor
