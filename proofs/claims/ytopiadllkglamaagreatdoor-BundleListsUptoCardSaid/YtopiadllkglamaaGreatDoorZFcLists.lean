/- The closed facts of the row of BundleLists,each by itself. -/
import Derived.Test.YtopiadllkglamaaGreatDoorChecked
import Derived.Test.YtopiadllkglamaaGreatDoorRows
import Derived.Test.YtopiadllkglamaaGreatDoorNoGo
import Derived.JoinedCond
import Derived.SevenTiedAt
import Derived.KernelRfl
namespace Go.Proofs.YtopiadllkglamaaGreatDoor
namespace lists
open Go
set_option maxRecDepth 100000
theorem band {a b : Bool} (h1 : a = true) (h2 : b = true) : (a && b) = true := by rw [h1,h2]; rfl
theorem k0 : Rows.bundleListsUptoRow.wf (OpenSpec.ofChange (Rows.OpenSpec.upto Rows.bundleListsSpec).bare) = true := by kernel_rfl
theorem k1 : laidOutB Tryz.prog = true := by kernel_rfl
theorem k2 : mapsRowed Tryz.prog = true := by kernel_rfl
theorem k3 : Tryz.f3.params.all (Tryz.prog.readableRec ·) = true := by kernel_rfl
theorem k4 : namedTie Tryz.prog Rows.bundleListsUptoRow.named (Rows.OpenSpec.upto Rows.bundleListsSpec).bare.vars = true := by kernel_rfl
theorem k5 : (Rows.bundleListsUptoRow.stops == []) = true := by kernel_rfl
theorem k6 : (Tryz.prog.stops == []) = true := by kernel_rfl
theorem k7 : (Rows.bundleListsUptoRow.knobs == []) = true := by kernel_rfl
theorem k8 : (Tryz.prog.stopKnobs == []) = true := by kernel_rfl
theorem k9 : (Rows.bundleListsUptoRow.inPlace == Tryz.prog.inPlace 3) = true := by kernel_rfl
theorem k10 : (Rows.bundleListsUptoRow.unfollowed == Tryz.prog.unfollowed 3) = true := by kernel_rfl
theorem k11 : (Rows.bundleListsUptoRow.recurses == Tryz.prog.recurses 3) = true := by kernel_rfl
theorem k12 : (Rows.bundleListsUptoRow.named == Tryz.prog.varsNamed 3) = true := by kernel_rfl
theorem k13 : (Rows.bundleListsUptoRow.maps == (Tryz.f3.params.toList ++ (Rows.OpenSpec.upto Rows.bundleListsSpec).bare.plain.varTypes Tryz.prog).any (Tryz.prog.mapsRec ·)) = true := by kernel_rfl
theorem k14 : (Rows.bundleListsUptoRow.ifaces == (Tryz.f3.params.toList ++ (Rows.OpenSpec.upto Rows.bundleListsSpec).bare.plain.varTypes Tryz.prog).any (Tryz.prog.ifacesRec ·)) = true := by kernel_rfl
theorem k15 : (Rows.bundleListsUptoRow.mapsOut == Tryz.prog.mapsAmong Tryz.f3.resultTypes.toList) = true := by kernel_rfl
theorem k16 : (Rows.bundleListsUptoRow.loops == (Tryz.f3.params.toList ++ (Rows.OpenSpec.upto Rows.bundleListsSpec).bare.plain.varTypes Tryz.prog).any (Tryz.prog.loopsFrom ·)) = true := by kernel_rfl
theorem k17 : (Rows.bundleListsUptoRow.wideKeys == (Tryz.f3.params.toList ++ (Rows.OpenSpec.upto Rows.bundleListsSpec).bare.plain.varTypes Tryz.prog ++ Tryz.f3.resultTypes.toList).any (Tryz.prog.wideKeysFrom ·)) = true := by kernel_rfl
theorem k18 : (Rows.OpenSpec.upto Rows.bundleListsSpec).bare.vars.all (Tryz.prog.varReadable ·) = true := by kernel_rfl
theorem k19 : Tryz.f3.resultTypes.all (fun t => Tryz.prog.readableRec t && decide (t < Tryz.prog.types.size)) = true := by kernel_rfl
theorem k20 : (Rows.bundleListsUptoRow.ifacesOut == Tryz.f3.resultTypes.toList.any (Tryz.prog.ifacesRec ·)) = true := by kernel_rfl
theorem k21 : (Rows.bundleListsUptoRow.loopsOut == Tryz.f3.resultTypes.toList.any (Tryz.prog.loopsFrom ·)) = true := by kernel_rfl
theorem k22 : (Rows.bundleListsUptoRow.plainKeys == Tryz.prog.plainKeys) = true := by kernel_rfl
theorem k23 : Rows.bundleListsUptoRow.shortTexts.isNone = true := by kernel_rfl
theorem k24 : Tryz.prog.stopsHeard = true := by kernel_rfl
theorem k25 : Tryz.prog.mayEnter = true := by kernel_rfl
theorem k26 : (Rows.bundleListsUptoRow.lifted == Tryz.prog.liftsFinal) = true := by kernel_rfl
theorem k27 : (Tryz.prog.make == some Rows.bundleListsUptoRow.make) = true := by kernel_rfl
theorem k28 : (Rows.bundleListsUptoRow.kinds == (if Rows.bundleListsUptoRow.domain.isEmpty then [] else Tryz.f3.params.toList.map fun t => match Tryz.prog.underlying t with | some (.int k) => some k | _ => none)) = true := by kernel_rfl
theorem k29 : (Rows.bundleListsUptoRow.pinned == Rows.bundleListsUptoRow.pinnedBy) = true := by kernel_rfl
theorem k30 : (Rows.bundleListsUptoRow.veiled == (Tryz.f3.params.toList ++ (Rows.OpenSpec.upto Rows.bundleListsSpec).bare.plain.varTypes Tryz.prog ++ Tryz.f3.resultTypes.toList).any (Tryz.prog.veiledRec ·)) = true := by kernel_rfl
theorem k31 : Rows.bundleListsUptoRow.veiledFits Tryz.prog Tryz.f3.params.toList (Tryz.f3.params.toList ++ (Rows.OpenSpec.upto Rows.bundleListsSpec).bare.plain.varTypes Tryz.prog ++ Tryz.f3.resultTypes.toList) = true := by kernel_rfl
theorem closed : joinedFacts Tryz.prog 3 Tryz.f3 (Rows.OpenSpec.upto Rows.bundleListsSpec).bare Rows.bundleListsUptoRow = true := band (band (band (band (band (band (band (band (band (band (band (band (band (band (band (band (band (band (band (band (band (band (band (band (band (band (band (band (band (band (band k0 k1) k2) k3) k4) k5) k6) k7) k8) k9) k10) k11) k12) k13) k14) k15) k16) k17) k18) k19) k20) k21) k22) k23) k24) k25) k26) k27) k28) k29) k30) k31
theorem wfT : Rows.bundleListsUptoRow.wfByText (Rows.OpenSpec.upto Rows.bundleListsSpec) = true := by kernel_rfl
theorem mainT : Tryz.prog.mainIs = some (((true,"f2a9ee6875ba6cc92567d2715302ab54e48734a4160741a3e5805685067462a2") : Bool × String).1,((true,"f2a9ee6875ba6cc92567d2715302ab54e48734a4160741a3e5805685067462a2") : Bool × String).2.toList) := by kernel_rfl
theorem goesT : false = Rows.bundleListsUptoRow.goesBy Tryz.prog := goesBy_false (start := rfl) noGo
theorem nameT : Tryz.prog.funcNamed Rows.bundleListsUptoRow.func = some 3 := by kernel_rfl
end lists
end Go.Proofs.YtopiadllkglamaaGreatDoor
