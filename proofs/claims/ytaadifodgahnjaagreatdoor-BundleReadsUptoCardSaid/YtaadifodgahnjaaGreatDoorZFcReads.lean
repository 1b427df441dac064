/- The closed facts of the row of BundleReads,each by itself. -/
import Derived.Test.YtaadifodgahnjaaGreatDoorChecked
import Derived.Test.YtaadifodgahnjaaGreatDoorRows
import Derived.Test.YtaadifodgahnjaaGreatDoorNoGo
import Derived.JoinedCond
import Derived.SevenTiedAt
import Derived.KernelRfl
namespace Go.Proofs.YtaadifodgahnjaaGreatDoor
namespace reads
open Go
set_option maxRecDepth 100000
theorem band {a b : Bool} (h1 : a = true) (h2 : b = true) : (a && b) = true := by rw [h1,h2]; rfl
theorem k0 : Rows.bundleReadsUptoRow.wf (OpenSpec.ofChange (Rows.OpenSpec.upto Rows.bundleReadsSpec).bare) = true := by kernel_rfl
theorem k1 : laidOutB Tryz.prog = true := by kernel_rfl
theorem k2 : mapsRowed Tryz.prog = true := by kernel_rfl
theorem k3 : Tryz.f5.params.all (Tryz.prog.readableRec ·) = true := by kernel_rfl
theorem k4 : namedTie Tryz.prog Rows.bundleReadsUptoRow.named (Rows.OpenSpec.upto Rows.bundleReadsSpec).bare.vars = true := by kernel_rfl
theorem k5 : (Rows.bundleReadsUptoRow.stops == []) = true := by kernel_rfl
theorem k6 : (Tryz.prog.stops == []) = true := by kernel_rfl
theorem k7 : (Rows.bundleReadsUptoRow.knobs == []) = true := by kernel_rfl
theorem k8 : (Tryz.prog.stopKnobs == []) = true := by kernel_rfl
theorem k9 : (Rows.bundleReadsUptoRow.inPlace == Tryz.prog.inPlace 5) = true := by kernel_rfl
theorem k10 : (Rows.bundleReadsUptoRow.unfollowed == Tryz.prog.unfollowed 5) = true := by kernel_rfl
theorem k11 : (Rows.bundleReadsUptoRow.recurses == Tryz.prog.recurses 5) = true := by kernel_rfl
theorem k12 : (Rows.bundleReadsUptoRow.named == Tryz.prog.varsNamed 5) = true := by kernel_rfl
theorem k13 : (Rows.bundleReadsUptoRow.maps == (Tryz.f5.params.toList ++ (Rows.OpenSpec.upto Rows.bundleReadsSpec).bare.plain.varTypes Tryz.prog).any (Tryz.prog.mapsRec ·)) = true := by kernel_rfl
theorem k14 : (Rows.bundleReadsUptoRow.ifaces == (Tryz.f5.params.toList ++ (Rows.OpenSpec.upto Rows.bundleReadsSpec).bare.plain.varTypes Tryz.prog).any (Tryz.prog.ifacesRec ·)) = true := by kernel_rfl
theorem k15 : (Rows.bundleReadsUptoRow.mapsOut == Tryz.prog.mapsAmong Tryz.f5.resultTypes.toList) = true := by kernel_rfl
theorem k16 : (Rows.bundleReadsUptoRow.loops == (Tryz.f5.params.toList ++ (Rows.OpenSpec.upto Rows.bundleReadsSpec).bare.plain.varTypes Tryz.prog).any (Tryz.prog.loopsFrom ·)) = true := by kernel_rfl
theorem k17 : (Rows.bundleReadsUptoRow.wideKeys == (Tryz.f5.params.toList ++ (Rows.OpenSpec.upto Rows.bundleReadsSpec).bare.plain.varTypes Tryz.prog ++ Tryz.f5.resultTypes.toList).any (Tryz.prog.wideKeysFrom ·)) = true := by kernel_rfl
theorem k18 : (Rows.OpenSpec.upto Rows.bundleReadsSpec).bare.vars.all (Tryz.prog.varReadable ·) = true := by kernel_rfl
theorem k19 : Tryz.f5.resultTypes.all (fun t => Tryz.prog.readableRec t && decide (t < Tryz.prog.types.size)) = true := by kernel_rfl
theorem k20 : (Rows.bundleReadsUptoRow.ifacesOut == Tryz.f5.resultTypes.toList.any (Tryz.prog.ifacesRec ·)) = true := by kernel_rfl
theorem k21 : (Rows.bundleReadsUptoRow.loopsOut == Tryz.f5.resultTypes.toList.any (Tryz.prog.loopsFrom ·)) = true := by kernel_rfl
theorem k22 : (Rows.bundleReadsUptoRow.plainKeys == Tryz.prog.plainKeys) = true := by kernel_rfl
theorem k23 : Rows.bundleReadsUptoRow.shortTexts.isNone = true := by kernel_rfl
theorem k24 : Tryz.prog.stopsHeard = true := by kernel_rfl
theorem k25 : Tryz.prog.mayEnter = true := by kernel_rfl
theorem k26 : (Rows.bundleReadsUptoRow.lifted == Tryz.prog.liftsFinal) = true := by kernel_rfl
theorem k27 : (Tryz.prog.make == some Rows.bundleReadsUptoRow.make) = true := by kernel_rfl
theorem k28 : (Rows.bundleReadsUptoRow.kinds == (if Rows.bundleReadsUptoRow.domain.isEmpty then [] else Tryz.f5.params.toList.map fun t => match Tryz.prog.underlying t with | some (.int k) => some k | _ => none)) = true := by kernel_rfl
theorem k29 : (Rows.bundleReadsUptoRow.pinned == Rows.bundleReadsUptoRow.pinnedBy) = true := by kernel_rfl
theorem k30 : (Rows.bundleReadsUptoRow.veiled == (Tryz.f5.params.toList ++ (Rows.OpenSpec.upto Rows.bundleReadsSpec).bare.plain.varTypes Tryz.prog ++ Tryz.f5.resultTypes.toList).any (Tryz.prog.veiledRec ·)) = true := by kernel_rfl
theorem k31 : Rows.bundleReadsUptoRow.veiledFits Tryz.prog Tryz.f5.params.toList (Tryz.f5.params.toList ++ (Rows.OpenSpec.upto Rows.bundleReadsSpec).bare.plain.varTypes Tryz.prog ++ Tryz.f5.resultTypes.toList) = true := by kernel_rfl
theorem closed : joinedFacts Tryz.prog 5 Tryz.f5 (Rows.OpenSpec.upto Rows.bundleReadsSpec).bare Rows.bundleReadsUptoRow = true := band (band (band (band (band (band (band (band (band (band (band (band (band (band (band (band (band (band (band (band (band (band (band (band (band (band (band (band (band (band (band k0 k1) k2) k3) k4) k5) k6) k7) k8) k9) k10) k11) k12) k13) k14) k15) k16) k17) k18) k19) k20) k21) k22) k23) k24) k25) k26) k27) k28) k29) k30) k31
theorem wfT : Rows.bundleReadsUptoRow.wfByText (Rows.OpenSpec.upto Rows.bundleReadsSpec) = true := by kernel_rfl
theorem mainT : Tryz.prog.mainIs = some (((true,"7b5573bdd0e1ba808329bc0464fdd7ccd747056d471a0e94b4dae6eb84af28dd") : Bool × String).1,((true,"7b5573bdd0e1ba808329bc0464fdd7ccd747056d471a0e94b4dae6eb84af28dd") : Bool × String).2.toList) := by kernel_rfl
theorem goesT : false = Rows.bundleReadsUptoRow.goesBy Tryz.prog := goesBy_false (start := rfl) noGo
theorem nameT : Tryz.prog.funcNamed Rows.bundleReadsUptoRow.func = some 5 := by kernel_rfl
end reads
end Go.Proofs.YtaadifodgahnjaaGreatDoor
