/- The closed facts of the row of BundlePacks,each by itself. -/
import Derived.Test.YtaadifodgahnjaaGreatDoorChecked
import Derived.Test.YtaadifodgahnjaaGreatDoorRows
import Derived.Test.YtaadifodgahnjaaGreatDoorNoGo
import Derived.JoinedCond
import Derived.SevenTiedAt
import Derived.KernelRfl
namespace Go.Proofs.YtaadifodgahnjaaGreatDoor
namespace packs
open Go
set_option maxRecDepth 100000
theorem band {a b : Bool} (h1 : a = true) (h2 : b = true) : (a && b) = true := by rw [h1,h2]; rfl
theorem k0 : Rows.bundlePacksUptoRow.wf (OpenSpec.ofChange (Rows.OpenSpec.upto Rows.bundlePacksSpec).bare) = true := by kernel_rfl
theorem k1 : laidOutB Tryz.prog = true := by kernel_rfl
theorem k2 : mapsRowed Tryz.prog = true := by kernel_rfl
theorem k3 : Tryz.f3.params.all (Tryz.prog.readableRec ·) = true := by kernel_rfl
theorem k4 : namedTie Tryz.prog Rows.bundlePacksUptoRow.named (Rows.OpenSpec.upto Rows.bundlePacksSpec).bare.vars = true := by kernel_rfl
theorem k5 : (Rows.bundlePacksUptoRow.stops == []) = true := by kernel_rfl
theorem k6 : (Tryz.prog.stops == []) = true := by kernel_rfl
theorem k7 : (Rows.bundlePacksUptoRow.knobs == []) = true := by kernel_rfl
theorem k8 : (Tryz.prog.stopKnobs == []) = true := by kernel_rfl
theorem k9 : (Rows.bundlePacksUptoRow.inPlace == Tryz.prog.inPlace 3) = true := by kernel_rfl
theorem k10 : (Rows.bundlePacksUptoRow.unfollowed == Tryz.prog.unfollowed 3) = true := by kernel_rfl
theorem k11 : (Rows.bundlePacksUptoRow.recurses == Tryz.prog.recurses 3) = true := by kernel_rfl
theorem k12 : (Rows.bundlePacksUptoRow.named == Tryz.prog.varsNamed 3) = true := by kernel_rfl
theorem k13 : (Rows.bundlePacksUptoRow.maps == (Tryz.f3.params.toList ++ (Rows.OpenSpec.upto Rows.bundlePacksSpec).bare.plain.varTypes Tryz.prog).any (Tryz.prog.mapsRec ·)) = true := by kernel_rfl
theorem k14 : (Rows.bundlePacksUptoRow.ifaces == (Tryz.f3.params.toList ++ (Rows.OpenSpec.upto Rows.bundlePacksSpec).bare.plain.varTypes Tryz.prog).any (Tryz.prog.ifacesRec ·)) = true := by kernel_rfl
theorem k15 : (Rows.bundlePacksUptoRow.mapsOut == Tryz.prog.mapsAmong Tryz.f3.resultTypes.toList) = true := by kernel_rfl
theorem k16 : (Rows.bundlePacksUptoRow.loops == (Tryz.f3.params.toList ++ (Rows.OpenSpec.upto Rows.bundlePacksSpec).bare.plain.varTypes Tryz.prog).any (Tryz.prog.loopsFrom ·)) = true := by kernel_rfl
theorem k17 : (Rows.bundlePacksUptoRow.wideKeys == (Tryz.f3.params.toList ++ (Rows.OpenSpec.upto Rows.bundlePacksSpec).bare.plain.varTypes Tryz.prog ++ Tryz.f3.resultTypes.toList).any (Tryz.prog.wideKeysFrom ·)) = true := by kernel_rfl
theorem k18 : (Rows.OpenSpec.upto Rows.bundlePacksSpec).bare.vars.all (Tryz.prog.varReadable ·) = true := by kernel_rfl
theorem k19 : Tryz.f3.resultTypes.all (fun t => Tryz.prog.readableRec t && decide (t < Tryz.prog.types.size)) = true := by kernel_rfl
theorem k20 : (Rows.bundlePacksUptoRow.ifacesOut == Tryz.f3.resultTypes.toList.any (Tryz.prog.ifacesRec ·)) = true := by kernel_rfl
theorem k21 : (Rows.bundlePacksUptoRow.loopsOut == Tryz.f3.resultTypes.toList.any (Tryz.prog.loopsFrom ·)) = true := by kernel_rfl
theorem k22 : (Rows.bundlePacksUptoRow.plainKeys == Tryz.prog.plainKeys) = true := by kernel_rfl
theorem k23 : Rows.bundlePacksUptoRow.shortTexts.isNone = true := by kernel_rfl
theorem k24 : Tryz.prog.stopsHeard = true := by kernel_rfl
theorem k25 : Tryz.prog.mayEnter = true := by kernel_rfl
theorem k26 : (Rows.bundlePacksUptoRow.lifted == Tryz.prog.liftsFinal) = true := by kernel_rfl
theorem k27 : (Tryz.prog.make == some Rows.bundlePacksUptoRow.make) = true := by kernel_rfl
theorem k28 : (Rows.bundlePacksUptoRow.kinds == (if Rows.bundlePacksUptoRow.domain.isEmpty then [] else Tryz.f3.params.toList.map fun t => match Tryz.prog.underlying t with | some (.int k) => some k | _ => none)) = true := by kernel_rfl
theorem k29 : (Rows.bundlePacksUptoRow.pinned == Rows.bundlePacksUptoRow.pinnedBy) = true := by kernel_rfl
theorem k30 : (Rows.bundlePacksUptoRow.veiled == (Tryz.f3.params.toList ++ (Rows.OpenSpec.upto Rows.bundlePacksSpec).bare.plain.varTypes Tryz.prog ++ Tryz.f3.resultTypes.toList).any (Tryz.prog.veiledRec ·)) = true := by kernel_rfl
theorem k31 : Rows.bundlePacksUptoRow.veiledFits Tryz.prog Tryz.f3.params.toList (Tryz.f3.params.toList ++ (Rows.OpenSpec.upto Rows.bundlePacksSpec).bare.plain.varTypes Tryz.prog ++ Tryz.f3.resultTypes.toList) = true := by kernel_rfl
theorem closed : joinedFacts Tryz.prog 3 Tryz.f3 (Rows.OpenSpec.upto Rows.bundlePacksSpec).bare Rows.bundlePacksUptoRow = true := band (band (band (band (band (band (band (band (band (band (band (band (band (band (band (band (band (band (band (band (band (band (band (band (band (band (band (band (band (band (band k0 k1) k2) k3) k4) k5) k6) k7) k8) k9) k10) k11) k12) k13) k14) k15) k16) k17) k18) k19) k20) k21) k22) k23) k24) k25) k26) k27) k28) k29) k30) k31
theorem wfT : Rows.bundlePacksUptoRow.wfByText (Rows.OpenSpec.upto Rows.bundlePacksSpec) = true := by kernel_rfl
theorem mainT : Tryz.prog.mainIs = some (((true,"7b5573bdd0e1ba808329bc0464fdd7ccd747056d471a0e94b4dae6eb84af28dd") : Bool × String).1,((true,"7b5573bdd0e1ba808329bc0464fdd7ccd747056d471a0e94b4dae6eb84af28dd") : Bool × String).2.toList) := by kernel_rfl
theorem goesT : false = Rows.bundlePacksUptoRow.goesBy Tryz.prog := goesBy_false (start := rfl) noGo
theorem nameT : Tryz.prog.funcNamed Rows.bundlePacksUptoRow.func = some 3 := by kernel_rfl
end packs
end Go.Proofs.YtaadifodgahnjaaGreatDoor
