/- The closed facts of the row of BundleS -/
import Derived.Test.YtdebajodkallbaaGreatDoorNoGo
import Derived.JoinedCond
namespace Go.Proofs.YtdebajodkallbaaGreatDoor
section
namespace seals
open Go
set_option maxRecDepth 100000
theorem k13:(Rows.bundleSealsUptoRow.maps==(Tryz.f3.params.toList++(Rows.OpenSpec.upto Rows.bundleSealsSpec).bare.plain.varTypes Tryz.prog).any (Tryz.prog.mapsRec ·))=true:=by kernel_rfl
theorem k14:(Rows.bundleSealsUptoRow.ifaces==(Tryz.f3.params.toList++(Rows.OpenSpec.upto Rows.bundleSealsSpec).bare.plain.varTypes Tryz.prog).any (Tryz.prog.ifacesRec ·))=true:=by kernel_rfl
theorem k15:(Rows.bundleSealsUptoRow.mapsOut==Tryz.prog.mapsAmong Tryz.f3.resultTypes.toList)=true:=by kernel_rfl
theorem k16:(Rows.bundleSealsUptoRow.loops==(Tryz.f3.params.toList++(Rows.OpenSpec.upto Rows.bundleSealsSpec).bare.plain.varTypes Tryz.prog).any (Tryz.prog.loopsFrom ·))=true:=by kernel_rfl
theorem k17:(Rows.bundleSealsUptoRow.wideKeys==(Tryz.f3.params.toList++(Rows.OpenSpec.upto Rows.bundleSealsSpec).bare.plain.varTypes Tryz.prog++Tryz.f3.resultTypes.toList).any (Tryz.prog.wideKeysFrom ·))=true:=by kernel_rfl
theorem k18:(Rows.OpenSpec.upto Rows.bundleSealsSpec).bare.vars.all (Tryz.prog.varReadable ·)=true:=by kernel_rfl
theorem k19:Tryz.f3.resultTypes.all (fun t=>Tryz.prog.readableRec t&&decide (t<Tryz.prog.types.size))=true:=by kernel_rfl
theorem k20:(Rows.bundleSealsUptoRow.ifacesOut==Tryz.f3.resultTypes.toList.any (Tryz.prog.ifacesRec ·))=true:=by kernel_rfl
theorem k21:(Rows.bundleSealsUptoRow.loopsOut==Tryz.f3.resultTypes.toList.any (Tryz.prog.loopsFrom ·))=true:=by kernel_rfl
theorem k22:(Rows.bundleSealsUptoRow.plainKeys==Tryz.prog.plainKeys)=true:=by kernel_rfl
theorem k23:Rows.bundleSealsUptoRow.shortTexts.isNone=true:=by kernel_rfl
theorem k24:Tryz.prog.stopsHeard=true:=by kernel_rfl
theorem k25:Tryz.prog.mayEnter=true:=by kernel_rfl
theorem k26:(Rows.bundleSealsUptoRow.lifted==Tryz.prog.liftsFinal)=true:=by kernel_rfl
theorem k27:(Tryz.prog.make==some Rows.bundleSealsUptoRow.make)=true:=by kernel_rfl
theorem k28:(Rows.bundleSealsUptoRow.kinds==(if Rows.bundleSealsUptoRow.domain.isEmpty then[]else Tryz.f3.params.toList.map fun t=>match Tryz.prog.underlying t with|some (.int k)=>some k|_=>none))=true:=by kernel_rfl
theorem k29:(Rows.bundleSealsUptoRow.pinned==Rows.bundleSealsUptoRow.pinnedBy)=true:=by kernel_rfl
theorem k30:(Rows.bundleSealsUptoRow.veiled==(Tryz.f3.params.toList++(Rows.OpenSpec.upto Rows.bundleSealsSpec).bare.plain.varTypes Tryz.prog++Tryz.f3.resultTypes.toList).any (Tryz.prog.veiledRec ·))=true:=by kernel_rfl
theorem k31:Rows.bundleSealsUptoRow.veiledFits Tryz.prog Tryz.f3.params.toList (Tryz.f3.params.toList++(Rows.OpenSpec.upto Rows.bundleSealsSpec).bare.plain.varTypes Tryz.prog++Tryz.f3.resultTypes.toList)=true:=by kernel_rfl
end seals
end
end Go.Proofs.YtdebajodkallbaaGreatDoor
