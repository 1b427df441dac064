/- The closed facts of the row of Compone -/
import Derived.Test.YtpefhfiehfkocaaGreatDoorChecked
import Derived.Test.YtpefhfiehfkocaaGreatDoorRows
import Derived.JoinedCond
import Derived.SevenTiedAt
namespace Go.Proofs.YtpefhfiehfkocaaGreatDoor
section
namespace copies
open Go
set_option maxRecDepth 100000
theorem k13:(Rows.componentCopiesUptoRow.maps==(Tryz.f4.params.toList++(Rows.OpenSpec.upto Rows.componentCopiesSpec).bare.plain.varTypes Tryz.prog).any (Tryz.prog.mapsRec ·))=true:=by kernel_rfl
theorem k14:(Rows.componentCopiesUptoRow.ifaces==(Tryz.f4.params.toList++(Rows.OpenSpec.upto Rows.componentCopiesSpec).bare.plain.varTypes Tryz.prog).any (Tryz.prog.ifacesRec ·))=true:=by kernel_rfl
theorem k15:(Rows.componentCopiesUptoRow.mapsOut==Tryz.prog.mapsAmong Tryz.f4.resultTypes.toList)=true:=by kernel_rfl
theorem k16:(Rows.componentCopiesUptoRow.loops==(Tryz.f4.params.toList++(Rows.OpenSpec.upto Rows.componentCopiesSpec).bare.plain.varTypes Tryz.prog).any (Tryz.prog.loopsFrom ·))=true:=by kernel_rfl
theorem k17:(Rows.componentCopiesUptoRow.wideKeys==(Tryz.f4.params.toList++(Rows.OpenSpec.upto Rows.componentCopiesSpec).bare.plain.varTypes Tryz.prog++Tryz.f4.resultTypes.toList).any (Tryz.prog.wideKeysFrom ·))=true:=by kernel_rfl
theorem k18:(Rows.OpenSpec.upto Rows.componentCopiesSpec).bare.vars.all (Tryz.prog.varReadable ·)=true:=by kernel_rfl
theorem k19:Tryz.f4.resultTypes.all (fun t=>Tryz.prog.readableRec t&&decide (t<Tryz.prog.types.size))=true:=by kernel_rfl
theorem k20:(Rows.componentCopiesUptoRow.ifacesOut==Tryz.f4.resultTypes.toList.any (Tryz.prog.ifacesRec ·))=true:=by kernel_rfl
theorem k21:(Rows.componentCopiesUptoRow.loopsOut==Tryz.f4.resultTypes.toList.any (Tryz.prog.loopsFrom ·))=true:=by kernel_rfl
theorem k22:(Rows.componentCopiesUptoRow.plainKeys==Tryz.prog.plainKeys)=true:=by kernel_rfl
theorem k23:Rows.componentCopiesUptoRow.shortTexts.isNone=true:=by kernel_rfl
theorem k24:Tryz.prog.stopsHeard=true:=by kernel_rfl
theorem k25:Tryz.prog.mayEnter=true:=by kernel_rfl
theorem k26:(Rows.componentCopiesUptoRow.lifted==Tryz.prog.liftsFinal)=true:=by kernel_rfl
theorem k27:(Tryz.prog.make==some Rows.componentCopiesUptoRow.make)=true:=by kernel_rfl
theorem k28:(Rows.componentCopiesUptoRow.kinds==(if Rows.componentCopiesUptoRow.domain.isEmpty then[]else Tryz.f4.params.toList.map fun t=>match Tryz.prog.underlying t with|some (.int k)=>some k|_=>none))=true:=by kernel_rfl
theorem k29:(Rows.componentCopiesUptoRow.pinned==Rows.componentCopiesUptoRow.pinnedBy)=true:=by kernel_rfl
theorem k30:(Rows.componentCopiesUptoRow.veiled==(Tryz.f4.params.toList++(Rows.OpenSpec.upto Rows.componentCopiesSpec).bare.plain.varTypes Tryz.prog++Tryz.f4.resultTypes.toList).any (Tryz.prog.veiledRec ·))=true:=by kernel_rfl
theorem k31:Rows.componentCopiesUptoRow.veiledFits Tryz.prog Tryz.f4.params.toList (Tryz.f4.params.toList++(Rows.OpenSpec.upto Rows.componentCopiesSpec).bare.plain.varTypes Tryz.prog++Tryz.f4.resultTypes.toList)=true:=by kernel_rfl
end copies
end
end Go.Proofs.YtpefhfiehfkocaaGreatDoor
