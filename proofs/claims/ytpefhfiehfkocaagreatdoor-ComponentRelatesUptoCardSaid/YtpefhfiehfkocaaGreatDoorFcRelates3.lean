/- The closed facts of the row of ComponentRelates,each by itself. -/
import Derived.Test.YtpefhfiehfkocaaGreatDoorChecked
import Derived.Test.YtpefhfiehfkocaaGreatDoorRows
import Derived.JoinedCond
import Derived.SevenTiedAt
import Derived.KernelRfl
namespace Go.Proofs.YtpefhfiehfkocaaGreatDoor
namespace relates
open Go
set_option maxRecDepth 100000
theorem k13:(Rows.componentRelatesUptoRow.maps == (Tryz.f3.params.toList++(Rows.OpenSpec.upto Rows.componentRelatesSpec).bare.plain.varTypes Tryz.prog).any (Tryz.prog.mapsRec ·))=true:=by kernel_rfl
theorem k14:(Rows.componentRelatesUptoRow.ifaces == (Tryz.f3.params.toList++(Rows.OpenSpec.upto Rows.componentRelatesSpec).bare.plain.varTypes Tryz.prog).any (Tryz.prog.ifacesRec ·))=true:=by kernel_rfl
theorem k15:(Rows.componentRelatesUptoRow.mapsOut == Tryz.prog.mapsAmong Tryz.f3.resultTypes.toList)=true:=by kernel_rfl
theorem k16:(Rows.componentRelatesUptoRow.loops == (Tryz.f3.params.toList++(Rows.OpenSpec.upto Rows.componentRelatesSpec).bare.plain.varTypes Tryz.prog).any (Tryz.prog.loopsFrom ·))=true:=by kernel_rfl
theorem k17:(Rows.componentRelatesUptoRow.wideKeys == (Tryz.f3.params.toList++(Rows.OpenSpec.upto Rows.componentRelatesSpec).bare.plain.varTypes Tryz.prog++Tryz.f3.resultTypes.toList).any (Tryz.prog.wideKeysFrom ·))=true:=by kernel_rfl
theorem k18:(Rows.OpenSpec.upto Rows.componentRelatesSpec).bare.vars.all (Tryz.prog.varReadable ·)=true:=by kernel_rfl
theorem k19:Tryz.f3.resultTypes.all (fun t=>Tryz.prog.readableRec t&&decide (t<Tryz.prog.types.size))=true:=by kernel_rfl
theorem k20:(Rows.componentRelatesUptoRow.ifacesOut == Tryz.f3.resultTypes.toList.any (Tryz.prog.ifacesRec ·))=true:=by kernel_rfl
theorem k21:(Rows.componentRelatesUptoRow.loopsOut == Tryz.f3.resultTypes.toList.any (Tryz.prog.loopsFrom ·))=true:=by kernel_rfl
theorem k22:(Rows.componentRelatesUptoRow.plainKeys == Tryz.prog.plainKeys)=true:=by kernel_rfl
theorem k23:Rows.componentRelatesUptoRow.shortTexts.isNone=true:=by kernel_rfl
theorem k24:Tryz.prog.stopsHeard=true:=by kernel_rfl
theorem k25:Tryz.prog.mayEnter=true:=by kernel_rfl
theorem k26:(Rows.componentRelatesUptoRow.lifted == Tryz.prog.liftsFinal)=true:=by kernel_rfl
theorem k27:(Tryz.prog.make == some Rows.componentRelatesUptoRow.make)=true:=by kernel_rfl
theorem k28:(Rows.componentRelatesUptoRow.kinds == (if Rows.componentRelatesUptoRow.domain.isEmpty then []else Tryz.f3.params.toList.map fun t=>match Tryz.prog.underlying t with | some (.int k)=>some k | _=>none))=true:=by kernel_rfl
theorem k29:(Rows.componentRelatesUptoRow.pinned == Rows.componentRelatesUptoRow.pinnedBy)=true:=by kernel_rfl
theorem k30:(Rows.componentRelatesUptoRow.veiled == (Tryz.f3.params.toList++(Rows.OpenSpec.upto Rows.componentRelatesSpec).bare.plain.varTypes Tryz.prog++Tryz.f3.resultTypes.toList).any (Tryz.prog.veiledRec ·))=true:=by kernel_rfl
theorem k31:Rows.componentRelatesUptoRow.veiledFits Tryz.prog Tryz.f3.params.toList (Tryz.f3.params.toList++(Rows.OpenSpec.upto Rows.componentRelatesSpec).bare.plain.varTypes Tryz.prog++Tryz.f3.resultTypes.toList)=true:=by kernel_rfl
end relates
end Go.Proofs.YtpefhfiehfkocaaGreatDoor
