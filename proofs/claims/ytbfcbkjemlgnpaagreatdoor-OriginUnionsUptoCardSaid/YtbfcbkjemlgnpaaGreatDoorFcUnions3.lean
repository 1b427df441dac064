/- The closed facts of the row of OriginUnions,each by itself. -/
import Derived.Test.YtbfcbkjemlgnpaaGreatDoorChecked
import Derived.Test.YtbfcbkjemlgnpaaGreatDoorRows
import Derived.JoinedCond
import Derived.SevenTiedAt
import Derived.KernelRfl
namespace Go.Proofs.YtbfcbkjemlgnpaaGreatDoor
namespace unions
open Go
set_option maxRecDepth 100000
theorem k13:(Rows.originUnionsUptoRow.maps == (Tryz.f4.params.toList++(Rows.OpenSpec.upto Rows.originUnionsSpec).bare.plain.varTypes Tryz.prog).any (Tryz.prog.mapsRec ·))=true:=by kernel_rfl
theorem k14:(Rows.originUnionsUptoRow.ifaces == (Tryz.f4.params.toList++(Rows.OpenSpec.upto Rows.originUnionsSpec).bare.plain.varTypes Tryz.prog).any (Tryz.prog.ifacesRec ·))=true:=by kernel_rfl
theorem k15:(Rows.originUnionsUptoRow.mapsOut == Tryz.prog.mapsAmong Tryz.f4.resultTypes.toList)=true:=by kernel_rfl
theorem k16:(Rows.originUnionsUptoRow.loops == (Tryz.f4.params.toList++(Rows.OpenSpec.upto Rows.originUnionsSpec).bare.plain.varTypes Tryz.prog).any (Tryz.prog.loopsFrom ·))=true:=by kernel_rfl
theorem k17:(Rows.originUnionsUptoRow.wideKeys == (Tryz.f4.params.toList++(Rows.OpenSpec.upto Rows.originUnionsSpec).bare.plain.varTypes Tryz.prog++Tryz.f4.resultTypes.toList).any (Tryz.prog.wideKeysFrom ·))=true:=by kernel_rfl
theorem k18:(Rows.OpenSpec.upto Rows.originUnionsSpec).bare.vars.all (Tryz.prog.varReadable ·)=true:=by kernel_rfl
theorem k19:Tryz.f4.resultTypes.all (fun t=>Tryz.prog.readableRec t&&decide (t<Tryz.prog.types.size))=true:=by kernel_rfl
theorem k20:(Rows.originUnionsUptoRow.ifacesOut == Tryz.f4.resultTypes.toList.any (Tryz.prog.ifacesRec ·))=true:=by kernel_rfl
theorem k21:(Rows.originUnionsUptoRow.loopsOut == Tryz.f4.resultTypes.toList.any (Tryz.prog.loopsFrom ·))=true:=by kernel_rfl
theorem k22:(Rows.originUnionsUptoRow.plainKeys == Tryz.prog.plainKeys)=true:=by kernel_rfl
theorem k23:Rows.originUnionsUptoRow.shortTexts.isNone=true:=by kernel_rfl
theorem k24:Tryz.prog.stopsHeard=true:=by kernel_rfl
theorem k25:Tryz.prog.mayEnter=true:=by kernel_rfl
theorem k26:(Rows.originUnionsUptoRow.lifted == Tryz.prog.liftsFinal)=true:=by kernel_rfl
theorem k27:(Tryz.prog.make == some Rows.originUnionsUptoRow.make)=true:=by kernel_rfl
theorem k28:(Rows.originUnionsUptoRow.kinds == (if Rows.originUnionsUptoRow.domain.isEmpty then []else Tryz.f4.params.toList.map fun t=>match Tryz.prog.underlying t with | some (.int k)=>some k | _=>none))=true:=by kernel_rfl
theorem k29:(Rows.originUnionsUptoRow.pinned == Rows.originUnionsUptoRow.pinnedBy)=true:=by kernel_rfl
theorem k30:(Rows.originUnionsUptoRow.veiled == (Tryz.f4.params.toList++(Rows.OpenSpec.upto Rows.originUnionsSpec).bare.plain.varTypes Tryz.prog++Tryz.f4.resultTypes.toList).any (Tryz.prog.veiledRec ·))=true:=by kernel_rfl
theorem k31:Rows.originUnionsUptoRow.veiledFits Tryz.prog Tryz.f4.params.toList (Tryz.f4.params.toList++(Rows.OpenSpec.upto Rows.originUnionsSpec).bare.plain.varTypes Tryz.prog++Tryz.f4.resultTypes.toList)=true:=by kernel_rfl
end unions
end Go.Proofs.YtbfcbkjemlgnpaaGreatDoor
