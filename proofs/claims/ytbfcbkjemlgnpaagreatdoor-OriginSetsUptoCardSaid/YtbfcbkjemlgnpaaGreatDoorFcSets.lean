/- The closed facts of the row of OriginSets,each by itself. -/
import Derived.Test.YtbfcbkjemlgnpaaGreatDoorChecked
import Derived.Test.YtbfcbkjemlgnpaaGreatDoorRows
import Derived.Test.YtbfcbkjemlgnpaaGreatDoorNoGo
import Derived.Test.YtbfcbkjemlgnpaaGreatDoorFcSets1
import Derived.Test.YtbfcbkjemlgnpaaGreatDoorFcSets3
import Derived.JoinedCond
import Derived.SevenTiedAt
import Derived.KernelRfl
namespace Go.Proofs.YtbfcbkjemlgnpaaGreatDoor
namespace sets
open Go
set_option maxRecDepth 100000
theorem band{a b:Bool}(h1:a=true)(h2:b=true):(a&&b)=true:=by rw [h1,h2]; rfl
theorem closed:joinedFacts Tryz.prog 3 Tryz.f3 (Rows.OpenSpec.upto Rows.originSetsSpec).bare Rows.originSetsUptoRow=true:=band (band (band (band (band (band (band (band (band (band (band (band (band (band (band (band (band (band (band (band (band (band (band (band (band (band (band (band (band (band (band k0 k1) k2) k3) k4) k5) k6) k7) k8) k9) k10) k11) k12) k13) k14) k15) k16) k17) k18) k19) k20) k21) k22) k23) k24) k25) k26) k27) k28) k29) k30) k31
theorem wfT:Rows.originSetsUptoRow.wfByText (Rows.OpenSpec.upto Rows.originSetsSpec)=true:=by kernel_rfl
theorem mainT:Tryz.prog.mainIs=some (((true,"6885a660a5316ed294724c452cac4fa2d3bd52d2b51a03e76f8860e3c83e5576"):Bool×String).1,((true,"6885a660a5316ed294724c452cac4fa2d3bd52d2b51a03e76f8860e3c83e5576"):Bool×String).2.toList):=by kernel_rfl
theorem goesT:false=Rows.originSetsUptoRow.goesBy Tryz.prog:=goesBy_false (start:=rfl) noGo
theorem nameT:Tryz.prog.funcNamed Rows.originSetsUptoRow.func=some 3:=by kernel_rfl
end sets
end Go.Proofs.YtbfcbkjemlgnpaaGreatDoor
