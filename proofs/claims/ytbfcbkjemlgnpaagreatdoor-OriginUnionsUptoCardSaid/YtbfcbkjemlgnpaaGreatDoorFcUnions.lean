/- The closed facts of the row of OriginUnions,each by itself. -/
import Derived.Test.YtbfcbkjemlgnpaaGreatDoorChecked
import Derived.Test.YtbfcbkjemlgnpaaGreatDoorRows
import Derived.Test.YtbfcbkjemlgnpaaGreatDoorNoGo
import Derived.Test.YtbfcbkjemlgnpaaGreatDoorFcUnions1
import Derived.Test.YtbfcbkjemlgnpaaGreatDoorFcUnions3
import Derived.JoinedCond
import Derived.SevenTiedAt
import Derived.KernelRfl
namespace Go.Proofs.YtbfcbkjemlgnpaaGreatDoor
namespace unions
open Go
set_option maxRecDepth 100000
theorem band{a b:Bool}(h1:a=true)(h2:b=true):(a&&b)=true:=by rw [h1,h2]; rfl
theorem closed:joinedFacts Tryz.prog 4 Tryz.f4 (Rows.OpenSpec.upto Rows.originUnionsSpec).bare Rows.originUnionsUptoRow=true:=band (band (band (band (band (band (band (band (band (band (band (band (band (band (band (band (band (band (band (band (band (band (band (band (band (band (band (band (band (band (band k0 k1) k2) k3) k4) k5) k6) k7) k8) k9) k10) k11) k12) k13) k14) k15) k16) k17) k18) k19) k20) k21) k22) k23) k24) k25) k26) k27) k28) k29) k30) k31
theorem wfT:Rows.originUnionsUptoRow.wfByText (Rows.OpenSpec.upto Rows.originUnionsSpec)=true:=by kernel_rfl
theorem mainT:Tryz.prog.mainIs=some (((true,"6885a660a5316ed294724c452cac4fa2d3bd52d2b51a03e76f8860e3c83e5576"):Bool×String).1,((true,"6885a660a5316ed294724c452cac4fa2d3bd52d2b51a03e76f8860e3c83e5576"):Bool×String).2.toList):=by kernel_rfl
theorem goesT:false=Rows.originUnionsUptoRow.goesBy Tryz.prog:=goesBy_false (start:=rfl) noGo
theorem nameT:Tryz.prog.funcNamed Rows.originUnionsUptoRow.func=some 4:=by kernel_rfl
end unions
end Go.Proofs.YtbfcbkjemlgnpaaGreatDoor
