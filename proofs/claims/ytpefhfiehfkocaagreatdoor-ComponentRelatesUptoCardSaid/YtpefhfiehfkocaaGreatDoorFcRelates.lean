/- The closed facts of the row of ComponentRelates,each by itself. -/
import Derived.Test.YtpefhfiehfkocaaGreatDoorChecked
import Derived.Test.YtpefhfiehfkocaaGreatDoorRows
import Derived.Test.YtpefhfiehfkocaaGreatDoorNoGo
import Derived.Test.YtpefhfiehfkocaaGreatDoorFcRelates1
import Derived.Test.YtpefhfiehfkocaaGreatDoorFcRelates3
import Derived.JoinedCond
import Derived.SevenTiedAt
import Derived.KernelRfl
namespace Go.Proofs.YtpefhfiehfkocaaGreatDoor
namespace relates
open Go
set_option maxRecDepth 100000
theorem band{a b:Bool}(h1:a=true)(h2:b=true):(a&&b)=true:=by rw [h1,h2]; rfl
theorem closed:joinedFacts Tryz.prog 3 Tryz.f3 (Rows.OpenSpec.upto Rows.componentRelatesSpec).bare Rows.componentRelatesUptoRow=true:=band (band (band (band (band (band (band (band (band (band (band (band (band (band (band (band (band (band (band (band (band (band (band (band (band (band (band (band (band (band (band k0 k1) k2) k3) k4) k5) k6) k7) k8) k9) k10) k11) k12) k13) k14) k15) k16) k17) k18) k19) k20) k21) k22) k23) k24) k25) k26) k27) k28) k29) k30) k31
theorem wfT:Rows.componentRelatesUptoRow.wfByText (Rows.OpenSpec.upto Rows.componentRelatesSpec)=true:=by kernel_rfl
theorem mainT:Tryz.prog.mainIs=some (((true,"df1bad4b0ba30cd7c853b9e91ea15df9c7df1546a59a59711f201dce923991a2"):Bool×String).1,((true,"df1bad4b0ba30cd7c853b9e91ea15df9c7df1546a59a59711f201dce923991a2"):Bool×String).2.toList):=by kernel_rfl
theorem goesT:false=Rows.componentRelatesUptoRow.goesBy Tryz.prog:=goesBy_false (start:=rfl) noGo
theorem nameT:Tryz.prog.funcNamed Rows.componentRelatesUptoRow.func=some 3:=by kernel_rfl
end relates
end Go.Proofs.YtpefhfiehfkocaaGreatDoor
