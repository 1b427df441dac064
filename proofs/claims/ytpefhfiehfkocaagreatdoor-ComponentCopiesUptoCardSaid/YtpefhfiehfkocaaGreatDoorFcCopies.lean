/- The closed facts of the row of Compone -/
import Derived.Test.YtpefhfiehfkocaaGreatDoorNoGo
import Derived.Test.YtpefhfiehfkocaaGreatDoorFcCopies1
import Derived.Test.YtpefhfiehfkocaaGreatDoorFcCopies3
namespace Go.Proofs.YtpefhfiehfkocaaGreatDoor
section
namespace copies
open Go
set_option maxRecDepth 100000
theorem gC{a b:Bool}(c:a=true)(d:b=true):(a&&b)=true:=by rw[c,d];rfl
theorem closed:joinedFacts Tryz.prog 4 Tryz.f4 (Rows.OpenSpec.upto Rows.componentCopiesSpec).bare Rows.componentCopiesUptoRow=true:=gC (gC (gC (gC (gC (gC (gC (gC (gC (gC (gC (gC (gC (gC (gC (gC (gC (gC (gC (gC (gC (gC (gC (gC (gC (gC (gC (gC (gC (gC (gC k0 k1) k2) k3) k4) k5) k6) k7) k8) k9) k10) k11) k12) k13) k14) k15) k16) k17) k18) k19) k20) k21) k22) k23) k24) k25) k26) k27) k28) k29) k30) k31
theorem wfT:Rows.componentCopiesUptoRow.wfByText (Rows.OpenSpec.upto Rows.componentCopiesSpec)=true:=by kernel_rfl
theorem mainT:Tryz.prog.mainIs=some (((true,"df1bad4b0ba30cd7c853b9e91ea15df9c7df1546a59a59711f201dce923991a2"):Bool×String).1,((true,"df1bad4b0ba30cd7c853b9e91ea15df9c7df1546a59a59711f201dce923991a2"):Bool×String).2.toList):=by kernel_rfl
theorem goesT:false=Rows.componentCopiesUptoRow.goesBy Tryz.prog:=yL4 (start:=rfl) xa9
theorem xa5:Tryz.prog.funcNamed Rows.componentCopiesUptoRow.func=some 4:=by kernel_rfl
end copies
end
end Go.Proofs.YtpefhfiehfkocaaGreatDoor
