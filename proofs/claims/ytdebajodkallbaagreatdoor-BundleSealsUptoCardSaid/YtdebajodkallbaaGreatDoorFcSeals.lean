/- The closed facts of the row of BundleS -/
import Derived.Test.YtdebajodkallbaaGreatDoorFcSeals1
import Derived.Test.YtdebajodkallbaaGreatDoorFcSeals2
import Derived.Test.YtdebajodkallbaaGreatDoorFcSeals3
namespace Go.Proofs.YtdebajodkallbaaGreatDoor
section
namespace seals
open Go
set_option maxRecDepth 100000
theorem gI{a b:Bool}(c:a=true)(d:b=true):(a&&b)=true:=by rw[c,d];rfl
theorem closed:joinedFacts Tryz.prog 3 Tryz.f3 (Rows.OpenSpec.upto Rows.bundleSealsSpec).bare Rows.bundleSealsUptoRow=true:=gI (gI (gI (gI (gI (gI (gI (gI (gI (gI (gI (gI (gI (gI (gI (gI (gI (gI (gI (gI (gI (gI (gI (gI (gI (gI (gI (gI (gI (gI (gI k0 k1) k2) k3) k4) k5) k6) k7) k8) k9) k10) k11) k12) k13) k14) k15) k16) k17) k18) k19) k20) k21) k22) k23) k24) k25) k26) k27) k28) k29) k30) k31
theorem wfT:Rows.bundleSealsUptoRow.wfByText (Rows.OpenSpec.upto Rows.bundleSealsSpec)=true:=by kernel_rfl
theorem mainT:Tryz.prog.mainIs=some (((true,"370807a4155f256b896277481e6228235abd0af36d9a9a5ea8ed366b4d8f0f22"):Bool×String).1,((true,"370807a4155f256b896277481e6228235abd0af36d9a9a5ea8ed366b4d8f0f22"):Bool×String).2.toList):=by kernel_rfl
theorem goesT:false=Rows.bundleSealsUptoRow.goesBy Tryz.prog:=yA8 (start:=rfl) yZ7
theorem yY9:Tryz.prog.funcNamed Rows.bundleSealsUptoRow.func=some 3:=by kernel_rfl
end seals
end
end Go.Proofs.YtdebajodkallbaaGreatDoor
