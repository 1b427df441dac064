/- The closed facts of the row of BundleS -/
import Derived.Test.YtdebajodkallbaaGreatDoorNoGo
import Derived.JoinedCond
namespace Go.Proofs.YtdebajodkallbaaGreatDoor
section
namespace seals
open Go
set_option maxRecDepth 100000
theorem k0:Rows.bundleSealsUptoRow.wf (OpenSpec.ofChange (Rows.OpenSpec.upto Rows.bundleSealsSpec).bare)=true:=by kernel_rfl
theorem k1:laidOutB Tryz.prog=true:=by kernel_rfl
theorem k2:mapsRowed Tryz.prog=true:=by kernel_rfl
theorem k3:Tryz.f3.params.all (Tryz.prog.readableRec ·)=true:=by kernel_rfl
theorem k4:namedTie Tryz.prog Rows.bundleSealsUptoRow.named (Rows.OpenSpec.upto Rows.bundleSealsSpec).bare.vars=true:=by kernel_rfl
theorem k5:(Rows.bundleSealsUptoRow.stops==[])=true:=by kernel_rfl
theorem k6:(Tryz.prog.stops==[])=true:=by kernel_rfl
theorem k7:(Rows.bundleSealsUptoRow.knobs==[])=true:=by kernel_rfl
theorem k8:(Tryz.prog.stopKnobs==[])=true:=by kernel_rfl
theorem k9:(Rows.bundleSealsUptoRow.inPlace==Tryz.prog.inPlace 3)=true:=by kernel_rfl
theorem k10:(Rows.bundleSealsUptoRow.unfollowed==Tryz.prog.unfollowed 3)=true:=by kernel_rfl
theorem k11:(Rows.bundleSealsUptoRow.recurses==Tryz.prog.recurses 3)=true:=by kernel_rfl
end seals
end
end Go.Proofs.YtdebajodkallbaaGreatDoor
