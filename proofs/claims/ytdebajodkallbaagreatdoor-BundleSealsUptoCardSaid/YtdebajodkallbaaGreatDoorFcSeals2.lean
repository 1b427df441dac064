/- The closed facts of the row of BundleS -/
import Derived.Test.YtdebajodkallbaaGreatDoorNoGo
import Derived.JoinedCond
namespace Go.Proofs.YtdebajodkallbaaGreatDoor
section
namespace seals
open Go
set_option maxRecDepth 100000
theorem k12:(Rows.bundleSealsUptoRow.named==Tryz.prog.varsNamed 3)=true:=by kernel_rfl
end seals
end
end Go.Proofs.YtdebajodkallbaaGreatDoor
