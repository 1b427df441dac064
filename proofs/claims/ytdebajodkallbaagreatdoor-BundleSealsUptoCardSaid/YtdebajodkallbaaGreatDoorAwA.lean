/- awake -/
import Derived.Test.YtdebajodkallbaaGreatDoorKa8
import Derived.Test.YtdebajodkallbaaGreatDoorKa9
namespace Go.Proofs.YtdebajodkallbaaGreatDoor
open Go.RowKit
theorem yf3(m:GvP):dW Tryz.prog (gv1 m) Fn.d8 CV:=yf4 (fun m=>yf7 m (BI m)) m
end Go.Proofs.YtdebajodkallbaaGreatDoor
