/- awake. -/
import Derived.Test.YtopiadllkglamaaGreatDoorZKa8
import Derived.Test.YtopiadllkglamaaGreatDoorZKa9
namespace Go.Proofs.YtopiadllkglamaaGreatDoor
open Go.RowKit
theorem awake46 (m : GvP) : PureOK Tryz.prog (gv1 m) Fn.q43 F_awake := awake_pure (fun m => b46_ok m (lb46 m)) m
end Go.Proofs.YtopiadllkglamaaGreatDoor
