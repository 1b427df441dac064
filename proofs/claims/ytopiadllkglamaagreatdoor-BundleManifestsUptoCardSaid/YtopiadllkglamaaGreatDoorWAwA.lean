/- awake. -/
import Derived.Test.YtopiadllkglamaaGreatDoorWKa8
import Derived.Test.YtopiadllkglamaaGreatDoorWKa9
namespace Go.Proofs.YtopiadllkglamaaGreatDoor
open Go.RowKit
theorem xQ4 (m : GvP) : zd0 Tryz.prog (gv1 m) Fn.q45 zR4 := yX4 (fun m => we9 m (lb46 m)) m
end Go.Proofs.YtopiadllkglamaaGreatDoor
