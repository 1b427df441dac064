/- awake. -/
import Derived.Test.YtaadifodgahnjaaGreatDoorZKa8
import Derived.Test.YtaadifodgahnjaaGreatDoorZKa9
namespace Go.Proofs.YtaadifodgahnjaaGreatDoor
open Go.RowKit
theorem awake46 (m : GvP) : PureOK Tryz.prog (gv1 m) Fn.q44 F_awake := awake_pure (fun m => b46_ok m (lb46 m)) m
end Go.Proofs.YtaadifodgahnjaaGreatDoor
