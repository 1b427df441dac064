/- What was run,as contracts. build.Check at the arguments that awake hands it: run. -/
import Derived.Test.YtopiadllkglamaaGreatDoorWKa2
import Derived.Test.YtopiadllkglamaaGreatDoorWKa3
import Derived.KernelRfl
namespace Go.Proofs.YtopiadllkglamaaGreatDoor
open Go.RowKit
noncomputable def wg7 (m : GvP) : Gam := (B46 m).add Fn.q79 (.pure yC8)
theorem xB9 (H : ∀ m,GamOK Tryz.prog (gv1 m) (B46 m)) (m : GvP) : GamOK Tryz.prog (gv1 m) (wg7 m) := za4 (H m) (by kernel_rfl) (yJ4 H m)
noncomputable def wg6 (m : GvP) : Gam := (wg7 m).add Fn.q81 (.pure yR4)
theorem xB8 (H : ∀ m,GamOK Tryz.prog (gv1 m) (B46 m)) (m : GvP) : GamOK Tryz.prog (gv1 m) (wg6 m) := za4 (xB9 H m) (by kernel_rfl) (yY1 H m)
noncomputable def wg5 (m : GvP) : Gam := (wg6 m).add Fn.q72 (.pure xs2)
theorem xB7 (H : ∀ m,GamOK Tryz.prog (gv1 m) (B46 m)) (m : GvP) : GamOK Tryz.prog (gv1 m) (wg5 m) := za4 (xB8 H m) (by kernel_rfl) (xr7 H m)
noncomputable def B46b (m : GvP) : Gam := (wg5 m).add Fn.digest_Sum (.pure xs1)
theorem yp4 (H : ∀ m,GamOK Tryz.prog (gv1 m) (B46 m)) (m : GvP) : GamOK Tryz.prog (gv1 m) (B46b m) := za4 (xB7 H m) (by kernel_rfl) (xr6 ((H m).ok Fn.digest_Sum (.pure zz3) (by rfl)))
end Go.Proofs.YtopiadllkglamaaGreatDoor
namespace Go.Proofs.YtopiadllkglamaaGreatDoor
open Go.RowKit
def yi4 : List AV := [.sl [[.str [108,105,98],.str [49],.str [114],.sl [[.str [102,46,115,114,99],.str [101,120,112,111,114,116,32,100,97,116,97,32,120,32,49,10,55]],[.str [114],.str [99,111,109,112,105,108,101,32,102,46,115,114,99,32,116,111,32,102,46,111,10,105,110,115,116,97,108,108,32,102,46,111,32,97,115,32,111,47,108,105,98]],[.str [114,101,97,100,46,109,101],.str []]]],[.str [97,112,112],.str [50],.str [114],.sl [[.str [114],.str []]]]]]
def yi3 : AV := .int .i64 0
theorem yq2 (m : GvP) : at1 (genS Tryz.prog (gv1 m) fe46 2000 (B46b m) 40) Fn.build_Check yi4 = some yi3 := by kernel_rfl
def yi2 : List AV := [.sl [[.str [108,105,98],.str [49],.str [114],.sl [[.str [102,46,115,114,99],.str [101,120,112,111,114,116,32,100,97,116,97,32,120,32,49,10,55]],[.str [114],.str [99,111,109,112,105,108,101,32,102,46,115,114,99,32,116,111,32,102,46,111,10,105,110,115,116,97,108,108,32,102,46,111,32,97,115,32,111,47,108,105,98]]]]]]
def yi1 : AV := .int .i64 0
theorem yq1 (m : GvP) : at1 (genS Tryz.prog (gv1 m) fe46 2000 (B46b m) 40) Fn.build_Check yi2 = some yi1 := by kernel_rfl
def yC9 : List AV → Option AV := F_or (zR0 yi4 yi3) (zR0 yi2 yi1)
theorem yJ6 (H : ∀ m,GamOK Tryz.prog (gv1 m) (B46b m)) (m : GvP) : zd0 Tryz.prog (gv1 m) Fn.build_Check yC9 := yF5 (zS0 (zq9 (by kernel_rfl) (H m) 40) (yq2 m)) (zS0 (zq9 (by kernel_rfl) (H m) 40) (yq1 m))
end Go.Proofs.YtopiadllkglamaaGreatDoor
