/- What was run,as contracts. build.Build at the arguments that awake hands it: run. -/
import Derived.Test.YtopiadllkglamaaGreatDoorWKa4
import Derived.Test.YtopiadllkglamaaGreatDoorWKa5
import Derived.Test.YtopiadllkglamaaGreatDoorWKa6
import Derived.KernelRfl
namespace Go.Proofs.YtopiadllkglamaaGreatDoor
open Go.RowKit
noncomputable def wg4 (m : GvP) : Gam := (B46b m).add Fn.build_Check (.pure yC9)
theorem xB6 (H : ∀ m,GamOK Tryz.prog (gv1 m) (B46 m)) (m : GvP) : GamOK Tryz.prog (gv1 m) (wg4 m) :=
 za4 (yp4 H m) (by kernel_rfl) (yJ6 (yp4 H) m)
noncomputable def wg3 (m : GvP) : Gam := (wg4 m).add Fn.q28 (.gen yD1)
theorem xB5 (H : ∀ m,GamOK Tryz.prog (gv1 m) (B46 m)) (m : GvP) : GamOK Tryz.prog (gv1 m) (wg3 m) :=
 za4 (xB6 H m) (by kernel_rfl) (yJ8 (yp4 H) m)
noncomputable def B46c (m : GvP) : Gam := (wg3 m).add Fn.q24 (.gen yR5)
theorem xq2 (H : ∀ m,GamOK Tryz.prog (gv1 m) (B46 m)) (m : GvP) : GamOK Tryz.prog (gv1 m) (B46c m) :=
 za4 (xB5 H m) (by kernel_rfl) (yY2 (yp4 H) m)
end Go.Proofs.YtopiadllkglamaaGreatDoor
namespace Go.Proofs.YtopiadllkglamaaGreatDoor
open Go.RowKit
def yi6 : List AV := [.sl [[.str [108,105,98],.str [49],.str [114],.sl [[.str [102,46,115,114,99],.str [101,120,112,111,114,116,32,100,97,116,97,32,120,32,49,10,55]],[.str [114],.str [99,111,109,112,105,108,101,32,102,46,115,114,99,32,116,111,32,102,46,111,10,105,110,115,116,97,108,108,32,102,46,111,32,97,115,32,111,47,108,105,98]],[.str [114,101,97,100,46,109,101],.str []]]],[.str [97,112,112],.str [50],.str [114],.sl [[.str [114],.str []]]]]]
def yi5 : AV := .tup [.agg [.sl [[.str [97,112,112,47,114],.str []],[.str [108,105,98,47,102,46,111],.str [54,58,111,98,106,101,99,116,44,49,59,49,58,120,44,49,59,49,59,49,59,50,59,52,58,7,0,0,0,44,48,59]],[.str [108,105,98,47,102,46,115,114,99],.str [101,120,112,111,114,116,32,100,97,116,97,32,120,32,49,10,55]],[.str [108,105,98,47,111,47,108,105,98],.str [54,58,111,98,106,101,99,116,44,49,59,49,58,120,44,49,59,49,59,49,59,50,59,52,58,7,0,0,0,44,48,59]],[.str [108,105,98,47,114],.str [99,111,109,112,105,108,101,32,102,46,115,114,99,32,116,111,32,102,46,111,10,105,110,115,116,97,108,108,32,102,46,111,32,97,115,32,111,47,108,105,98]],[.str [108,105,98,47,114,101,97,100,46,109,101],.str []]],.sl [[.str [108,105,98,47,111,47,108,105,98]]],.sl [[.int .i64 0,.int .i64 0,.int .i64 1,.sl [[.str [108,105,98,47,102,46,115,114,99],.str [236,83,164,27,73,128,126,229,40,204,110,83,231,148,2,9,42,48,200,241,229,117,45,65,154,61,212,202,137,221,87,112]]],.str [108,105,98,47,102,46,111],.str [23,212,108,81,44,77,118,250,82,155,182,233,134,178,110,110,181,247,36,98,48,6,178,228,150,116,10,67,5,165,177,48]],[.int .i64 0,.int .i64 1,.int .i64 8,.sl [[.str [108,105,98,47,102,46,111],.str [23,212,108,81,44,77,118,250,82,155,182,233,134,178,110,110,181,247,36,98,48,6,178,228,150,116,10,67,5,165,177,48]]],.str [108,105,98,47,111,47,108,105,98],.str [23,212,108,81,44,77,118,250,82,155,182,233,134,178,110,110,181,247,36,98,48,6,178,228,150,116,10,67,5,165,177,48]]]],.agg [.int .i64 0,.int .i64 0,.int .i64 0,.str [],.int .i64 0]]
theorem yq3 (m : GvP) : at1 (genS Tryz.prog (gv1 m) fe46 2000 (B46c m) 60) Fn.build_Build yi6 = some yi5 := by kernel_rfl
def yD0 : List AV → Option AV := zR0 yi6 yi5
theorem yJ7 (H : ∀ m,GamOK Tryz.prog (gv1 m) (B46c m)) (m : GvP) : zd0 Tryz.prog (gv1 m) Fn.build_Build yD0 := zS0 (zq9 (by kernel_rfl) (H m) 60) (yq3 m)
end Go.Proofs.YtopiadllkglamaaGreatDoor
