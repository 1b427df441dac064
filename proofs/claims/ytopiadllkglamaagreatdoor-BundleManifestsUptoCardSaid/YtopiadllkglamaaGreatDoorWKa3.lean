/- compile.Unit at the arguments that awake hands it: run. -/
import Derived.Test.YtopiadllkglamaaGreatDoorWKa1
import Derived.KernelRfl
namespace Go.Proofs.YtopiadllkglamaaGreatDoor
open Go.RowKit
def yB8 : List AV := [.sl [[.str [108,105,98,47,102,46,115,114,99],.str [101,120,112,111,114,116,32,100,97,116,97,32,120,32,49,10,55]],[.str [108,105,98,47,114],.str [99,111,109,112,105,108,101,32,102,46,115,114,99,32,116,111,32,102,46,111,10,105,110,115,116,97,108,108,32,102,46,111,32,97,115,32,111,47,108,105,98]],[.str [108,105,98,47,114,101,97,100,46,109,101],.str []]],.str [108,105,98,47,102,46,115,114,99],.sl []]
def yB7 : AV := .tup [.agg [.sl [[.str [120],.int .i64 1,.int .i64 0]],.sl [[.int .i64 2,.str [7,0,0,0],.sl []]]],.agg [.sl [[.str [108,105,98,47,102,46,115,114,99],.int .i64 0,.int .i64 1]],.sl [[.str [108,105,98,47,102,46,115,114,99]]],.sl [[.sl [[.str [108,105,98,47,102,46,115,114,99],.int .i64 1,.int .i64 2]]]]],.agg [.int .i64 0,.int .i64 0,.int .i64 0,.str [],.int .i64 0]]
theorem yB6 (m : GvP) : at1 (genS Tryz.prog (gv1 m) fe46 2000 (B46 m) 60) Fn.q81 yB8 = some yB7 := by kernel_rfl
def yR4 : List AV → Option AV := zR0 yB8 yB7
theorem yY1 (H : ∀ m,GamOK Tryz.prog (gv1 m) (B46 m)) (m : GvP) : zd0 Tryz.prog (gv1 m) Fn.q81 yR4 := zS0 (zq9 (by kernel_rfl) (H m) 60) (yB6 m)
end Go.Proofs.YtopiadllkglamaaGreatDoor
