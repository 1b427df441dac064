/- build_Build at the arguments that awake of law 19 hands it: run. What was run,as contracts. -/
import Derived.Test.YtbfcbkjemlgnpaaGreatDoorOM
import Derived.KernelRfl
namespace Go.Proofs.YtbfcbkjemlgnpaaGreatDoor
open Go.RowKit
def K19Build0A:List AV:=[.sl [[.str [97,112,112],.str [49],.str [114,101,99,105,112,101],.sl [[.str [112],.str [107,101,101,112,32,49,10,100,114,111,112,32,49,10,97,100,100,32,49,10,99]],[.str [114,101,99,105,112,101],.str [112,97,116,99,104,32,120,32,119,105,116,104,32,112,32,116,111,32,121,10,105,110,115,116,97,108,108,32,121,32,97,115,32,122]],[.str [120],.str [97,10,98]]]]]]
def K19Build0R:AV:=.tup [.agg [.sl [[.str [97,112,112,47,112],.str [107,101,101,112,32,49,10,100,114,111,112,32,49,10,97,100,100,32,49,10,99]],[.str [97,112,112,47,114,101,99,105,112,101],.str [112,97,116,99,104,32,120,32,119,105,116,104,32,112,32,116,111,32,121,10,105,110,115,116,97,108,108,32,121,32,97,115,32,122]],[.str [97,112,112,47,120],.str [97,10,98]],[.str [97,112,112,47,121],.str [97,10,99]],[.str [97,112,112,47,122],.str [97,10,99]]],.sl [[.str [97,112,112,47,122]]],.sl [[.int .i64 0,.int .i64 0,.int .i64 6,.sl [[.str [97,112,112,47,120],.str [157,177,176,131,124,254,131,133,225,103,202,224,211,134,8,189,28,36,119,235,136,7,4,67,201,42,173,81,164,133,154,150]],[.str [97,112,112,47,112],.str [128,54,83,127,208,132,0,59,30,41,151,219,110,142,6,16,87,137,251,145,190,222,158,200,0,237,134,74,161,15,122,186]]],.str [97,112,112,47,121],.str [138,234,212,168,135,5,46,173,91,83,69,177,158,236,182,170,255,39,47,125,44,142,22,50,162,2,161,235,96,7,218,136]],[.int .i64 0,.int .i64 1,.int .i64 8,.sl [[.str [97,112,112,47,121],.str [138,234,212,168,135,5,46,173,91,83,69,177,158,236,182,170,255,39,47,125,44,142,22,50,162,2,161,235,96,7,218,136]]],.str [97,112,112,47,122],.str [138,234,212,168,135,5,46,173,91,83,69,177,158,236,182,170,255,39,47,125,44,142,22,50,162,2,161,235,96,7,218,136]]]],.agg [.int .i64 0,.int .i64 0,.int .i64 0,.str [],.int .i64 0]]
theorem K19Build0_run(m:GvP):at1 (genS Tryz.prog (gv1 m) fe19 2000 (B19b m) 60) Fn.build_Build K19Build0A=some K19Build0R:=by kernel_rfl
def F_19Build:List AV→Option AV:=F_tab K19Build0A K19Build0R
theorem K19Build_ok(H:∀ m,GamOK Tryz.prog (gv1 m) (B19b m))(m:GvP):PureOK Tryz.prog (gv1 m) Fn.build_Build F_19Build:=tab_ok (genS_ok (by kernel_rfl) (H m) 60) (K19Build0_run m)
end Go.Proofs.YtbfcbkjemlgnpaaGreatDoor
namespace Go.Proofs.YtbfcbkjemlgnpaaGreatDoor
open Go.RowKit
noncomputable def B19c(m:GvP):Gam:=(B19b m).add Fn.build_Build (.pure F_19Build)
theorem b19c_ok(H:∀ m,GamOK Tryz.prog (gv1 m) (B19 m))(m:GvP):GamOK Tryz.prog (gv1 m) (B19c m):=gam_add (b19b_ok H m) (by kernel_rfl) (K19Build_ok (b19b_ok H) m)
end Go.Proofs.YtbfcbkjemlgnpaaGreatDoor
