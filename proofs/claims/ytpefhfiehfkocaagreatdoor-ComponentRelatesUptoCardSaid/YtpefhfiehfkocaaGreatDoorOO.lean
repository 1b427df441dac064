/- build_Build at the arguments that awake of law 38 hands it: run. influence_Of at the arguments that awake of law 38 hands it: run. -/
import Derived.Test.YtpefhfiehfkocaaGreatDoorOM
import Derived.KernelRfl
namespace Go.Proofs.YtpefhfiehfkocaaGreatDoor
open Go.RowKit
def K38Build0A:List AV:=[.sl [[.str [97,112,112],.str [49],.str [114,101,99,105,112,101],.sl [[.str [102],.str [120,10,121]],[.str [114,101,99,105,112,101],.str [105,110,115,116,97,108,108,32,102,32,97,115,32,111]]]]]]
def K38Build0R:AV:=.tup [.agg [.sl [[.str [97,112,112,47,102],.str [120,10,121]],[.str [97,112,112,47,111],.str [120,10,121]],[.str [97,112,112,47,114,101,99,105,112,101],.str [105,110,115,116,97,108,108,32,102,32,97,115,32,111]]],.sl [[.str [97,112,112,47,111]]],.sl [[.int .i64 0,.int .i64 0,.int .i64 8,.sl [[.str [97,112,112,47,102],.str [253,207,86,228,195,80,0,81,70,115,57,33,121,38,230,184,190,194,117,220,185,83,70,80,25,146,199,151,91,180,150,98]]],.str [97,112,112,47,111],.str [253,207,86,228,195,80,0,81,70,115,57,33,121,38,230,184,190,194,117,220,185,83,70,80,25,146,199,151,91,180,150,98]]]],.agg [.int .i64 0,.int .i64 0,.int .i64 0,.str [],.int .i64 0]]
theorem K38Build0_run(m:GvP):at1 (genS Tryz.prog (gv1 m) fe38 2000 (B38p m) 60) Fn.build_Build K38Build0A=some K38Build0R:=by kernel_rfl
def K38Build1A:List AV:=[.sl [[.str [97,112,112],.str [49],.str [114,101,99,105,112,101],.sl [[.str [102],.str []],[.str [114,101,99,105,112,101],.str [105,110,115,116,97,108,108,32,102,32,97,115,32,111]]]]]]
def K38Build1R:AV:=.tup [.agg [.sl [[.str [97,112,112,47,102],.str []],[.str [97,112,112,47,111],.str []],[.str [97,112,112,47,114,101,99,105,112,101],.str [105,110,115,116,97,108,108,32,102,32,97,115,32,111]]],.sl [[.str [97,112,112,47,111]]],.sl [[.int .i64 0,.int .i64 0,.int .i64 8,.sl [[.str [97,112,112,47,102],.str [167,255,198,248,191,30,215,102,81,193,71,86,160,97,214,98,245,128,255,77,228,59,73,250,130,216,10,75,128,248,67,74]]],.str [97,112,112,47,111],.str [167,255,198,248,191,30,215,102,81,193,71,86,160,97,214,98,245,128,255,77,228,59,73,250,130,216,10,75,128,248,67,74]]]],.agg [.int .i64 0,.int .i64 0,.int .i64 0,.str [],.int .i64 0]]
theorem K38Build1_run(m:GvP):at1 (genS Tryz.prog (gv1 m) fe38 2000 (B38p m) 60) Fn.build_Build K38Build1A=some K38Build1R:=by kernel_rfl
def F_38Build:List AV→Option AV:=F_or (F_tab K38Build0A K38Build0R) (F_tab K38Build1A K38Build1R)
theorem K38Build_ok(H:∀ m,GamOK Tryz.prog (gv1 m) (B38p m))(m:GvP):PureOK Tryz.prog (gv1 m) Fn.build_Build F_38Build:=or_pure (tab_ok (genS_ok (by kernel_rfl) (H m) 60) (K38Build0_run m)) (tab_ok (genS_ok (by kernel_rfl) (H m) 60) (K38Build1_run m))
noncomputable def B38pb(m:GvP):Gam:=(B38p m).add Fn.build_Build (.pure F_38Build)
theorem b38pb_ok(H:∀ m,GamOK Tryz.prog (gv1 m) (B38 m))(m:GvP):GamOK Tryz.prog (gv1 m) (B38pb m):=gam_add ((b38p_ok H) m) (by kernel_rfl) (K38Build_ok ((b38p_ok H)) m)
end Go.Proofs.YtpefhfiehfkocaaGreatDoor
namespace Go.Proofs.YtpefhfiehfkocaaGreatDoor
open Go.RowKit
def K38Of0A:List AV:=[.sl [[.str [97,112,112],.str [49],.str [114,101,99,105,112,101],.sl [[.str [102],.str [120,10,121]],[.str [114,101,99,105,112,101],.str [105,110,115,116,97,108,108,32,102,32,97,115,32,111]]]]],.str [97,112,112,47,111]]
def K38Of0R:AV:=.tup [.agg [.str [97,112,112,47,111],.sl [[.str [97,112,112,47,102],.int .i64 0,.int .i64 2]],.sl [],.sl [],.sl [[.str [97,112,112,47,114,101,99,105,112,101],.int .i64 0,.int .i64 1]],.sl []],.agg [.int .i64 0,.int .i64 0,.int .i64 0,.str [],.int .i64 0]]
theorem K38Of0_run(m:GvP):at1 (genS Tryz.prog (gv1 m) fe38 2000 (B38pb m) 60) Fn.q84 K38Of0A=some K38Of0R:=by kernel_rfl
def K38Of1A:List AV:=[.sl [[.str [97,112,112],.str [49],.str [114,101,99,105,112,101],.sl [[.str [102],.str []],[.str [114,101,99,105,112,101],.str [105,110,115,116,97,108,108,32,102,32,97,115,32,111]]]]],.str [97,112,112,47,111]]
def K38Of1R:AV:=.tup [.agg [.str [97,112,112,47,111],.sl [[.str [97,112,112,47,102],.int .i64 0,.int .i64 1]],.sl [],.sl [],.sl [[.str [97,112,112,47,114,101,99,105,112,101],.int .i64 0,.int .i64 1]],.sl []],.agg [.int .i64 0,.int .i64 0,.int .i64 0,.str [],.int .i64 0]]
theorem K38Of1_run(m:GvP):at1 (genS Tryz.prog (gv1 m) fe38 2000 (B38pb m) 60) Fn.q84 K38Of1A=some K38Of1R:=by kernel_rfl
def F_38Of:List AV→Option AV:=F_or (F_tab K38Of0A K38Of0R) (F_tab K38Of1A K38Of1R)
theorem K38Of_ok(H:∀ m,GamOK Tryz.prog (gv1 m) (B38pb m))(m:GvP):PureOK Tryz.prog (gv1 m) Fn.q84 F_38Of:=or_pure (tab_ok (genS_ok (by kernel_rfl) (H m) 60) (K38Of0_run m)) (tab_ok (genS_ok (by kernel_rfl) (H m) 60) (K38Of1_run m))
noncomputable def B38pbo(m:GvP):Gam:=(B38pb m).add Fn.q84 (.pure F_38Of)
theorem b38pbo_ok(H:∀ m,GamOK Tryz.prog (gv1 m) (B38 m))(m:GvP):GamOK Tryz.prog (gv1 m) (B38pbo m):=gam_add ((b38pb_ok H) m) (by kernel_rfl) (K38Of_ok ((b38pb_ok H)) m)
end Go.Proofs.YtpefhfiehfkocaaGreatDoor
