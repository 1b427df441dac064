/- component_Sources at the arguments that awake of law 38 hands it: run. component_Uses at the arguments that awake of law 38 hands it: run. -/
import Derived.Test.YtpefhfiehfkocaaGreatDoorOO
import Derived.KernelRfl
namespace Go.Proofs.YtpefhfiehfkocaaGreatDoor
open Go.RowKit
def K38Src0A:List AV:=[.sl [[.str [97,112,112],.str [49],.str [114,101,99,105,112,101],.sl [[.str [102],.str [120,10,121]],[.str [114,101,99,105,112,101],.str [105,110,115,116,97,108,108,32,102,32,97,115,32,111]]]]]]
def K38Src0R:AV:=.tup [.sl [[.str [97,112,112,47,102],.str [120,10,121]],[.str [97,112,112,47,114,101,99,105,112,101],.str [105,110,115,116,97,108,108,32,102,32,97,115,32,111]]],.agg [.int .i64 0,.int .i64 0,.int .i64 0,.str [],.int .i64 0]]
theorem K38Src0_run(m:GvP):at1 (genS Tryz.prog (gv1 m) fe38 2000 (B38pbo m) 60) Fn.q56 K38Src0A=some K38Src0R:=by kernel_rfl
def K38Src1A:List AV:=[.sl [[.str [97,112,112],.str [49],.str [114,101,99,105,112,101],.sl [[.str [102],.str []],[.str [114,101,99,105,112,101],.str [105,110,115,116,97,108,108,32,102,32,97,115,32,111]]]]]]
def K38Src1R:AV:=.tup [.sl [[.str [97,112,112,47,102],.str []],[.str [97,112,112,47,114,101,99,105,112,101],.str [105,110,115,116,97,108,108,32,102,32,97,115,32,111]]],.agg [.int .i64 0,.int .i64 0,.int .i64 0,.str [],.int .i64 0]]
theorem K38Src1_run(m:GvP):at1 (genS Tryz.prog (gv1 m) fe38 2000 (B38pbo m) 60) Fn.q56 K38Src1A=some K38Src1R:=by kernel_rfl
def F_38Src:List AV→Option AV:=F_or (F_tab K38Src0A K38Src0R) (F_tab K38Src1A K38Src1R)
theorem K38Src_ok(H:∀ m,GamOK Tryz.prog (gv1 m) (B38pbo m))(m:GvP):PureOK Tryz.prog (gv1 m) Fn.q56 F_38Src:=or_pure (tab_ok (genS_ok (by kernel_rfl) (H m) 60) (K38Src0_run m)) (tab_ok (genS_ok (by kernel_rfl) (H m) 60) (K38Src1_run m))
noncomputable def B38pbos(m:GvP):Gam:=(B38pbo m).add Fn.q56 (.pure F_38Src)
theorem b38pbos_ok(H:∀ m,GamOK Tryz.prog (gv1 m) (B38 m))(m:GvP):GamOK Tryz.prog (gv1 m) (B38pbos m):=gam_add ((b38pbo_ok H) m) (by kernel_rfl) (K38Src_ok ((b38pbo_ok H)) m)
end Go.Proofs.YtpefhfiehfkocaaGreatDoor
namespace Go.Proofs.YtpefhfiehfkocaaGreatDoor
open Go.RowKit
def K38Uses0A:List AV:=[.sl [[.str [97,112,112],.str [49],.str [114,101,99,105,112,101],.sl [[.str [102],.str [120,10,121]],[.str [114,101,99,105,112,101],.str [105,110,115,116,97,108,108,32,102,32,97,115,32,111]]]]],.str [97,112,112,47,111]]
def K38Uses0R:AV:=.tup [.sl [[.int .i64 0,.str [97,112,112,47,102],.str [97,112,112,47,111],.int .i64 0,.int .i64 0,.int .i64 0,.bool false,.int .i64 0,.str [],.str [],.sl [],.sl []]],.agg [.int .i64 0,.int .i64 0,.int .i64 0,.str [],.int .i64 0]]
theorem K38Uses0_run(m:GvP):at1 (genS Tryz.prog (gv1 m) fe38 2000 (B38pbos m) 60) Fn.q67 K38Uses0A=some K38Uses0R:=by kernel_rfl
def K38Uses1A:List AV:=[.sl [[.str [97,112,112],.str [49],.str [114,101,99,105,112,101],.sl [[.str [102],.str []],[.str [114,101,99,105,112,101],.str [105,110,115,116,97,108,108,32,102,32,97,115,32,111]]]]],.str [97,112,112,47,102]]
def K38Uses1R:AV:=.tup [.sl [],.agg [.int .i64 7,.int .i64 (-1),.int .i64 (-1),.str [97,112,112,47,102],.int .i64 (-1)]]
theorem K38Uses1_run(m:GvP):at1 (genS Tryz.prog (gv1 m) fe38 2000 (B38pbos m) 60) Fn.q67 K38Uses1A=some K38Uses1R:=by kernel_rfl
def F_38Uses:List AV→Option AV:=F_or (F_tab K38Uses0A K38Uses0R) (F_tab K38Uses1A K38Uses1R)
theorem K38Uses_ok(H:∀ m,GamOK Tryz.prog (gv1 m) (B38pbos m))(m:GvP):PureOK Tryz.prog (gv1 m) Fn.q67 F_38Uses:=or_pure (tab_ok (genS_ok (by kernel_rfl) (H m) 60) (K38Uses0_run m)) (tab_ok (genS_ok (by kernel_rfl) (H m) 60) (K38Uses1_run m))
noncomputable def B38pbosu(m:GvP):Gam:=(B38pbos m).add Fn.q67 (.pure F_38Uses)
theorem b38pbosu_ok(H:∀ m,GamOK Tryz.prog (gv1 m) (B38 m))(m:GvP):GamOK Tryz.prog (gv1 m) (B38pbosu m):=gam_add ((b38pbos_ok H) m) (by kernel_rfl) (K38Uses_ok ((b38pbos_ok H)) m)
end Go.Proofs.YtpefhfiehfkocaaGreatDoor
