/- build_Build at the arguments that awak -/
import Derived.Test.YtpefhfiehfkocaaGreatDoorOM
namespace Go.Proofs.YtpefhfiehfkocaaGreatDoor
open Go.RowKit
def zk1:List AV:=[.sl [[.str [97,112,112],.str [49],.str [114,101,99,105,112,101],.sl [[.str [102],.str [120,10,121]],[.str [114,101,99,105,112,101],.str [105,110,115,116,97,108,108,32,102,32,97,115,32,111]]]]]]
def zk2:AV:=.tup [.agg [.sl [[.str [97,112,112,47,102],.str [120,10,121]],[.str [97,112,112,47,111],.str [120,10,121]],[.str [97,112,112,47,114,101,99,105,112,101],.str [105,110,115,116,97,108,108,32,102,32,97,115,32,111]]],.sl [[.str [97,112,112,47,111]]],.sl [[.int .i64 0,.int .i64 0,.int .i64 8,.sl [[.str [97,112,112,47,102],.str [253,207,86,228,195,80,0,81,70,115,57,33,121,38,230,184,190,194,117,220,185,83,70,80,25,146,199,151,91,180,150,98]]],.str [97,112,112,47,111],.str [253,207,86,228,195,80,0,81,70,115,57,33,121,38,230,184,190,194,117,220,185,83,70,80,25,146,199,151,91,180,150,98]]]],.agg [.int .i64 0,.int .i64 0,.int .i64 0,.str [],.int .i64 0]]
theorem yk8(m:GvP):at1 (fF Tryz.prog (gv1 m) cJ 2000 (tX m) 60) Fn.de zk1=some zk2:=by kernel_rfl
def zk3:List AV:=[.sl [[.str [97,112,112],.str [49],.str [114,101,99,105,112,101],.sl [[.str [102],.str []],[.str [114,101,99,105,112,101],.str [105,110,115,116,97,108,108,32,102,32,97,115,32,111]]]]]]
def zk4:AV:=.tup [.agg [.sl [[.str [97,112,112,47,102],.str []],[.str [97,112,112,47,111],.str []],[.str [97,112,112,47,114,101,99,105,112,101],.str [105,110,115,116,97,108,108,32,102,32,97,115,32,111]]],.sl [[.str [97,112,112,47,111]]],.sl [[.int .i64 0,.int .i64 0,.int .i64 8,.sl [[.str [97,112,112,47,102],.str [167,255,198,248,191,30,215,102,81,193,71,86,160,97,214,98,245,128,255,77,228,59,73,250,130,216,10,75,128,248,67,74]]],.str [97,112,112,47,111],.str [167,255,198,248,191,30,215,102,81,193,71,86,160,97,214,98,245,128,255,77,228,59,73,250,130,216,10,75,128,248,67,74]]]],.agg [.int .i64 0,.int .i64 0,.int .i64 0,.str [],.int .i64 0]]
theorem yk9(m:GvP):at1 (fF Tryz.prog (gv1 m) cJ 2000 (tX m) 60) Fn.de zk3=some zk4:=by kernel_rfl
def zi8:List AV->Option AV:=yW (mI zk1 zk2) (mI zk3 zk4)
theorem yl0(H:∀m,GamOK Tryz.prog (gv1 m) (tX m))(m:GvP):dP Tryz.prog (gv1 m) Fn.de zi8:=LX (tT (fZ (by kernel_rfl) (H m) 60) (yk8 m)) (tT (fZ (by kernel_rfl) (H m) 60) (yk9 m))
noncomputable def GV(m:GvP):Gam:=(tX m).add Fn.de (.pure zi8)
theorem zo9(H:∀m,GamOK Tryz.prog (gv1 m) (B38 m))(m:GvP):GamOK Tryz.prog (gv1 m) (GV m):=bD ((VY H) m) (by kernel_rfl) (yl0 ((VY H)) m)
def zk5:List AV:=[.sl [[.str [97,112,112],.str [49],.str [114,101,99,105,112,101],.sl [[.str [102],.str [120,10,121]],[.str [114,101,99,105,112,101],.str [105,110,115,116,97,108,108,32,102,32,97,115,32,111]]]]],.str [97,112,112,47,111]]
def zk6:AV:=.tup [.agg [.str [97,112,112,47,111],.sl [[.str [97,112,112,47,102],.int .i64 0,.int .i64 2]],.sl [],.sl [],.sl [[.str [97,112,112,47,114,101,99,105,112,101],.int .i64 0,.int .i64 1]],.sl []],.agg [.int .i64 0,.int .i64 0,.int .i64 0,.str [],.int .i64 0]]
theorem yl1(m:GvP):at1 (fF Tryz.prog (gv1 m) cJ 2000 (GV m) 60) Fn.b2 zk5=some zk6:=by kernel_rfl
def zk7:List AV:=[.sl [[.str [97,112,112],.str [49],.str [114,101,99,105,112,101],.sl [[.str [102],.str []],[.str [114,101,99,105,112,101],.str [105,110,115,116,97,108,108,32,102,32,97,115,32,111]]]]],.str [97,112,112,47,111]]
def zk8:AV:=.tup [.agg [.str [97,112,112,47,111],.sl [[.str [97,112,112,47,102],.int .i64 0,.int .i64 1]],.sl [],.sl [],.sl [[.str [97,112,112,47,114,101,99,105,112,101],.int .i64 0,.int .i64 1]],.sl []],.agg [.int .i64 0,.int .i64 0,.int .i64 0,.str [],.int .i64 0]]
theorem yl2(m:GvP):at1 (fF Tryz.prog (gv1 m) cJ 2000 (GV m) 60) Fn.b2 zk7=some zk8:=by kernel_rfl
def zi9:List AV->Option AV:=yW (mI zk5 zk6) (mI zk7 zk8)
theorem yl3(H:∀m,GamOK Tryz.prog (gv1 m) (GV m))(m:GvP):dP Tryz.prog (gv1 m) Fn.b2 zi9:=LX (tT (fZ (by kernel_rfl) (H m) 60) (yl1 m)) (tT (fZ (by kernel_rfl) (H m) 60) (yl2 m))
noncomputable def GX(m:GvP):Gam:=(GV m).add Fn.b2 (.pure zi9)
theorem zp0(H:∀m,GamOK Tryz.prog (gv1 m) (B38 m))(m:GvP):GamOK Tryz.prog (gv1 m) (GX m):=bD ((zo9 H) m) (by kernel_rfl) (yl3 ((zo9 H)) m)
end Go.Proofs.YtpefhfiehfkocaaGreatDoor
