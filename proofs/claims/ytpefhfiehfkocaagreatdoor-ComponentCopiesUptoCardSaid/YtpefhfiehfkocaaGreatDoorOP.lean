/- component_Sources at the arguments tha -/
import Derived.Test.YtpefhfiehfkocaaGreatDoorOO
namespace Go.Proofs.YtpefhfiehfkocaaGreatDoor
open Go.RowKit
def zl1:List AV:=[.sl [[.str [97,112,112],.str [49],.str [114,101,99,105,112,101],.sl [[.str [102],.str [120,10,121]],[.str [114,101,99,105,112,101],.str [105,110,115,116,97,108,108,32,102,32,97,115,32,111]]]]]]
def zl2:AV:=.tup [.sl [[.str [97,112,112,47,102],.str [120,10,121]],[.str [97,112,112,47,114,101,99,105,112,101],.str [105,110,115,116,97,108,108,32,102,32,97,115,32,111]]],.agg [.int .i64 0,.int .i64 0,.int .i64 0,.str [],.int .i64 0]]
theorem yl6(m:GvP):at1 (fF Tryz.prog (gv1 m) cJ 2000 (GX m) 60) Fn.dl zl1=some zl2:=by kernel_rfl
def zl3:List AV:=[.sl [[.str [97,112,112],.str [49],.str [114,101,99,105,112,101],.sl [[.str [102],.str []],[.str [114,101,99,105,112,101],.str [105,110,115,116,97,108,108,32,102,32,97,115,32,111]]]]]]
def zl4:AV:=.tup [.sl [[.str [97,112,112,47,102],.str []],[.str [97,112,112,47,114,101,99,105,112,101],.str [105,110,115,116,97,108,108,32,102,32,97,115,32,111]]],.agg [.int .i64 0,.int .i64 0,.int .i64 0,.str [],.int .i64 0]]
theorem yl7(m:GvP):at1 (fF Tryz.prog (gv1 m) cJ 2000 (GX m) 60) Fn.dl zl3=some zl4:=by kernel_rfl
def zj1:List AV->Option AV:=yW (mI zl1 zl2) (mI zl3 zl4)
theorem yl8(H:∀m,GamOK Tryz.prog (gv1 m) (GX m))(m:GvP):dP Tryz.prog (gv1 m) Fn.dl zj1:=LX (tT (fZ (by kernel_rfl) (H m) 60) (yl6 m)) (tT (fZ (by kernel_rfl) (H m) 60) (yl7 m))
noncomputable def GY(m:GvP):Gam:=(GX m).add Fn.dl (.pure zj1)
theorem zp1(H:∀m,GamOK Tryz.prog (gv1 m) (B38 m))(m:GvP):GamOK Tryz.prog (gv1 m) (GY m):=bD ((zp0 H) m) (by kernel_rfl) (yl8 ((zp0 H)) m)
def zl9:List AV:=[.sl [[.str [97,112,112],.str [49],.str [114,101,99,105,112,101],.sl [[.str [102],.str [120,10,121]],[.str [114,101,99,105,112,101],.str [105,110,115,116,97,108,108,32,102,32,97,115,32,111]]]]],.str [97,112,112,47,111]]
def zm0:AV:=.tup [.sl [[.int .i64 0,.str [97,112,112,47,102],.str [97,112,112,47,111],.int .i64 0,.int .i64 0,.int .i64 0,.bool false,.int .i64 0,.str [],.str [],.sl [],.sl []]],.agg [.int .i64 0,.int .i64 0,.int .i64 0,.str [],.int .i64 0]]
theorem ym2(m:GvP):at1 (fF Tryz.prog (gv1 m) cJ 2000 (GY m) 60) Fn.di zl9=some zm0:=by kernel_rfl
def zm1:List AV:=[.sl [[.str [97,112,112],.str [49],.str [114,101,99,105,112,101],.sl [[.str [102],.str []],[.str [114,101,99,105,112,101],.str [105,110,115,116,97,108,108,32,102,32,97,115,32,111]]]]],.str [97,112,112,47,102]]
def zm2:AV:=.tup [.sl [],.agg [.int .i64 7,.int .i64 (-1),.int .i64 (-1),.str [97,112,112,47,102],.int .i64 (-1)]]
theorem ym3(m:GvP):at1 (fF Tryz.prog (gv1 m) cJ 2000 (GY m) 60) Fn.di zm1=some zm2:=by kernel_rfl
def zj3:List AV->Option AV:=yW (mI zl9 zm0) (mI zm1 zm2)
theorem ym4(H:∀m,GamOK Tryz.prog (gv1 m) (GY m))(m:GvP):dP Tryz.prog (gv1 m) Fn.di zj3:=LX (tT (fZ (by kernel_rfl) (H m) 60) (ym2 m)) (tT (fZ (by kernel_rfl) (H m) 60) (ym3 m))
noncomputable def zh4(m:GvP):Gam:=(GY m).add Fn.di (.pure zj3)
theorem yp8(H:∀m,GamOK Tryz.prog (gv1 m) (B38 m))(m:GvP):GamOK Tryz.prog (gv1 m) (zh4 m):=bD ((zp1 H) m) (by kernel_rfl) (ym4 ((zp1 H)) m)
end Go.Proofs.YtpefhfiehfkocaaGreatDoor
