/- The resolved functions are the functio -/
import Derived.Test.YtpefhfiehfkocaaGreatDoorRecOk
import Derived.Test.YtpefhfiehfkocaaGreatDoorCA
import Derived.Test.YtpefhfiehfkocaaGreatDoorRmG
namespace Go.Proofs.YtpefhfiehfkocaaGreatDoor
open Go.RowKit
noncomputable section
theorem Ok.al(m:GvP):(bU Tryz.prog (gv1 m) Ks.al Tryz.f230.ntmps [] (Tryz.f230.body.getD .skip) Dl.al).1=Mc.al:=by kernel_rfl
theorem Ok.am(m:GvP):(bU Tryz.prog (gv1 m) Ks.am Tryz.f128.ntmps [] (Tryz.f128.body.getD .skip) Dl.am).1=Mc.am:=by kernel_rfl
theorem Ok.ch(m:GvP):(bU Tryz.prog (gv1 m) Ks.ch Tryz.f55.ntmps [] (Tryz.f55.body.getD .skip) Dl.ch).1=Mc.ch:=by kernel_rfl
theorem Ok.cq(m:GvP):(bU Tryz.prog (gv1 m) Ks.cq Tryz.f63.ntmps [] (Tryz.f63.body.getD .skip) Dl.cq).1=Mc.cq:=by kernel_rfl
structure Lib38(m:GvP):Prop where
 split:dP Tryz.prog (gv1 m) Fn.dr HG
 hp:dP Tryz.prog (gv1 m) Fn.du qR
 clone:dP Tryz.prog (gv1 m) Fn.dw yF
 contains:dP Tryz.prog (gv1 m) Fn.eb NR
 count:dP Tryz.prog (gv1 m) Fn.dd uB
 cmp:dP Tryz.prog (gv1 m) Fn.dh HE
 blen:dP Tryz.prog (gv1 m) Fn.dq CD
def Gs0:Gam:=Gam.none
theorem yM1(m:GvP)(_H:Lib38 m):GamOK Tryz.prog (gv1 m) Gs0:=zy6 _
def Gs1:Gam:=Gs0.add Fn.du (.pure qR)
theorem yN0:CK Lib38 Gs1:=aH yM1 fun m H=>H.hp
def Gs2:Gam:=Gs1.add Fn.dw (.pure yF)
theorem yO0:CK Lib38 Gs2:=aH yN0 fun m H=>H.clone
def Gs3:Gam:=Gs2.add Fn.c9 (.pure qR)
theorem yP1:CK Lib38 Gs3:=aP yO0 (yk6 rfl)
def Gs4:Gam:=Gs3.add Fn.c7 (.pure yF)
theorem yQ1:CK Lib38 Gs4:=aP yP1 (yh6 rfl)
def Gs5:Gam:=Gs4.add Fn.c1 (.pure NX)
theorem yQ5:CK Lib38 Gs5:=aP yQ1 (xn3 _)
def Gs6:Gam:=Gs5.add Fn.au (.pure NY)
theorem yQ6:CK Lib38 Gs6:=aP yQ5 (xn8 _ rfl)
def Gs7:Gam:=Gs6.add Fn.c6 (.pure VF)
theorem yQ7:CK Lib38 Gs7:=aP yQ6 (xd7 _)
def Gs8:Gam:=Gs7.add Fn.c5 (.pure VD)
theorem yQ8:CK Lib38 Gs8:=aP yQ7 (yz1 _)
def Gs9:Gam:=Gs8.add Fn.co (.pure NU)
theorem yQ9:CK Lib38 Gs9:=aP yQ8 (yn3 _ rfl rfl rfl)
def Gs10:Gam:=Gs9.add Fn.cj (.gen sD)
theorem yM2:CK Lib38 Gs10:=aG yQ9 (yn7 _ rfl)
def Gs11:Gam:=Gs10.add Fn.cx (.gen BS)
theorem yM3:CK Lib38 Gs11:=aG yM2 (yh7 _)
def Gs12:Gam:=Gs11.add Fn.c3 (.gen NS)
theorem yM4:CK Lib38 Gs12:=aG yM3 (yn0 _)
def Gs13:Gam:=Gs12.add Fn.bk (.gen BY)
theorem yM5:CK Lib38 Gs13:=aG yM4 (yn6 _ rfl) (ow:=Ow.__digest_Sponge__Write)
def Gs14:Gam:=Gs13.add Fn.ct (.gen BX)
theorem yM6:CK Lib38 Gs14:=aG yM5 (yn5 _ rfl rfl)
def Gs15:Gam:=Gs14.add Fn.c4 (.pure qT)
theorem yM7:CK Lib38 Gs15:=aP yM6 (yB1 _ rfl rfl rfl)
def Gs16:Gam:=Gs15.add Fn.cn (.pure yG)
theorem yM8:CK Lib38 Gs16:=aP yM7 (yT4 _)
def Gs17:Gam:=Gs16.add Fn.cw (.pure uA)
theorem yM9:CK Lib38 Gs17:=aP yM8 (yz3 _ rfl)
def Gs18:Gam:=Gs17.add Fn.df (.gen (vZ [124]))
theorem zz5:CK Lib38 Gs18:=aH yM9 fun m H=>xt8 (gv1 m)
def Gs19:Gam:=Gs18.add Fn.bw (.gen (bO oD))
theorem zz6:CK Lib38 Gs19:=aH zz5 fun m H=>LookB.bw (zz5 m H) (xF4 rfl rfl)
def Gs20:Gam:=Gs19.add Fn.cc (.pure CX)
theorem zz7:CK Lib38 Gs20:=aH zz6 fun m H=>PureB.cc (zz6 m H) xH1
def Gs21:Gam:=Gs20.add Fn.az (.gen (CC 112 75))
theorem yN1:CK Lib38 Gs21:=aH zz7 fun m H=>GenZ.az (zz7 m H) (yo7 _ rfl rfl rfl rfl)
def Gs22:Gam:=Gs21.add Fn.dh (.pure HE)
theorem yN2:CK Lib38 Gs22:=aH yN1 fun m H=>H.cmp
def Gs23:Gam:=Gs22.add Fn.dq (.pure CD)
theorem yN3:CK Lib38 Gs23:=aH yN2 fun m H=>H.blen
def Gs24:Gam:=Gs23.add Fn.c2 (.pure NV)
theorem yN4:CK Lib38 Gs24:=aP yN3 (yV2)
def Gs25:Gam:=Gs24.add Fn.cb (.pure CE)
theorem yN5:CK Lib38 Gs25:=aP yN4 (yx3 rfl)
def Gs26:Gam:=Gs25.add Fn.ca (.pure yX)
theorem yN6:CK Lib38 Gs26:=aP yN5 (xg9)
def Gs27:Gam:=Gs26.add Fn.cu (.pure HS)
theorem yN7:CK Lib38 Gs27:=aP yN6 (yy5 rfl rfl rfl)
def Gs28:Gam:=Gs27.add Fn.ap (.gen (bO wD))
theorem yN8:CK Lib38 Gs28:=aL yN7 (yJ6 rfl rfl rfl)
def Gs29:Gam:=Gs28.add Fn.b6 (.gen HL)
theorem yN9:CK Lib38 Gs29:=aG yN8 (yU6 rfl)
def Gs30:Gam:=Gs29.add Fn.cs (.gen HO)
theorem yO1:CK Lib38 Gs30:=aG yN9 (xi5 rfl)
def Gs31:Gam:=Gs30.add Fn.cr (.gen HU)
theorem yO2:CK Lib38 Gs31:=aG yO1 (xt9 rfl rfl)
def Gs32:Gam:=Gs31.add Fn.ds (.gen (wA 315))
theorem yO3:CK Lib38 Gs32:=aH yO2 fun m H=>xu3 (gv1 m)
def Gs33:Gam:=Gs32.add Fn.cz (.pure NW)
theorem yO4:CK Lib38 Gs33:=aP yO3 (xh9 _)
def Gs34:Gam:=Gs33.add Fn.dr (.pure HG)
theorem yO5:CK Lib38 Gs34:=aH yO4 fun m H=>H.split
def Gs35:Gam:=Gs34.add Fn.bm (.gen (bO (CN Gs34)))
theorem yO6:CK Lib38 Gs35:=aL yO5 (zH5 _)
def Gs36:Gam:=Gs35.add Fn.b8 (.gen (bO (wE Gs34)))
theorem yO7:CK Lib38 Gs36:=aL yO6 (yc0 _ _ rfl)
def Gs37:Gam:=Gs36.add Fn.c8 (.gen (bO (HV Gs34)))
theorem yO8:CK Lib38 Gs37:=aL yO7 (xw4 _ _ rfl)
def Gs38:Gam:=Gs37.add Fn.cy (.pure VG)
theorem yO9:CK Lib38 Gs38:=aP yO8 (xi0 _ Gs34 rfl rfl)
def Gs39:Gam:=Gs38.add Fn.da (.pure VC)
theorem yP0:CK Lib38 Gs39:=aP yO9 (yn1 _ rfl)
def Gs40:Gam:=Gs39.add Fn.cm (.gen (bO (nY false 1 Gs39)))
theorem yP2:CK Lib38 Gs40:=aL yP0 (yS9 _)
def Gs41:Gam:=Gs40.add Fn.db (.gen (bO (nX false 1 Gs39)))
theorem yP3:CK Lib38 Gs41:=aL yP2 (yz6 _ _ rfl)
def Gs42:Gam:=Gs41.add Fn.cl (.pure yH)
theorem yP4:CK Lib38 Gs42:=aP yP3 (yn2 _ Gs39 rfl rfl rfl)
def Gs43:Gam:=Gs42.add Fn.dt (.gen (uC 3))
theorem yP5:CK Lib38 Gs43:=aH yP4 fun m H=>yL9 (gv1 m)
def Gs44:Gam:=Gs43.add Fn.cp (.pure uF)
theorem yP6:CK Lib38 Gs44:=aP yP5 (yU7)
def Gs45:Gam:=Gs44.add Fn.cv (.pure uD)
theorem yP7:CK Lib38 Gs45:=aP yP6 (yq1)
def Gs46:Gam:=Gs45.add Fn.bt (.pure yL)
theorem yP8:CK Lib38 Gs46:=aP yP7 (yW5 rfl rfl rfl)
def Gs47:Gam:=Gs46.add Fn.bd (.gen BU)
theorem zz8:CK Lib38 Gs47:=aG yP8 (yy9 rfl)
def Gs48:Gam:=Gs47.add Fn.al (.gen yR)
theorem yP9:CK Lib38 Gs48:=aH zz8 fun m H=>uY (by kernel_rfl) (zz8 m H) Tryz.func230 rfl (ks:=Ks.al) (rs:=Rs.al) (by kernel_rfl) (by kernel_rfl) (Ok.al m) (xa0 rfl rfl)
def Gs49:Gam:=Gs48.add Fn.cf (.pure yK)
theorem yQ0:CK Lib38 Gs49:=aP yP9 (yW4 rfl rfl rfl)
def Gs50:Gam:=Gs49.add Fn.c0 (.pure yU)
theorem yQ2:CK Lib38 Gs50:=aP yQ0 (xc4 rfl)
def Gs51:Gam:=Gs50.add Fn.a7 (.pure yT)
theorem yQ3:CK Lib38 Gs51:=aP yQ2 (xc3 rfl)
def Gs52:Gam:=Gs51.add Fn.b3 (.pure oA)
theorem yQ4:CK Lib38 Gs52:=aP yQ3 (xc2 rfl rfl)
def zj9:Gam:=Gs52.add Fn.bs (.pure pD)
theorem pX:CK Lib38 zj9:=aP yQ4 (xc1 rfl rfl)
end
end Go.Proofs.YtpefhfiehfkocaaGreatDoor
