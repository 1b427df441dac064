/- The contracts that awake of law 46 is -/
import Derived.Test.YtdebajodkallbaaGreatDoorKa1
import Derived.Test.YtdebajodkallbaaGreatDoorRmL
import Derived.Test.YtdebajodkallbaaGreatDoorRmN
namespace Go.Proofs.YtdebajodkallbaaGreatDoor
open Go.RowKit
noncomputable section
structure Lb46(m:GvP):Prop where
 split:dW Tryz.prog (gv1 m) Fn.ed CQ
 itoa:dW Tryz.prog (gv1 m) Fn.d7 sX
 hp:dW Tryz.prog (gv1 m) Fn.eb nS
 clone:dW Tryz.prog (gv1 m) Fn.ec qA
 contains:dW Tryz.prog (gv1 m) Fn.eu MM
 count:dW Tryz.prog (gv1 m) Fn.ew MN
 cut:dW Tryz.prog (gv1 m) Fn.ef wX
 atoi:dW Tryz.prog (gv1 m) Fn.ex (MJ 548)cmp:dW Tryz.prog (gv1 m) Fn.ev ML
def Bc0:Gam:=Gam.none
theorem yg5(m:GvP)(_:Lb46 m):GamOK Tryz.prog (gv1 m) Bc0:=UV _
def Bc1:Gam:=Bc0.add Fn.eb (.pure (nS))
theorem yh3:CK Lb46 Bc1:=aH yg5 fun m H=>H.hp
def Bc2:Gam:=Bc1.add Fn.ec (.pure (qA))
theorem yh4:CK Lb46 Bc2:=aH yh3 fun m H=>H.clone
def Bc3:Gam:=Bc2.add Fn.dm (.pure (nS))
theorem yh5:CK Lb46 Bc3:=aP yh4 (zd3 rfl)
def Bc4:Gam:=Bc3.add Fn.dl (.pure (qA))
theorem yh6:CK Lb46 Bc4:=aP yh5 (zb2 rfl)
def Bc5:Gam:=Bc4.add Fn.di (.pure (MY))
theorem yh7:CK Lb46 Bc5:=aP yh6 (xk0 _)
def Bc6:Gam:=Bc5.add Fn.ax (.pure (MZ))
theorem yh8:CK Lb46 Bc6:=aP yh7 (xk7 _ rfl)
def Bc7:Gam:=Bc6.add Fn.dr (.pure (ST))
theorem yh9:CK Lb46 Bc7:=aP yh8 (xb3 _)
def Bc8:Gam:=Bc7.add Fn.dp (.pure (SS))
theorem yi0:CK Lb46 Bc8:=aP yh9 (yr9 _)
def Bc9:Gam:=Bc8.add Fn.cg (.pure (MS))
theorem yi1:CK Lb46 Bc9:=aP yi0 (yc2 _ rfl rfl rfl)
def Bc10:Gam:=Bc9.add Fn.b1 (.gen (sZ))
theorem yg6:CK Lb46 Bc10:=aG yi1 (yd8 _ rfl)
def Bc11:Gam:=Bc10.add Fn.c6 (.gen (CN))
theorem yg7:CK Lb46 Bc11:=aG yg6 (zV6 _)
def Bc12:Gam:=Bc11.add Fn.dn (.gen (MQ))
theorem yg8:CK Lb46 Bc12:=aG yg7 (yb6 _)
def Bc13:Gam:=Bc12.add Fn.a8 (.gen (CS))
theorem yg9:CK Lb46 Bc13:=aG yg8 (yd7 _ rfl) (ow:=Ow.__digest_Sponge__Write)
def Bc14:Gam:=Bc13.add Fn.cu (.gen (CR))
theorem yh0:CK Lb46 Bc14:=aG yg9 (yd2 _ rfl rfl)
def Bc15:Gam:=Bc14.add Fn.co (.pure (oT))
theorem zj2:CK Lb46 Bc15:=aP yh0 (yu0 _ rfl rfl rfl)
def Bc16:Gam:=Bc15.add Fn.cc (.pure (zG))
theorem yh1:CK Lb46 Bc16:=aP zj2 (yS4 _)
def Bc17:Gam:=Bc16.add Fn.du (.pure (mL))
theorem yh2:CK Lb46 Bc17:=aP yh1 (ys1 _ rfl)
def Bc18:Gam:=Bc17.add Fn.ea (.gen ((sY [237,54])))
theorem zj3:CK Lb46 Bc18:=aH yh2 fun m H=>xp6 (gv1 m)
def Bc19:Gam:=Bc18.add Fn.bb (.gen (cJ oV))
theorem zj4:CK Lb46 Bc19:=aH zj3 fun m H=>LookB.bb (zj3 m H) (xw2 rfl rfl)
def Bc20:Gam:=Bc19.add Fn.bj (.pure (xD))
theorem zj5:CK Lb46 Bc20:=aH zj4 fun m H=>PureB.bj (zj4 m H) xy3
def zV2:Gam:=Bc20.add Fn.ay (.gen ((CU 226 190)))
theorem vI:CK Lb46 zV2:=aH zj5 fun m H=>GenZ.ay (zj5 m H) (ye4 _ rfl rfl rfl rfl)
theorem yk2(m:GvP)(_:Lb46 m):GamOK Tryz.prog (gv1 m) Bs0:=UV _
theorem yl3:CK Lb46 Bs1:=aH yk2 fun m H=>H.split
theorem yl8:CK Lb46 Bs2:=aH yl3 fun m H=>(vI m H).ok 197 (.pure nS) (by rfl)
theorem yl9:CK Lb46 Bs3:=aH yl8 fun m H=>H.contains
theorem ym0:CK Lb46 Bs4:=aH yl9 fun m H=>H.count
theorem ym1:CK Lb46 Bs5:=aH ym0 fun m H=>H.cut
theorem ym2:CK Lb46 Bs6:=aH ym1 fun m H=>H.itoa
theorem ym3:CK Lb46 Bs7:=aH ym2 fun m H=>H.atoi
theorem ym4:CK Lb46 Bs8:=aH ym3 fun m H=>H.cmp
theorem ym5:CK Lb46 Bs9:=aH ym4 fun m H=>(vI m H).ok 67 (.pure qA) (by rfl)
theorem yk3:CK Lb46 Bs10:=aH ym5 fun m H=>zn4 (gv1 m)
theorem yk4:CK Lb46 Bs11:=aH yk3 fun m H=>(vI m H).ok 62 (.pure oT) (by rfl)
theorem yk5:CK Lb46 Bs12:=aH yk4 fun m H=>yo5 (gv1 m)
theorem yk6:CK Lb46 Bs13:=aH yk5 fun m H=>yo7 (gv1 m)
theorem yk7:CK Lb46 Bs14:=aH yk6 fun m H=>yo6 (gv1 m)
theorem yk8:CK Lb46 Bs15:=aH yk7 fun m H=>yo4 (gv1 m)
theorem yk9:CK Lb46 Bs16:=aH yk8 fun m H=>yo3 (gv1 m)
theorem yl0:CK Lb46 Bs17:=aH yk9 fun m H=>yB0 (gv1 m)
theorem yl1:CK Lb46 Bs18:=aH yl0 fun m H=>(vI m H).ok 140 (.pure zG) (by rfl)
theorem yl2:CK Lb46 Bs19:=aH yl1 fun m H=>(vI m H).ok 83 (.pure mL) (by rfl)
theorem yl4:CK Lb46 Bs20:=aH yl2 fun m H=>(vI m H).ok 53 (.gen (sY [237,54])) (by rfl)
theorem yl5:CK Lb46 Bs21:=aH yl4 fun m H=>(vI m H).ok 226 (.gen (cJ oV)) (by rfl)
theorem yl6:CK Lb46 Bs22:=aH yl5 fun m H=>(vI m H).ok 190 (.pure xD) (by rfl)
theorem yl7:CK Lb46 zb0:=aH yl6 fun m H=>(vI m H).ok 189 (.gen (CU 226 190)) (by rfl)
theorem zj0(m:GvP)(H:Lb46 m):GamOK Tryz.prog (gv1 m) B46a:=yl7 m H
theorem yf7(m:GvP)(H:Lb46 m):GamOK Tryz.prog (gv1 m) (B46 m):=uA (zj0 m H) (by kernel_rfl) (yv6 (pH (by kernel_rfl) (zj0 m H) 12))
theorem BI(m:GvP):Lb46 m where
 split:=xq1 (g:=0) (ty:=9) rfl (fun s k w b d a=>Tryz.strings_Split s k m.m w b d a)
 itoa:=yU8 (g:=1) (by kernel_rfl) rfl (fun n l a w o=>Tryz.strconv_Itoa n l a w o)
 hp:=yQ5 (fun s t w=>Tryz.stringslite_HasPrefix s t w)
 clone:=yo9 (fun s w b=>Tryz.stringslite_Clone s w b)
 contains:=ys2 (g:=0) rfl (fun s t w b d=>Tryz.strings_Contains s t m.m w b d)
 count:=ys9 (fun s c w=>Tryz.strings_Count_one s c w)
 cut:=yt3 (g:=0) rfl (fun s k w b d=>Tryz.strings_Cut s k m.m w b d)
 atoi:=yf0 (g4:=6) (g5:=7) (e5:=5) rfl rfl (fun s h v f w=>Tryz.strconv_Atoi_ok s h v f w) (fun s h f g w i j=>(Tryz.strconv_Atoi_syntax s h f g w i j).mono fun e p⟨N,a,_,_,h4⟩=>⟨⟨N,a⟩,h4⟩) (fun s h f g w i j=>(Tryz.strconv_Atoi_range s h f g w i j).mono fun e p⟨N,a,_,_,h4⟩=>⟨⟨N,a⟩,h4⟩)
 cmp:=yr6 (fun s t w=>Tryz.strings_Compare s t w)
end
end Go.Proofs.YtdebajodkallbaaGreatDoor
