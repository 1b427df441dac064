/- The contracts that awake of law 38 is -/
import Derived.Test.YtpefhfiehfkocaaGreatDoorOR
import Derived.Test.YtpefhfiehfkocaaGreatDoorOQ
namespace Go.Proofs.YtpefhfiehfkocaaGreatDoor
open Go.RowKit
theorem yr9(m:GvP)(_H:Lib38 m):GamOK Tryz.prog (gv1 m) Bs0:=zy6 _
theorem ys8:CK Lib38 Bs1:=aH yr9 fun m H=>H.split
theorem yt1:CK Lib38 Bs2:=aH ys8 fun m H=>(pX m H).ok 111 (.pure qR) (by rfl)
theorem yt2:CK Lib38 Bs3:=aH yt1 fun m H=>H.contains
theorem yt3:CK Lib38 Bs4:=aH yt2 fun m H=>H.count
theorem yt4:CK Lib38 Bs5:=aH yt3 fun m H=>yv6 (gv1 m)
theorem yt5:CK Lib38 Bs6:=aH yt4 fun m H=>yv8 (gv1 m)
theorem yt6:CK Lib38 Bs7:=aH yt5 fun m H=>yv9 (gv1 m)
theorem yt7:CK Lib38 Bs8:=aH yt6 fun m H=>yv5 (gv1 m)
theorem yt8:CK Lib38 Bs9:=aH yt7 fun m H=>yv7 (gv1 m)
theorem ys0:CK Lib38 Bs10:=aH yt8 fun m H=>yL8 (gv1 m)
theorem ys1:CK Lib38 Bs11:=aH ys0 fun m H=>(pX m H).ok 77 (.pure yG) (by rfl)
theorem ys2:CK Lib38 Bs12:=aH ys1 fun m H=>(pX m H).ok 42 (.pure uA) (by rfl)
theorem ys3:CK Lib38 Bs13:=aH ys2 fun m H=>(pX m H).ok 112 (.gen (bO oD)) (by rfl)
theorem ys4:CK Lib38 Bs14:=aH ys3 fun m H=>(pX m H).ok 74 (.gen (CC 112 75)) (by rfl)
theorem ys5:CK Lib38 Bs15:=aH ys4 fun m H=>(pX m H).ok 208 (.gen HU) (by rfl)
theorem ys6:CK Lib38 Bs16:=aH ys5 fun m H=>(pX m H).ok 314 (.gen (wA 315)) (by rfl)
theorem ys7:CK Lib38 Bs17:=aH ys6 fun m H=>(pX m H).ok 85 (.pure oA) (by rfl)
theorem zp9:CK Lib38 Bs18:=aH ys7 fun m H=>(pX m H).ok 129 (.pure pD) (by rfl)
theorem zq0:CK Lib38 Bs19:=aH zp9 fun m H=>zI7 (by kernel_rfl) (zp9 m H) Tryz.func55 rfl (ks:=Ks.ch) (by kernel_rfl) (by kernel_rfl) (Ok.ch m) (src_ok _)
theorem ys9:CK Lib38 Bs20:=aH zq0 fun m H=>zI7 (by kernel_rfl) (zq0 m H) Tryz.func63 rfl (ks:=Ks.cq) (by kernel_rfl) (by kernel_rfl) (Ok.cq m) (yW3 _)
theorem yt0:CK Lib38 zh5:=aH ys9 fun m H=>ym1 ((pX m H).ok 121 (.pure qT) (by rfl))
theorem zo8(m:GvP)(H:Lib38 m):GamOK Tryz.prog (gv1 m) (B38 m):=yt0 m H
theorem RH(m:GvP):Lib38 m where
 split:=xv1 (g:=0) (ty:=9) rfl (fun s f w a d b=>Tryz.strings_Split s f m.m w a d b)
 hp:=yS0 (fun s t w=>Tryz.stringslite_HasPrefix s t w)
 clone:=yw0 (fun s w a=>Tryz.stringslite_Clone s w a)
 contains:=yz4 (g:=0) rfl (fun s t w a d=>Tryz.strings_Contains s t m.m w a d)
 count:=yz8 (fun s c w=>Tryz.strings_Count_one s c w)
 cmp:=yy6 (fun s t w=>Tryz.strings_Compare s t w)
 blen:=yq7 (fun x w e b=>Tryz.bits_Len x w e b)
theorem zo7(m:GvP):dP Tryz.prog (gv1 m) Fn.dc wB:=yp5 (fun m=>zo8 m (RH m)) m
end Go.Proofs.YtpefhfiehfkocaaGreatDoor
