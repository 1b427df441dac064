/- The contracts that awake of law 38 is run over,proved. The law ComponentRelates. -/
import Derived.Test.YtpefhfiehfkocaaGreatDoorOR
import Derived.Test.YtpefhfiehfkocaaGreatDoorOM
import Derived.Test.YtpefhfiehfkocaaGreatDoorOL
import Derived.Test.YtpefhfiehfkocaaGreatDoorOQ
import Derived.Test.YtpefhfiehfkocaaGreatDoorRmI
import Derived.Test.YtpefhfiehfkocaaGreatDoorShelf
namespace Go.Proofs.YtpefhfiehfkocaaGreatDoor
open Go.RowKit
theorem bs0_ok(m:GvP)(_H:Lib38 m):GamOK Tryz.prog (gv1 m) Bs0:=gam_none _
theorem bs1_ok(m:GvP)(H:Lib38 m):GamOK Tryz.prog (gv1 m) Bs1:=gam_add (bs0_ok m H) (by kernel_rfl) (H.split)
theorem bs2_ok(m:GvP)(H:Lib38 m):GamOK Tryz.prog (gv1 m) Bs2:=gam_add (bs1_ok m H) (by kernel_rfl) ((gs53_ok m H).ok 111 (.pure F_HasPrefix) (by rfl))
theorem bs3_ok(m:GvP)(H:Lib38 m):GamOK Tryz.prog (gv1 m) Bs3:=gam_add (bs2_ok m H) (by kernel_rfl) (H.contains)
theorem bs4_ok(m:GvP)(H:Lib38 m):GamOK Tryz.prog (gv1 m) Bs4:=gam_add (bs3_ok m H) (by kernel_rfl) (H.count)
theorem bs5_ok(m:GvP)(H:Lib38 m):GamOK Tryz.prog (gv1 m) Bs5:=gam_add (bs4_ok m H) (by kernel_rfl) (cloneG_36 (gv1 m))
theorem bs6_ok(m:GvP)(H:Lib38 m):GamOK Tryz.prog (gv1 m) Bs6:=gam_add (bs5_ok m H) (by kernel_rfl) (cloneG_66 (gv1 m))
theorem bs7_ok(m:GvP)(H:Lib38 m):GamOK Tryz.prog (gv1 m) Bs7:=gam_add (bs6_ok m H) (by kernel_rfl) (cloneG_76 (gv1 m))
theorem bs8_ok(m:GvP)(H:Lib38 m):GamOK Tryz.prog (gv1 m) Bs8:=gam_add (bs7_ok m H) (by kernel_rfl) (cloneG_201 (gv1 m))
theorem bs9_ok(m:GvP)(H:Lib38 m):GamOK Tryz.prog (gv1 m) Bs9:=gam_add (bs8_ok m H) (by kernel_rfl) (cloneG_64 (gv1 m))
theorem bs10_ok(m:GvP)(H:Lib38 m):GamOK Tryz.prog (gv1 m) Bs10:=gam_add (bs9_ok m H) (by kernel_rfl) (growG_123 (gv1 m))
theorem bs11_ok(m:GvP)(H:Lib38 m):GamOK Tryz.prog (gv1 m) Bs11:=gam_add (bs10_ok m H) (by kernel_rfl) ((gs53_ok m H).ok 77 (.pure F_IndexS) (by rfl))
theorem bs12_ok(m:GvP)(H:Lib38 m):GamOK Tryz.prog (gv1 m) Bs12:=gam_add (bs11_ok m H) (by kernel_rfl) ((gs53_ok m H).ok 42 (.pure F_ContainsS) (by rfl))
theorem bs13_ok(m:GvP)(H:Lib38 m):GamOK Tryz.prog (gv1 m) Bs13:=gam_add (bs12_ok m H) (by kernel_rfl) ((gs53_ok m H).ok 112 (.gen (lookF F_vis)) (by rfl))
theorem bs14_ok(m:GvP)(H:Lib38 m):GamOK Tryz.prog (gv1 m) Bs14:=gam_add (bs13_ok m H) (by kernel_rfl) ((gs53_ok m H).ok 74 (.gen (F_all 112 75)) (by rfl))
theorem bs15_ok(m:GvP)(H:Lib38 m):GamOK Tryz.prog (gv1 m) Bs15:=gam_add (bs14_ok m H) (by kernel_rfl) ((gs53_ok m H).ok 208 (.gen F_sortFl) (by rfl))
theorem bs16_ok(m:GvP)(H:Lib38 m):GamOK Tryz.prog (gv1 m) Bs16:=gam_add (bs15_ok m H) (by kernel_rfl) ((gs53_ok m H).ok 314 (.gen (F_SortSp 315)) (by rfl))
theorem bs17_ok(m:GvP)(H:Lib38 m):GamOK Tryz.prog (gv1 m) Bs17:=gam_add (bs16_ok m H) (by kernel_rfl) ((gs53_ok m H).ok 85 (.pure F_oUn) (by rfl))
theorem bs18_ok(m:GvP)(H:Lib38 m):GamOK Tryz.prog (gv1 m) Bs18:=gam_add (bs17_ok m H) (by kernel_rfl) ((gs53_ok m H).ok 129 (.pure F_oThr) (by rfl))
theorem bs19_ok(m:GvP)(H:Lib38 m):GamOK Tryz.prog (gv1 m) Bs19:=gam_add (bs18_ok m H) (by kernel_rfl) (it_of (by kernel_rfl) (bs18_ok m H) Tryz.func55 rfl (ks:=Ks.q50) (by kernel_rfl) (by kernel_rfl) (Ok.q50 m) (src_ok _))
theorem bs20_ok(m:GvP)(H:Lib38 m):GamOK Tryz.prog (gv1 m) Bs20:=gam_add (bs19_ok m H) (by kernel_rfl) (it_of (by kernel_rfl) (bs19_ok m H) Tryz.func63 rfl (ks:=Ks.q13) (by kernel_rfl) (by kernel_rfl) (Ok.q13 m) (keys_ok _))
theorem bs21_ok(m:GvP)(H:Lib38 m):GamOK Tryz.prog (gv1 m) Bs21:=gam_add (bs20_ok m H) (by kernel_rfl) (K38Sum_ok ((gs53_ok m H).ok 121 (.pure F_dSum) (by rfl)))
theorem b38_ok(m:GvP)(H:Lib38 m):GamOK Tryz.prog (gv1 m) (B38 m):=bs21_ok m H
end Go.Proofs.YtpefhfiehfkocaaGreatDoor
namespace Go.Proofs.YtpefhfiehfkocaaGreatDoor
open Go.RowKit
theorem lib38(m:GvP):Lib38 m where
 split:=split_pure (g:=0) (ty:=9) rfl (fun s sep w hs hm h1=>Tryz.strings_Split s sep m.m w hs hm h1)
 hp:=hasPrefix_pure (fun s t w=>Tryz.stringslite_HasPrefix s t w)
 clone:=cloneS_pure (fun s w hs=>Tryz.stringslite_Clone s w hs)
 contains:=contains_pure (g:=0) rfl (fun s t w hs hm=>Tryz.strings_Contains s t m.m w hs hm)
 count:=count1_pure (fun s c w=>Tryz.strings_Count_one s c w)
 cmp:=compare_pure (fun s t w=>Tryz.strings_Compare s t w)
 blen:=bitLen_pure (fun x w h0 h1=>Tryz.bits_Len x w h0 h1)
theorem awake38(m:GvP):PureOK Tryz.prog (gv1 m) Fn.q60 F_awake:=awake_pure (fun m=>b38_ok m (lib38 m)) m
theorem relates_pure(m:GvP):PureOK Tryz.prog (gv1 m) Fn.q35 F_relates:=(gs68_ok m (lib38 m) (awake38 m)).ok Fn.q35 (.pure F_relates) (by rfl)
end Go.Proofs.YtpefhfiehfkocaaGreatDoor
