/- The contracts that awake of law 19 is run over,proved. The laws OriginSets and OriginUnions. -/
import Derived.Test.YtbfcbkjemlgnpaaGreatDoorOR
import Derived.Test.YtbfcbkjemlgnpaaGreatDoorOM
import Derived.Test.YtbfcbkjemlgnpaaGreatDoorOL
import Derived.Test.YtbfcbkjemlgnpaaGreatDoorOP
import Derived.Test.YtbfcbkjemlgnpaaGreatDoorRmI
import Derived.Test.YtbfcbkjemlgnpaaGreatDoorShelf
namespace Go.Proofs.YtbfcbkjemlgnpaaGreatDoor
open Go.RowKit
theorem bs0_ok(m:GvP)(_H:Lib19 m):GamOK Tryz.prog (gv1 m) Bs0:=gam_none _
theorem bs1_ok(m:GvP)(H:Lib19 m):GamOK Tryz.prog (gv1 m) Bs1:=gam_add (bs0_ok m H) (by kernel_rfl) (H.split)
theorem bs2_ok(m:GvP)(H:Lib19 m):GamOK Tryz.prog (gv1 m) Bs2:=gam_add (bs1_ok m H) (by kernel_rfl) ((gs32_ok m H).ok 225 (.pure F_HasPrefix) (by rfl))
theorem bs3_ok(m:GvP)(H:Lib19 m):GamOK Tryz.prog (gv1 m) Bs3:=gam_add (bs2_ok m H) (by kernel_rfl) (H.contains)
theorem bs4_ok(m:GvP)(H:Lib19 m):GamOK Tryz.prog (gv1 m) Bs4:=gam_add (bs3_ok m H) (by kernel_rfl) (H.count)
theorem bs5_ok(m:GvP)(H:Lib19 m):GamOK Tryz.prog (gv1 m) Bs5:=gam_add (bs4_ok m H) (by kernel_rfl) (H.cut)
theorem bs6_ok(m:GvP)(H:Lib19 m):GamOK Tryz.prog (gv1 m) Bs6:=gam_add (bs5_ok m H) (by kernel_rfl) (H.itoa)
theorem bs7_ok(m:GvP)(H:Lib19 m):GamOK Tryz.prog (gv1 m) Bs7:=gam_add (bs6_ok m H) (by kernel_rfl) (H.atoi)
theorem bs8_ok(m:GvP)(H:Lib19 m):GamOK Tryz.prog (gv1 m) Bs8:=gam_add (bs7_ok m H) (by kernel_rfl) (joinS_ok (gv1 m))
theorem bs9_ok(m:GvP)(H:Lib19 m):GamOK Tryz.prog (gv1 m) Bs9:=gam_add (bs8_ok m H) (by kernel_rfl) (cloneG_155 (gv1 m))
theorem bs10_ok(m:GvP)(H:Lib19 m):GamOK Tryz.prog (gv1 m) Bs10:=gam_add (bs9_ok m H) (by kernel_rfl) (cloneG_157 (gv1 m))
theorem bs11_ok(m:GvP)(H:Lib19 m):GamOK Tryz.prog (gv1 m) Bs11:=gam_add (bs10_ok m H) (by kernel_rfl) (cloneG_145 (gv1 m))
theorem bs12_ok(m:GvP)(H:Lib19 m):GamOK Tryz.prog (gv1 m) Bs12:=gam_add (bs11_ok m H) (by kernel_rfl) (growG_237 (gv1 m))
theorem bs13_ok(m:GvP)(H:Lib19 m):GamOK Tryz.prog (gv1 m) Bs13:=gam_add (bs12_ok m H) (by kernel_rfl) (growG_178 (gv1 m))
theorem bs14_ok(m:GvP)(H:Lib19 m):GamOK Tryz.prog (gv1 m) Bs14:=gam_add (bs13_ok m H) (by kernel_rfl) ((gs32_ok m H).ok 260 (.pure F_IndexS) (by rfl))
theorem bs15_ok(m:GvP)(H:Lib19 m):GamOK Tryz.prog (gv1 m) Bs15:=gam_add (bs14_ok m H) (by kernel_rfl) ((gs32_ok m H).ok 166 (.pure F_ContainsS) (by rfl))
theorem bs16_ok(m:GvP)(H:Lib19 m):GamOK Tryz.prog (gv1 m) Bs16:=gam_add (bs15_ok m H) (by kernel_rfl) ((gs32_ok m H).ok 226 (.gen (lookF F_vis)) (by rfl))
theorem bs17_ok(m:GvP)(H:Lib19 m):GamOK Tryz.prog (gv1 m) Bs17:=gam_add (bs16_ok m H) (by kernel_rfl) ((gs32_ok m H).ok 153 (.gen (F_all 226 154)) (by rfl))
theorem bs18_ok(m:GvP)(H:Lib19 m):GamOK Tryz.prog (gv1 m) Bs18:=gam_add (bs17_ok m H) (by kernel_rfl) ((gs32_ok m H).ok 52 (.gen F_sortFl) (by rfl))
theorem bs19_ok(m:GvP)(H:Lib19 m):GamOK Tryz.prog (gv1 m) Bs19:=gam_add (bs18_ok m H) (by kernel_rfl) ((gs32_ok m H).ok 204 (.gen (F_SortSp 205)) (by rfl))
theorem bs20_ok(m:GvP)(H:Lib19 m):GamOK Tryz.prog (gv1 m) Bs20:=gam_add (bs19_ok m H) (by kernel_rfl) (K19Sum_ok ((gs32_ok m H).ok 235 (.pure F_dSum) (by rfl)))
theorem b19_ok(m:GvP)(H:Lib19 m):GamOK Tryz.prog (gv1 m) (B19 m):=gam_add (bs20_ok m H) (by kernel_rfl) (gen_of (by kernel_rfl) (genS_ok (by kernel_rfl) (bs20_ok m H) 40) Tryz.func24 rfl (ks:=Ks.q41) (rs:=Rs.q41) (by kernel_rfl) (by kernel_rfl) (Ok.q41 m) (flows_ok rfl))
end Go.Proofs.YtbfcbkjemlgnpaaGreatDoor
namespace Go.Proofs.YtbfcbkjemlgnpaaGreatDoor
open Go.RowKit
theorem lib19(m:GvP):Lib19 m where
 split:=split_pure (g:=0) (ty:=9) rfl (fun s sep w hs hm h1=>Tryz.strings_Split s sep m.m w hs hm h1)
 itoa:=itoa_pure (g:=5) (by kernel_rfl) rfl (fun n h0 h1 w ht=>Tryz.strconv_Itoa n h0 h1 w ht)
 hp:=hasPrefix_pure (fun s t w=>Tryz.stringslite_HasPrefix s t w)
 clone:=cloneS_pure (fun s w hs=>Tryz.stringslite_Clone s w hs)
 contains:=contains_pure (g:=0) rfl (fun s t w hs hm=>Tryz.strings_Contains s t m.m w hs hm)
 count:=count1_pure (fun s c w=>Tryz.strings_Count_one s c w)
 cut:=cut_pure (g:=0) rfl (fun s sep w hs hm=>Tryz.strings_Cut s sep m.m w hs hm)
 atoi:=atoi_pure (g4:=1) (g5:=2) (e5:=5) rfl rfl (fun s h v hv w=>Tryz.strconv_Atoi_ok s h v hv w) (fun s h hv ev w hc he=>(Tryz.strconv_Atoi_syntax s h hv ev w hc he).mono fun e w' ⟨N,h1,_,_,h4⟩=>⟨⟨N,h1⟩,h4⟩) (fun s h hv ev w hc he=>(Tryz.strconv_Atoi_range s h hv ev w hc he).mono fun e w' ⟨N,h1,_,_,h4⟩=>⟨⟨N,h1⟩,h4⟩)
 cmp:=compare_pure (fun s t w=>Tryz.strings_Compare s t w)
 blen:=bitLen_pure (fun x w h0 h1=>Tryz.bits_Len x w h0 h1)
 sorti:=sortI_gen (fun blk off cap ss w h1 h2 h3=>Tryz.slices_Sort_int blk off cap ss w h1 h2 h3) (fun p cap w=>Tryz.slices_Sort_int_none p cap w)
theorem awake19(m:GvP):PureOK Tryz.prog (gv1 m) Fn.q70 F_awake:=awake_pure (fun m=>b19_ok m (lib19 m)) m
theorem sets_pure(m:GvP):PureOK Tryz.prog (gv1 m) Fn.q49 F_sets:=(gs90_ok m (lib19 m) (awake19 m)).ok Fn.q49 (.pure F_sets) (by rfl)
theorem unions_pure(m:GvP):PureOK Tryz.prog (gv1 m) Fn.q37 F_unions:=(gs90_ok m (lib19 m) (awake19 m)).ok Fn.q37 (.pure F_unions) (by rfl)
end Go.Proofs.YtbfcbkjemlgnpaaGreatDoor
