/- The contracts that awake of law 46 is run over,proved from the library's. The library's contracts at this program. -/
import Derived.Test.YtopiadllkglamaaGreatDoorZKa1
import Derived.Test.YtopiadllkglamaaGreatDoorZRmL
import Derived.Test.YtopiadllkglamaaGreatDoorZRmM
import Derived.Test.YtopiadllkglamaaGreatDoorZRmN
import Derived.Test.YtopiadllkglamaaGreatDoorZShelf
namespace Go.Proofs.YtopiadllkglamaaGreatDoor
open Go.RowKit
structure Lb46 (m : GvP) : Prop where
 split : PureOK Tryz.prog (gv1 m) Fn.q67 F_Split
 itoa : PureOK Tryz.prog (gv1 m) Fn.q72 F_Itoa
 hp : PureOK Tryz.prog (gv1 m) Fn.q20 F_HasPrefix
 clone : PureOK Tryz.prog (gv1 m) Fn.q23 F_CloneS
 contains : PureOK Tryz.prog (gv1 m) Fn.q49 F_Contains
 count : PureOK Tryz.prog (gv1 m) Fn.q68 F_Count1
 cut : PureOK Tryz.prog (gv1 m) Fn.strings_Cut F_Cut
 atoi : PureOK Tryz.prog (gv1 m) Fn.q74 (F_Atoi 181)
 cmp : PureOK Tryz.prog (gv1 m) Fn.q56 F_Compare
noncomputable def Bc0 : Gam := Gam.none
theorem bc0_ok (m : GvP) (_H : Lb46 m) : GamOK Tryz.prog (gv1 m) Bc0 := gam_none _
noncomputable def Bc1 : Gam := Bc0.add Fn.q20 (.pure (F_HasPrefix))
theorem bc1_ok (m : GvP) (H : Lb46 m) : GamOK Tryz.prog (gv1 m) Bc1 := gam_add (bc0_ok m H) (by kernel_rfl) (H.hp)
noncomputable def Bc2 : Gam := Bc1.add Fn.q23 (.pure (F_CloneS))
theorem bc2_ok (m : GvP) (H : Lb46 m) : GamOK Tryz.prog (gv1 m) Bc2 := gam_add (bc1_ok m H) (by kernel_rfl) (H.clone)
noncomputable def Bc3 : Gam := Bc2.add Fn.q40 (.pure (F_HasPrefix))
theorem bc3_ok (m : GvP) (H : Lb46 m) : GamOK Tryz.prog (gv1 m) Bc3 := gam_add (bc2_ok m H) (by kernel_rfl) (Pure.q40 (bc2_ok m H) (HasPrefix_ok rfl))
noncomputable def Bc4 : Gam := Bc3.add Fn.q70 (.pure (F_CloneS))
theorem bc4_ok (m : GvP) (H : Lb46 m) : GamOK Tryz.prog (gv1 m) Bc4 := gam_add (bc3_ok m H) (by kernel_rfl) (Pure.q70 (bc3_ok m H) (CloneS_ok rfl))
noncomputable def Bc5 : Gam := Bc4.add Fn.q33 (.pure (F_rot))
theorem bc5_ok (m : GvP) (H : Lb46 m) : GamOK Tryz.prog (gv1 m) Bc5 := gam_add (bc4_ok m H) (by kernel_rfl) (Pure.q33 (bc4_ok m H) (rot_ok _))
noncomputable def Bc6 : Gam := Bc5.add Fn.q77 (.pure (F_round))
theorem bc6_ok (m : GvP) (H : Lb46 m) : GamOK Tryz.prog (gv1 m) Bc6 := gam_add (bc5_ok m H) (by kernel_rfl) (Pure.q77 (bc5_ok m H) (round_ok _ rfl))
noncomputable def Bc7 : Gam := Bc6.add Fn.q63 (.pure (F_offsets))
theorem bc7_ok (m : GvP) (H : Lb46 m) : GamOK Tryz.prog (gv1 m) Bc7 := gam_add (bc6_ok m H) (by kernel_rfl) (Pure.q63 (bc6_ok m H) (offsets_ok _))
noncomputable def Bc8 : Gam := Bc7.add Fn.q50 (.pure (F_constants))
theorem bc8_ok (m : GvP) (H : Lb46 m) : GamOK Tryz.prog (gv1 m) Bc8 := gam_add (bc7_ok m H) (by kernel_rfl) (Pure.q50 (bc7_ok m H) (constants_ok _))
noncomputable def Bc9 : Gam := Bc8.add Fn.q62 (.pure (F_Permute))
theorem bc9_ok (m : GvP) (H : Lb46 m) : GamOK Tryz.prog (gv1 m) Bc9 := gam_add (bc8_ok m H) (by kernel_rfl) (Pure.q62 (bc8_ok m H) (Permute_ok _ rfl rfl rfl))
noncomputable def Bc10 : Gam := Bc9.add Fn.q27 (.gen (F_absorb))
theorem bc10_ok (m : GvP) (H : Lb46 m) : GamOK Tryz.prog (gv1 m) Bc10 := gam_add (bc9_ok m H) (by kernel_rfl) (Gen.q27 (bc9_ok m H) (absorb_ok _ rfl))
noncomputable def Bc11 : Gam := Bc10.add Fn.q30 (.gen (F_Clone))
theorem bc11_ok (m : GvP) (H : Lb46 m) : GamOK Tryz.prog (gv1 m) Bc11 := gam_add (bc10_ok m H) (by kernel_rfl) (Gen.q30 (bc10_ok m H) (Clone_ok _))
noncomputable def Bc12 : Gam := Bc11.add Fn.digest_New (.gen (F_New))
theorem bc12_ok (m : GvP) (H : Lb46 m) : GamOK Tryz.prog (gv1 m) Bc12 := gam_add (bc11_ok m H) (by kernel_rfl) (Gen.digest_New (bc11_ok m H) (New_ok _))
noncomputable def Bc13 : Gam := Bc12.add Fn.q29 (.gen (F_Write))
theorem bc13_ok (m : GvP) (H : Lb46 m) : GamOK Tryz.prog (gv1 m) Bc13 := gam_add (bc12_ok m H) (by kernel_rfl) (Gen.q29 (bc12_ok m H) (Write_ok _ rfl))
noncomputable def Bc14 : Gam := Bc13.add Fn.q35 (.gen (F_SumM))
theorem bc14_ok (m : GvP) (H : Lb46 m) : GamOK Tryz.prog (gv1 m) Bc14 := gam_add (bc13_ok m H) (by kernel_rfl) (Gen.q35 (bc13_ok m H) (Sum_ok _ rfl rfl))
noncomputable def Bc15 : Gam := Bc14.add Fn.digest_Sum (.pure (F_dSum))
theorem bc15_ok (m : GvP) (H : Lb46 m) : GamOK Tryz.prog (gv1 m) Bc15 := gam_add (bc14_ok m H) (by kernel_rfl) (Pure.digest_Sum (bc14_ok m H) (dSum_ok _ rfl rfl rfl))
noncomputable def Bc16 : Gam := Bc15.add Fn.q21 (.pure (F_IndexS))
theorem bc16_ok (m : GvP) (H : Lb46 m) : GamOK Tryz.prog (gv1 m) Bc16 := gam_add (bc15_ok m H) (by kernel_rfl) (Pure.q21 (bc15_ok m H) (indexS_ok _))
noncomputable def Bc17 : Gam := Bc16.add Fn.q18 (.pure (F_ContainsS))
theorem bc17_ok (m : GvP) (H : Lb46 m) : GamOK Tryz.prog (gv1 m) Bc17 := gam_add (bc16_ok m H) (by kernel_rfl) (Pure.q18 (bc16_ok m H) (containsS_ok _ rfl))
noncomputable def Bc18 : Gam := Bc17.add Fn.q16 (.gen ((F_SortPD [194,22])))
theorem bc18_ok (m : GvP) (H : Lb46 m) : GamOK Tryz.prog (gv1 m) Bc18 := gam_add (bc17_ok m H) (by kernel_rfl) (sortF_ok (gv1 m))
noncomputable def Bc19 : Gam := Bc18.add Fn.q25 (.gen (lookF F_vis))
theorem bc19_ok (m : GvP) (H : Lb46 m) : GamOK Tryz.prog (gv1 m) Bc19 := gam_add (bc18_ok m H) (by kernel_rfl) (LookB.q25 (bc18_ok m H) (vis_ok rfl rfl))
noncomputable def Bc20 : Gam := Bc19.add Fn.q24 (.pure (F_yes))
theorem bc20_ok (m : GvP) (H : Lb46 m) : GamOK Tryz.prog (gv1 m) Bc20 := gam_add (bc19_ok m H) (by kernel_rfl) (PureB.q24 (bc19_ok m H) yes_ok)
noncomputable def Bc21 : Gam := Bc20.add Fn.q36 (.gen ((F_all 183 158)))
theorem bc21_ok (m : GvP) (H : Lb46 m) : GamOK Tryz.prog (gv1 m) Bc21 := gam_add (bc20_ok m H) (by kernel_rfl) (GenZ.q36 (bc20_ok m H) (all_ok _ rfl rfl rfl rfl))
theorem bs0_ok (m : GvP) (_H : Lb46 m) : GamOK Tryz.prog (gv1 m) Bs0 := gam_none _
theorem bs1_ok (m : GvP) (H : Lb46 m) : GamOK Tryz.prog (gv1 m) Bs1 := gam_add (bs0_ok m H) (by kernel_rfl) (H.split)
theorem bs2_ok (m : GvP) (H : Lb46 m) : GamOK Tryz.prog (gv1 m) Bs2 := gam_add (bs1_ok m H) (by kernel_rfl) ((bc21_ok m H).ok 101 (.pure F_HasPrefix) (by rfl))
theorem bs3_ok (m : GvP) (H : Lb46 m) : GamOK Tryz.prog (gv1 m) Bs3 := gam_add (bs2_ok m H) (by kernel_rfl) (H.contains)
theorem bs4_ok (m : GvP) (H : Lb46 m) : GamOK Tryz.prog (gv1 m) Bs4 := gam_add (bs3_ok m H) (by kernel_rfl) (H.count)
theorem bs5_ok (m : GvP) (H : Lb46 m) : GamOK Tryz.prog (gv1 m) Bs5 := gam_add (bs4_ok m H) (by kernel_rfl) (H.cut)
theorem bs6_ok (m : GvP) (H : Lb46 m) : GamOK Tryz.prog (gv1 m) Bs6 := gam_add (bs5_ok m H) (by kernel_rfl) (H.itoa)
theorem bs7_ok (m : GvP) (H : Lb46 m) : GamOK Tryz.prog (gv1 m) Bs7 := gam_add (bs6_ok m H) (by kernel_rfl) (H.atoi)
theorem bs8_ok (m : GvP) (H : Lb46 m) : GamOK Tryz.prog (gv1 m) Bs8 := gam_add (bs7_ok m H) (by kernel_rfl) (H.cmp)
theorem bs9_ok (m : GvP) (H : Lb46 m) : GamOK Tryz.prog (gv1 m) Bs9 := gam_add (bs8_ok m H) (by kernel_rfl) ((bc21_ok m H).ok 329 (.pure F_CloneS) (by rfl))
theorem bs10_ok (m : GvP) (H : Lb46 m) : GamOK Tryz.prog (gv1 m) Bs10 := gam_add (bs9_ok m H) (by kernel_rfl) (copyC_141 (gv1 m))
theorem bs11_ok (m : GvP) (H : Lb46 m) : GamOK Tryz.prog (gv1 m) Bs11 := gam_add (bs10_ok m H) (by kernel_rfl) ((bc21_ok m H).ok 73 (.pure F_dSum) (by rfl))
theorem bs12_ok (m : GvP) (H : Lb46 m) : GamOK Tryz.prog (gv1 m) Bs12 := gam_add (bs11_ok m H) (by kernel_rfl) (cloneG_509 (gv1 m))
theorem bs13_ok (m : GvP) (H : Lb46 m) : GamOK Tryz.prog (gv1 m) Bs13 := gam_add (bs12_ok m H) (by kernel_rfl) (cloneG_85 (gv1 m))
theorem bs14_ok (m : GvP) (H : Lb46 m) : GamOK Tryz.prog (gv1 m) Bs14 := gam_add (bs13_ok m H) (by kernel_rfl) (cloneG_83 (gv1 m))
theorem bs15_ok (m : GvP) (H : Lb46 m) : GamOK Tryz.prog (gv1 m) Bs15 := gam_add (bs14_ok m H) (by kernel_rfl) (cloneG_161 (gv1 m))
theorem bs16_ok (m : GvP) (H : Lb46 m) : GamOK Tryz.prog (gv1 m) Bs16 := gam_add (bs15_ok m H) (by kernel_rfl) (cloneG_159 (gv1 m))
theorem bs17_ok (m : GvP) (H : Lb46 m) : GamOK Tryz.prog (gv1 m) Bs17 := gam_add (bs16_ok m H) (by kernel_rfl) (growG_193 (gv1 m))
theorem bs18_ok (m : GvP) (H : Lb46 m) : GamOK Tryz.prog (gv1 m) Bs18 := gam_add (bs17_ok m H) (by kernel_rfl) ((bc21_ok m H).ok 104 (.pure F_IndexS) (by rfl))
theorem bs19_ok (m : GvP) (H : Lb46 m) : GamOK Tryz.prog (gv1 m) Bs19 := gam_add (bs18_ok m H) (by kernel_rfl) ((bc21_ok m H).ok 60 (.pure F_ContainsS) (by rfl))
theorem bs20_ok (m : GvP) (H : Lb46 m) : GamOK Tryz.prog (gv1 m) Bs20 := gam_add (bs19_ok m H) (by kernel_rfl) ((bc21_ok m H).ok 21 (.gen (F_SortPD [194,22])) (by rfl))
theorem bs21_ok (m : GvP) (H : Lb46 m) : GamOK Tryz.prog (gv1 m) Bs21 := gam_add (bs20_ok m H) (by kernel_rfl) ((bc21_ok m H).ok 183 (.gen (lookF F_vis)) (by rfl))
theorem bs22_ok (m : GvP) (H : Lb46 m) : GamOK Tryz.prog (gv1 m) Bs22 := gam_add (bs21_ok m H) (by kernel_rfl) ((bc21_ok m H).ok 158 (.pure F_yes) (by rfl))
theorem bs23_ok (m : GvP) (H : Lb46 m) : GamOK Tryz.prog (gv1 m) Bs23 := gam_add (bs22_ok m H) (by kernel_rfl) ((bc21_ok m H).ok 157 (.gen (F_all 183 158)) (by rfl))
theorem b46a_ok (m : GvP) (H : Lb46 m) : GamOK Tryz.prog (gv1 m) B46a := bs23_ok m H
theorem b46_ok (m : GvP) (H : Lb46 m) : GamOK Tryz.prog (gv1 m) (B46 m) := gam_add (b46a_ok m H) (by kernel_rfl) (delF_ok (genS_ok (by kernel_rfl) (b46a_ok m H) 12))
end Go.Proofs.YtopiadllkglamaaGreatDoor
namespace Go.Proofs.YtopiadllkglamaaGreatDoor
open Go.RowKit
theorem lb46 (m : GvP) : Lb46 m where
 split := split_pure (g := 0) (ty := 9) rfl (fun s sep w hs hm h1 => Tryz.strings_Split s sep m.m w hs hm h1)
 itoa := itoa_pure (g := 1) (by kernel_rfl) rfl (fun n h0 h1 w ht => Tryz.strconv_Itoa n h0 h1 w ht)
 hp := hasPrefix_pure (fun s t w => Tryz.stringslite_HasPrefix s t w)
 clone := cloneS_pure (fun s w hs => Tryz.stringslite_Clone s w hs)
 contains := contains_pure (g := 0) rfl (fun s t w hs hm => Tryz.strings_Contains s t m.m w hs hm)
 count := count1_pure (fun s c w => Tryz.strings_Count_one s c w)
 cut := cut_pure (g := 0) rfl (fun s sep w hs hm => Tryz.strings_Cut s sep m.m w hs hm)
 atoi := atoi_pure (g4 := 2) (g5 := 3) (e5 := 5) rfl rfl (fun s h v hv w => Tryz.strconv_Atoi_ok s h v hv w) (fun s h hv ev w hc he => (Tryz.strconv_Atoi_syntax s h hv ev w hc he).mono fun e w' ⟨N,h1,_,_,h4⟩ => ⟨⟨N,h1⟩,h4⟩) (fun s h hv ev w hc he => (Tryz.strconv_Atoi_range s h hv ev w hc he).mono fun e w' ⟨N,h1,_,_,h4⟩ => ⟨⟨N,h1⟩,h4⟩)
 cmp := compare_pure (fun s t w => Tryz.strings_Compare s t w)
end Go.Proofs.YtopiadllkglamaaGreatDoor
