/- The chain of contracts up to the law BundleReads,over what the library's functions and awake are known to answer. The law BundleReads. -/
import Derived.Test.YtaadifodgahnjaaGreatDoorZRdB
import Derived.Test.YtaadifodgahnjaaGreatDoorZRecOk
import Derived.Test.YtaadifodgahnjaaGreatDoorZRmI
import Derived.Test.YtaadifodgahnjaaGreatDoorZAwA
namespace Go.Proofs.YtaadifodgahnjaaGreatDoor
open Go.RowKit
structure Lib23 (m : GvP) : Prop where
 split : PureOK Tryz.prog (gv1 m) Fn.q65 F_Split
 itoa : PureOK Tryz.prog (gv1 m) Fn.q70 F_Itoa
 idx : PureOK Tryz.prog (gv1 m) Fn.q40 F_IndexByte
 cut : PureOK Tryz.prog (gv1 m) Fn.strings_Cut F_Cut
 atoi : PureOK Tryz.prog (gv1 m) Fn.q72 (F_Atoi 164)
 awake : PureOK Tryz.prog (gv1 m) Fn.q44 F_awake
noncomputable def Gr0 : Gam := Gam.none
theorem gr0_ok (m : GvP) (_H : Lib23 m) : GamOK Tryz.prog (gv1 m) Gr0 := gam_none _
noncomputable def Gr1 : Gam := Gr0.add Fn.q65 (.pure F_Split)
theorem gr1_ok (m : GvP) (H : Lib23 m) : GamOK Tryz.prog (gv1 m) Gr1 := gam_add (gr0_ok m H) (by kernel_rfl) (H.split)
noncomputable def Gr2 : Gam := Gr1.add Fn.q70 (.pure F_Itoa)
theorem gr2_ok (m : GvP) (H : Lib23 m) : GamOK Tryz.prog (gv1 m) Gr2 := gam_add (gr1_ok m H) (by kernel_rfl) (H.itoa)
noncomputable def Gr3 : Gam := Gr2.add Fn.q40 (.pure F_IndexByte)
theorem gr3_ok (m : GvP) (H : Lib23 m) : GamOK Tryz.prog (gv1 m) Gr3 := gam_add (gr2_ok m H) (by kernel_rfl) (H.idx)
noncomputable def Gr4 : Gam := Gr3.add Fn.strings_Cut (.pure F_Cut)
theorem gr4_ok (m : GvP) (H : Lib23 m) : GamOK Tryz.prog (gv1 m) Gr4 := gam_add (gr3_ok m H) (by kernel_rfl) (H.cut)
noncomputable def Gr5 : Gam := Gr4.add Fn.q72 (.pure (F_Atoi 164))
theorem gr5_ok (m : GvP) (H : Lib23 m) : GamOK Tryz.prog (gv1 m) Gr5 := gam_add (gr4_ok m H) (by kernel_rfl) (H.atoi)
noncomputable def Gr6 : Gam := Gr5.add Fn.tree_part_1 (.pure F_part1)
theorem gr6_ok (m : GvP) (H : Lib23 m) : GamOK Tryz.prog (gv1 m) Gr6 := gam_add (gr5_ok m H) (by kernel_rfl) (Pure.tree_part_1 (gr5_ok m H) (part1_ok _))
noncomputable def Gr7 : Gam := Gr6.add Fn.q43 (.gen (lookF (F_indexFunc Gr6)))
theorem gr7_ok (m : GvP) (H : Lib23 m) : GamOK Tryz.prog (gv1 m) Gr7 := gam_add (gr6_ok m H) (by kernel_rfl) (Look.q43 (gr6_ok m H) (indexFunc_ok _))
noncomputable def Gr8 : Gam := Gr7.add Fn.q42 (.gen (lookF (F_strIndexFunc Gr6)))
theorem gr8_ok (m : GvP) (H : Lib23 m) : GamOK Tryz.prog (gv1 m) Gr8 := gam_add (gr7_ok m H) (by kernel_rfl) (Look.q42 (gr7_ok m H) (strIndexFunc_ok _ _ rfl))
noncomputable def Gr9 : Gam := Gr8.add Fn.q35 (.gen (lookF (F_strContainsFunc Gr6)))
theorem gr9_ok (m : GvP) (H : Lib23 m) : GamOK Tryz.prog (gv1 m) Gr9 := gam_add (gr8_ok m H) (by kernel_rfl) (Look.q35 (gr8_ok m H) (strContainsFunc_ok _ _ rfl))
noncomputable def Gr10 : Gam := Gr9.add Fn.tree_part (.pure F_part)
theorem gr10_ok (m : GvP) (H : Lib23 m) : GamOK Tryz.prog (gv1 m) Gr10 := gam_add (gr9_ok m H) (by kernel_rfl) (Pure.tree_part (gr9_ok m H) (part_ok _ Gr6 rfl rfl))
noncomputable def Gr11 : Gam := Gr10.add Fn.tree_Path_1 (.pure F_Path1)
theorem gr11_ok (m : GvP) (H : Lib23 m) : GamOK Tryz.prog (gv1 m) Gr11 := gam_add (gr10_ok m H) (by kernel_rfl) (Pure.tree_Path_1 (gr10_ok m H) (Path1_ok _ rfl))
noncomputable def Gr12 : Gam := Gr11.add Fn.q13 (.gen (lookF (F_IndexFunc false 1 Gr11)))
theorem gr12_ok (m : GvP) (H : Lib23 m) : GamOK Tryz.prog (gv1 m) Gr12 := gam_add (gr11_ok m H) (by kernel_rfl) (Look.q13 (gr11_ok m H) (idxf_ok_slices_IndexFunc___string_string_ _))
noncomputable def Gr13 : Gam := Gr12.add Fn.q10 (.gen (lookF (F_ContainsFunc false 1 Gr11)))
theorem gr13_ok (m : GvP) (H : Lib23 m) : GamOK Tryz.prog (gv1 m) Gr13 := gam_add (gr12_ok m H) (by kernel_rfl) (Look.q10 (gr12_ok m H) (contf_ok_slices_ContainsFunc___string_string_ _ _ rfl))
noncomputable def Gr14 : Gam := Gr13.add Fn.tree_Path (.pure F_Path)
theorem gr14_ok (m : GvP) (H : Lib23 m) : GamOK Tryz.prog (gv1 m) Gr14 := gam_add (gr13_ok m H) (by kernel_rfl) (Pure.tree_Path (gr13_ok m H) (Path_ok _ Gr11 rfl rfl rfl))
noncomputable def Gr15 : Gam := Gr14.add Fn.q16 (.pure F_IndexS)
theorem gr15_ok (m : GvP) (H : Lib23 m) : GamOK Tryz.prog (gv1 m) Gr15 := gam_add (gr14_ok m H) (by kernel_rfl) (Pure.q16 (gr14_ok m H) (indexS_ok _))
noncomputable def Gr16 : Gam := Gr15.add Fn.q14 (.pure F_ContainsS)
theorem gr16_ok (m : GvP) (H : Lib23 m) : GamOK Tryz.prog (gv1 m) Gr16 := gam_add (gr15_ok m H) (by kernel_rfl) (Pure.q14 (gr15_ok m H) (containsS_ok _ rfl))
noncomputable def Gr17 : Gam := Gr16.add Fn.q69 (.pure F_dParse)
theorem gr17_ok (m : GvP) (H : Lib23 m) : GamOK Tryz.prog (gv1 m) Gr17 := gam_add (gr16_ok m H) (by kernel_rfl) (Pure.q69 (gr16_ok m H) (dParse_ok rfl))
noncomputable def Gr18 : Gam := Gr17.add Fn.bundle_rows (.pure F_rows)
theorem gr18_ok (m : GvP) (H : Lib23 m) : GamOK Tryz.prog (gv1 m) Gr18 := gam_add (gr17_ok m H) (by kernel_rfl) (Pure.bundle_rows (gr17_ok m H) (rows_ok rfl rfl rfl))
noncomputable def Gr19 : Gam := Gr18.add Fn.bundle_file (.pure F_mfile)
theorem gr19_ok (m : GvP) (H : Lib23 m) : GamOK Tryz.prog (gv1 m) Gr19 := gam_add (gr18_ok m H) (by kernel_rfl) (Pure.bundle_file (gr18_ok m H) (mfile_ok (T := 164) rfl rfl rfl rfl))
noncomputable def Gr20 : Gam := Gr19.add Fn.bundle_Read (.pure F_readP)
theorem gr20_ok (m : GvP) (H : Lib23 m) : GamOK Tryz.prog (gv1 m) Gr20 := gam_add (gr19_ok m H) (by kernel_rfl) (Pure.bundle_Read (gr19_ok m H) (Read_ok rfl rfl rfl rfl))
noncomputable def Gr21 : Gam := Gr20.add Fn.q59 (.pure F_name)
theorem gr21_ok (m : GvP) (H : Lib23 m) : GamOK Tryz.prog (gv1 m) Gr21 := gam_add (gr20_ok m H) (by kernel_rfl) (Pure.q59 (gr20_ok m H) (name_ok _))
noncomputable def Gr22 : Gam := Gr21.add Fn.q50 (.pure F_Split03)
theorem gr22_ok (m : GvP) (H : Lib23 m) : GamOK Tryz.prog (gv1 m) Gr22 := gam_add (gr21_ok m H) (by kernel_rfl) (Pure.q50 (gr21_ok m H) (Split03_ok))
noncomputable def Gr23 : Gam := Gr22.add Fn.q57 (.pure F_Path)
theorem gr23_ok (m : GvP) (H : Lib23 m) : GamOK Tryz.prog (gv1 m) Gr23 := gam_add (gr22_ok m H) (by kernel_rfl) (Pure.q57 (gr22_ok m H) (Path03_ok rfl rfl))
noncomputable def Gr24 : Gam := Gr23.add Fn.q51 (.pure F_digit)
theorem gr24_ok (m : GvP) (H : Lib23 m) : GamOK Tryz.prog (gv1 m) Gr24 := gam_add (gr23_ok m H) (by kernel_rfl) (Pure.q51 (gr23_ok m H) (digit_ok))
noncomputable def Gr25 : Gam := Gr24.add Fn.q46 (.pure F_dParse)
theorem gr25_ok (m : GvP) (H : Lib23 m) : GamOK Tryz.prog (gv1 m) Gr25 := gam_add (gr24_ok m H) (by kernel_rfl) (Pure.q46 (gr24_ok m H) (bytes_ok rfl))
noncomputable def Gr26 : Gam := Gr25.add Fn.q49 (.pure F_Split03)
theorem gr26_ok (m : GvP) (H : Lib23 m) : GamOK Tryz.prog (gv1 m) Gr26 := gam_add (gr25_ok m H) (by kernel_rfl) (Pure.q49 (gr25_ok m H) (split46_ok))
noncomputable def Gr27 : Gam := Gr26.add Fn.q61 (.pure F_ContainsS)
theorem gr27_ok (m : GvP) (H : Lib23 m) : GamOK Tryz.prog (gv1 m) Gr27 := gam_add (gr26_ok m H) (by kernel_rfl) (Pure.q61 (gr26_ok m H) (has46_ok _))
noncomputable def Gr28 : Gam := Gr27.add Fn.q45 (.pure F_words)
theorem gr28_ok (m : GvP) (H : Lib23 m) : GamOK Tryz.prog (gv1 m) Gr28 := gam_add (gr27_ok m H) (by kernel_rfl) (Pure.q45 (gr27_ok m H) (words_ok rfl rfl))
noncomputable def Gr29 : Gam := Gr28.add Fn.q58 (.pure F_size46)
theorem gr29_ok (m : GvP) (H : Lib23 m) : GamOK Tryz.prog (gv1 m) Gr29 := gam_add (gr28_ok m H) (by kernel_rfl) (Pure.q58 (gr28_ok m H) (size46_ok))
noncomputable def Gr30 : Gam := Gr29.add Fn.q56 (.pure F_readR)
theorem gr30_ok (m : GvP) (H : Lib23 m) : GamOK Tryz.prog (gv1 m) Gr30 := gam_add (gr29_ok m H) (by kernel_rfl) (Pure.q56 (gr29_ok m H) (Read46_ok rfl rfl rfl rfl))
noncomputable def Gr31 : Gam := Gr30.add Fn.q44 (.pure F_awake)
theorem gr31_ok (m : GvP) (H : Lib23 m) : GamOK Tryz.prog (gv1 m) Gr31 := gam_add (gr30_ok m H) (by kernel_rfl) (H.awake)
noncomputable def Gr32 : Gam := Gr31.add Fn.q25 (.pure F_BundleReads)
theorem gr32_ok (m : GvP) (H : Lib23 m) : GamOK Tryz.prog (gv1 m) Gr32 := gam_add (gr31_ok m H) (by kernel_rfl) (Pure.q25 (gr31_ok m H) (BundleReads_ok rfl rfl rfl))
end Go.Proofs.YtaadifodgahnjaaGreatDoor
namespace Go.Proofs.YtaadifodgahnjaaGreatDoor
open Go.RowKit
theorem lib23 (m : GvP) : Lib23 m where
 split := (lb46 m).split
 itoa := (lb46 m).itoa
 idx := indexByte_pure (fun s c w => Tryz.strings_IndexByte s c w)
 cut := (lb46 m).cut
 atoi := (lb46 m).atoi
 awake := awake46 m
theorem reads_pure (m : GvP) : PureOK Tryz.prog (gv1 m) Fn.q25 F_BundleReads := (gr32_ok m (lib23 m)).ok Fn.q25 (.pure F_BundleReads) (by rfl)
end Go.Proofs.YtaadifodgahnjaaGreatDoor
