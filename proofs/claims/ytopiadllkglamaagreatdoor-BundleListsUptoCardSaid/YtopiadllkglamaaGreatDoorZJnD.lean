/- The resolved functions are the functions of the program: lists,joins,checks of distributions. The chain of contracts of joins and checks of distributions,over what the library's functions and awake -/
import Derived.Test.YtopiadllkglamaaGreatDoorZRecOk
import Derived.Test.YtopiadllkglamaaGreatDoorZJnA
import Derived.Test.YtopiadllkglamaaGreatDoorZJnC
import Derived.Test.YtopiadllkglamaaGreatDoorZRmI
import Derived.Test.YtopiadllkglamaaGreatDoorZRmG
import Derived.Test.YtopiadllkglamaaGreatDoorZAwA
namespace Go.Proofs.YtopiadllkglamaaGreatDoor
open Go.RowKit
theorem Ok.bundle_Join (m : GvP) : (compC Tryz.prog (gv1 m) Ks.bundle_Join Tryz.f11.ntmps [] (Tryz.f11.body.getD .skip) Dl.bundle_Join).1 = Mc.bundle_Join := by kernel_rfl
theorem Ok.build_Check (m : GvP) : (compC Tryz.prog (gv1 m) Ks.build_Check Tryz.f20.ntmps [] (Tryz.f20.body.getD .skip) Dl.build_Check).1 = Mc.build_Check := by kernel_rfl
theorem Ok.q44 (m : GvP) : (compC Tryz.prog (gv1 m) Ks.q44 Tryz.f23.ntmps [] (Tryz.f23.body.getD .skip) Dl.q44).1 = Mc.q44 := by kernel_rfl
theorem Ok.q22 (m : GvP) : (compC Tryz.prog (gv1 m) Ks.q22 Tryz.f12.ntmps [] (Tryz.f12.body.getD .skip) Dl.q22).1 = Mc.q22 := by kernel_rfl
theorem Ok.q64 (m : GvP) : (compC Tryz.prog (gv1 m) Ks.q64 Tryz.f28.ntmps [] (Tryz.f28.body.getD .skip) Dl.q64).1 = Mc.q64 := by kernel_rfl
theorem Ok.q38 (m : GvP) : (compC Tryz.prog (gv1 m) Ks.q38 Tryz.f29.ntmps [] (Tryz.f29.body.getD .skip) Dl.q38).1 = Mc.q38 := by kernel_rfl
theorem Ok.build_part (m : GvP) : (compC Tryz.prog (gv1 m) Ks.build_part Tryz.f43.ntmps [] (Tryz.f43.body.getD .skip) Dl.build_part).1 = Mc.build_part := by kernel_rfl
theorem Ok.q65 (m : GvP) : (compC Tryz.prog (gv1 m) Ks.q65 Tryz.f45.ntmps [] (Tryz.f45.body.getD .skip) Dl.q65).1 = Mc.q65 := by kernel_rfl
theorem Ok.q66 (m : GvP) : (compC Tryz.prog (gv1 m) Ks.q66 Tryz.f47.ntmps [] (Tryz.f47.body.getD .skip) Dl.q66).1 = Mc.q66 := by kernel_rfl
theorem Ok.tree_Find (m : GvP) : (compC Tryz.prog (gv1 m) Ks.tree_Find Tryz.f48.ntmps [] (Tryz.f48.body.getD .skip) Dl.tree_Find).1 = Mc.tree_Find := by kernel_rfl
theorem Ok.q61 (m : GvP) : (compC Tryz.prog (gv1 m) Ks.q61 Tryz.f53.ntmps [] (Tryz.f53.body.getD .skip) Dl.q61).1 = Mc.q61 := by kernel_rfl
theorem Ok.q46 (m : GvP) : (compC Tryz.prog (gv1 m) Ks.q46 Tryz.f54.ntmps [] (Tryz.f54.body.getD .skip) Dl.q46).1 = Mc.q46 := by kernel_rfl
theorem Ok.q58 (m : GvP) : (compC Tryz.prog (gv1 m) Ks.q58 Tryz.f55.ntmps [] (Tryz.f55.body.getD .skip) Dl.q58).1 = Mc.q58 := by kernel_rfl
theorem Ok.q19 (m : GvP) : (compC Tryz.prog (gv1 m) Ks.q19 Tryz.f62.ntmps [] (Tryz.f62.body.getD .skip) Dl.q19).1 = Mc.q19 := by kernel_rfl
theorem Ok.tree_index (m : GvP) : (compC Tryz.prog (gv1 m) Ks.tree_index Tryz.f89.ntmps [] (Tryz.f89.body.getD .skip) Dl.tree_index).1 = Mc.tree_index := by kernel_rfl
theorem Ok.q75 (m : GvP) : (compC Tryz.prog (gv1 m) Ks.q75 Tryz.f125.ntmps [] (Tryz.f125.body.getD .skip) Dl.q75).1 = Mc.q75 := by kernel_rfl
theorem Ok.q11 (m : GvP) : (compC Tryz.prog (gv1 m) Ks.q11 Tryz.f27.ntmps [] (Tryz.f27.body.getD .skip) Dl.q11).1 = Mc.q11 := by kernel_rfl
theorem Ok.q9 (m : GvP) : (compC Tryz.prog (gv1 m) Ks.q9 Tryz.f44.ntmps [] (Tryz.f44.body.getD .skip) Dl.q9).1 = Mc.q9 := by kernel_rfl
theorem Ok.q13 (m : GvP) : (compC Tryz.prog (gv1 m) Ks.q13 Tryz.f61.ntmps [] (Tryz.f61.body.getD .skip) Dl.q13).1 = Mc.q13 := by kernel_rfl
theorem Ok.q10 (m : GvP) : (compC Tryz.prog (gv1 m) Ks.q10 Tryz.f81.ntmps [] (Tryz.f81.body.getD .skip) Dl.q10).1 = Mc.q10 := by kernel_rfl
theorem Ok.q28 (m : GvP) : (compC Tryz.prog (gv1 m) Ks.q28 Tryz.f3.ntmps [] (Tryz.f3.body.getD .skip) Dl.q28).1 = Mc.q28 := by kernel_rfl
end Go.Proofs.YtopiadllkglamaaGreatDoor
namespace Go.Proofs.YtopiadllkglamaaGreatDoor
open Go.RowKit
structure Lib22 (m : GvP) : Prop where
 split : PureOK Tryz.prog (gv1 m) Fn.q67 F_Split
 cut : PureOK Tryz.prog (gv1 m) Fn.strings_Cut F_Cut
 contains : PureOK Tryz.prog (gv1 m) Fn.q49 F_Contains
 hp : PureOK Tryz.prog (gv1 m) Fn.q20 F_HasPrefix
 awake : PureOK Tryz.prog (gv1 m) Fn.q43 F_awake
noncomputable def Gj0 : Gam := Gam.none
theorem gj0_ok (m : GvP) (_H : Lib22 m) : GamOK Tryz.prog (gv1 m) Gj0 := gam_none _
noncomputable def Gj1 : Gam := Gj0.add Fn.q67 (.pure F_Split)
theorem gj1_ok (m : GvP) (H : Lib22 m) : GamOK Tryz.prog (gv1 m) Gj1 := gam_add (gj0_ok m H) (by kernel_rfl) (H.split)
noncomputable def Gj2 : Gam := Gj1.add Fn.strings_Cut (.pure F_Cut)
theorem gj2_ok (m : GvP) (H : Lib22 m) : GamOK Tryz.prog (gv1 m) Gj2 := gam_add (gj1_ok m H) (by kernel_rfl) (H.cut)
noncomputable def Gj3 : Gam := Gj2.add Fn.q49 (.pure F_Contains)
theorem gj3_ok (m : GvP) (H : Lib22 m) : GamOK Tryz.prog (gv1 m) Gj3 := gam_add (gj2_ok m H) (by kernel_rfl) (H.contains)
noncomputable def Gj4 : Gam := Gj3.add Fn.q20 (.pure F_HasPrefix)
theorem gj4_ok (m : GvP) (H : Lib22 m) : GamOK Tryz.prog (gv1 m) Gj4 := gam_add (gj3_ok m H) (by kernel_rfl) (H.hp)
noncomputable def Gj5 : Gam := Gj4.add Fn.q40 (.pure F_HasPrefix)
theorem gj5_ok (m : GvP) (H : Lib22 m) : GamOK Tryz.prog (gv1 m) Gj5 := gam_add (gj4_ok m H) (by kernel_rfl) (pure_of (by kernel_rfl) (gj4_ok m H) Tryz.func101 rfl (ks := Ks.q40) (rs := Rs.q40) (by kernel_rfl) (by kernel_rfl) (Ok.q40 m) (HasPrefix_ok rfl))
noncomputable def Gj6 : Gam := Gj5.add Fn.tree_part_1 (.pure F_part1)
theorem gj6_ok (m : GvP) (H : Lib22 m) : GamOK Tryz.prog (gv1 m) Gj6 := gam_add (gj5_ok m H) (by kernel_rfl) (pure_of (by kernel_rfl) (gj5_ok m H) Tryz.func108 rfl (ks := Ks.tree_part_1) (rs := Rs.tree_part_1) (by kernel_rfl) (by kernel_rfl) (Ok.tree_part_1 m) (part1_ok _))
noncomputable def Gj7 : Gam := Gj6.add Fn.q42 (.gen (lookF (F_indexFunc Gj6)))
theorem gj7_ok (m : GvP) (H : Lib22 m) : GamOK Tryz.prog (gv1 m) Gj7 := gam_add (gj6_ok m H) (by kernel_rfl) (look_of (by kernel_rfl) (gj6_ok m H) Tryz.func169 rfl (ks := Ks.q42) (rs := Rs.q42) (by kernel_rfl) (by kernel_rfl) (Ok.q42 m) (indexFunc_ok _))
noncomputable def Gj8 : Gam := Gj7.add Fn.q41 (.gen (lookF (F_strIndexFunc Gj6)))
theorem gj8_ok (m : GvP) (H : Lib22 m) : GamOK Tryz.prog (gv1 m) Gj8 := gam_add (gj7_ok m H) (by kernel_rfl) (look_of (by kernel_rfl) (gj7_ok m H) Tryz.func135 rfl (ks := Ks.q41) (rs := Rs.q41) (by kernel_rfl) (by kernel_rfl) (Ok.q41 m) (strIndexFunc_ok _ _ rfl))
noncomputable def Gj9 : Gam := Gj8.add Fn.q34 (.gen (lookF (F_strContainsFunc Gj6)))
theorem gj9_ok (m : GvP) (H : Lib22 m) : GamOK Tryz.prog (gv1 m) Gj9 := gam_add (gj8_ok m H) (by kernel_rfl) (look_of (by kernel_rfl) (gj8_ok m H) Tryz.func107 rfl (ks := Ks.q34) (rs := Rs.q34) (by kernel_rfl) (by kernel_rfl) (Ok.q34 m) (strContainsFunc_ok _ _ rfl))
noncomputable def Gj10 : Gam := Gj9.add Fn.tree_part (.pure F_part)
theorem gj10_ok (m : GvP) (H : Lib22 m) : GamOK Tryz.prog (gv1 m) Gj10 := gam_add (gj9_ok m H) (by kernel_rfl) (pure_of (by kernel_rfl) (gj9_ok m H) Tryz.func68 rfl (ks := Ks.tree_part) (rs := Rs.tree_part) (by kernel_rfl) (by kernel_rfl) (Ok.tree_part m) (part_ok _ Gj6 rfl rfl))
noncomputable def Gj11 : Gam := Gj10.add Fn.tree_Path_1 (.pure F_Path1)
theorem gj11_ok (m : GvP) (H : Lib22 m) : GamOK Tryz.prog (gv1 m) Gj11 := gam_add (gj10_ok m H) (by kernel_rfl) (pure_of (by kernel_rfl) (gj10_ok m H) Tryz.func67 rfl (ks := Ks.tree_Path_1) (rs := Rs.tree_Path_1) (by kernel_rfl) (by kernel_rfl) (Ok.tree_Path_1 m) (Path1_ok _ rfl))
noncomputable def Gj12 : Gam := Gj11.add Fn.q17 (.gen (lookF (F_IndexFunc false 1 Gj11)))
theorem gj12_ok (m : GvP) (H : Lib22 m) : GamOK Tryz.prog (gv1 m) Gj12 := gam_add (gj11_ok m H) (by kernel_rfl) (look_of (by kernel_rfl) (gj11_ok m H) Tryz.func106 rfl (ks := Ks.q17) (rs := Rs.q17) (by kernel_rfl) (by kernel_rfl) (Ok.q17 m) (idxf_ok_slices_IndexFunc___string_string_ _))
noncomputable def Gj13 : Gam := Gj12.add Fn.q14 (.gen (lookF (F_ContainsFunc false 1 Gj11)))
theorem gj13_ok (m : GvP) (H : Lib22 m) : GamOK Tryz.prog (gv1 m) Gj13 := gam_add (gj12_ok m H) (by kernel_rfl) (look_of (by kernel_rfl) (gj12_ok m H) Tryz.func66 rfl (ks := Ks.q14) (rs := Rs.q14) (by kernel_rfl) (by kernel_rfl) (Ok.q14 m) (contf_ok_slices_ContainsFunc___string_string_ _ _ rfl))
noncomputable def Gj14 : Gam := Gj13.add Fn.tree_Path (.pure F_Path)
theorem gj14_ok (m : GvP) (H : Lib22 m) : GamOK Tryz.prog (gv1 m) Gj14 := gam_add (gj13_ok m H) (by kernel_rfl) (pure_of (by kernel_rfl) (gj13_ok m H) Tryz.func33 rfl (ks := Ks.tree_Path) (rs := Rs.tree_Path) (by kernel_rfl) (by kernel_rfl) (Ok.tree_Path m) (Path_ok _ Gj11 rfl rfl rfl))
noncomputable def Gj15 : Gam := Gj14.add Fn.q21 (.pure F_IndexS)
theorem gj15_ok (m : GvP) (H : Lib22 m) : GamOK Tryz.prog (gv1 m) Gj15 := gam_add (gj14_ok m H) (by kernel_rfl) (pure_of (by kernel_rfl) (gj14_ok m H) Tryz.func104 rfl (ks := Ks.q21) (rs := Rs.q21) (by kernel_rfl) (by kernel_rfl) (Ok.q21 m) (indexS_ok _))
noncomputable def Gj16 : Gam := Gj15.add Fn.q18 (.pure F_ContainsS)
theorem gj16_ok (m : GvP) (H : Lib22 m) : GamOK Tryz.prog (gv1 m) Gj16 := gam_add (gj15_ok m H) (by kernel_rfl) (pure_of (by kernel_rfl) (gj15_ok m H) Tryz.func60 rfl (ks := Ks.q18) (rs := Rs.q18) (by kernel_rfl) (by kernel_rfl) (Ok.q18 m) (containsS_ok _ rfl))
noncomputable def Gj17 : Gam := Gj16.add Fn.bundle_rows (.pure F_rows)
theorem gj17_ok (m : GvP) (H : Lib22 m) : GamOK Tryz.prog (gv1 m) Gj17 := gam_add (gj16_ok m H) (by kernel_rfl) (pure_of (by kernel_rfl) (gj16_ok m H) Tryz.func26 rfl (ks := Ks.bundle_rows) (rs := Rs.bundle_rows) (by kernel_rfl) (by kernel_rfl) (Ok.bundle_rows m) (rows_ok rfl rfl rfl))
noncomputable def Gj18 : Gam := Gj17.add Fn.tree_below (.pure F_below)
theorem gj18_ok (m : GvP) (H : Lib22 m) : GamOK Tryz.prog (gv1 m) Gj18 := gam_add (gj17_ok m H) (by kernel_rfl) (pure_of (by kernel_rfl) (gj17_ok m H) Tryz.func57 rfl (ks := Ks.tree_below) (rs := Rs.tree_below) (by kernel_rfl) (by kernel_rfl) (Ok.tree_below m) (below_ok rfl))
noncomputable def Gj19 : Gam := Gj18.add Fn.q73 (.gen (lookF F_chk1))
theorem gj19_ok (m : GvP) (H : Lib22 m) : GamOK Tryz.prog (gv1 m) Gj19 := gam_add (gj18_ok m H) (by kernel_rfl) (look_of (by kernel_rfl) (gj18_ok m H) Tryz.func56 rfl (ks := Ks.q73) (rs := Rs.q73) (by kernel_rfl) (by kernel_rfl) (Ok.q73 m) (chk1_ok rfl))
noncomputable def Gj20 : Gam := Gj19.add Fn.q75 (.gen (lookF F_index1))
theorem gj20_ok (m : GvP) (H : Lib22 m) : GamOK Tryz.prog (gv1 m) Gj20 := gam_add (gj19_ok m H) (by kernel_rfl) (look_of (by kernel_rfl) (gj19_ok m H) Tryz.func125 rfl (ks := Ks.q75) (rs := Rs.q75) (by kernel_rfl) (by kernel_rfl) (Ok.q75 m) (index1_ok))
noncomputable def Gj21 : Gam := Gj20.add Fn.q65 (.gen (lookF F_chkN))
theorem gj21_ok (m : GvP) (H : Lib22 m) : GamOK Tryz.prog (gv1 m) Gj21 := gam_add (gj20_ok m H) (by kernel_rfl) (look_of (by kernel_rfl) (gj20_ok m H) Tryz.func45 rfl (ks := Ks.q65) (rs := Rs.q65) (by kernel_rfl) (by kernel_rfl) (Ok.q65 m) (chkN_ok))
noncomputable def Gj22 : Gam := Gj21.add Fn.q66 (.gen (lookF F_chkP))
theorem gj22_ok (m : GvP) (H : Lib22 m) : GamOK Tryz.prog (gv1 m) Gj22 := gam_add (gj21_ok m H) (by kernel_rfl) (look_of (by kernel_rfl) (gj21_ok m H) Tryz.func47 rfl (ks := Ks.q66) (rs := Rs.q66) (by kernel_rfl) (by kernel_rfl) (Ok.q66 m) (chkP_ok rfl))
noncomputable def Gj23 : Gam := Gj22.add Fn.q64 (.gen (lookF F_join1))
theorem gj23_ok (m : GvP) (H : Lib22 m) : GamOK Tryz.prog (gv1 m) Gj23 := gam_add (gj22_ok m H) (by kernel_rfl) (look_of (by kernel_rfl) (gj22_ok m H) Tryz.func28 rfl (ks := Ks.q64) (rs := Rs.q64) (by kernel_rfl) (by kernel_rfl) (Ok.q64 m) (join1_ok))
noncomputable def Gj24 : Gam := Gj23.add Fn.q15 (.gen (lookF (F_IndexFunc true 2 Gj23)))
theorem gj24_ok (m : GvP) (H : Lib22 m) : GamOK Tryz.prog (gv1 m) Gj24 := gam_add (gj23_ok m H) (by kernel_rfl) (look_of (by kernel_rfl) (gj23_ok m H) Tryz.func88 rfl (ks := Ks.q15) (rs := Rs.q15) (by kernel_rfl) (by kernel_rfl) (Ok.q15 m) (idxf_ok_slices_IndexFunc_api_Tree_api_File_ _))
noncomputable def Gj25 : Gam := Gj24.add Fn.q12 (.gen (lookF (F_ContainsFunc true 2 Gj23)))
theorem gj25_ok (m : GvP) (H : Lib22 m) : GamOK Tryz.prog (gv1 m) Gj25 := gam_add (gj24_ok m H) (by kernel_rfl) (look_of (by kernel_rfl) (gj24_ok m H) Tryz.func46 rfl (ks := Ks.q12) (rs := Rs.q12) (by kernel_rfl) (by kernel_rfl) (Ok.q12 m) (contf_ok_slices_ContainsFunc_api_Tree_api_File_ _ _ rfl))
noncomputable def Gj26 : Gam := Gj25.add Fn.q10 (.gen (lookF (F_IndexFunc true 4 Gj25)))
theorem gj26_ok (m : GvP) (H : Lib22 m) : GamOK Tryz.prog (gv1 m) Gj26 := gam_add (gj25_ok m H) (by kernel_rfl) (look_of (by kernel_rfl) (gj25_ok m H) Tryz.func81 rfl (ks := Ks.q10) (rs := Rs.q10) (by kernel_rfl) (by kernel_rfl) (Ok.q10 m) (idxf_ok_slices_IndexFunc_api_Distribution_api_Package_ _))
noncomputable def Gj27 : Gam := Gj26.add Fn.q9 (.gen (lookF (F_ContainsFunc true 4 Gj25)))
theorem gj27_ok (m : GvP) (H : Lib22 m) : GamOK Tryz.prog (gv1 m) Gj27 := gam_add (gj26_ok m H) (by kernel_rfl) (look_of (by kernel_rfl) (gj26_ok m H) Tryz.func44 rfl (ks := Ks.q9) (rs := Rs.q9) (by kernel_rfl) (by kernel_rfl) (Ok.q9 m) (contf_ok_slices_ContainsFunc_api_Distribution_api_Package_ _ _ rfl))
noncomputable def Gj28 : Gam := Gj27.add Fn.q13 (.gen (lookF (F_IndexFunc false 1 Gj27)))
theorem gj28_ok (m : GvP) (H : Lib22 m) : GamOK Tryz.prog (gv1 m) Gj28 := gam_add (gj27_ok m H) (by kernel_rfl) (look_of (by kernel_rfl) (gj27_ok m H) Tryz.func61 rfl (ks := Ks.q13) (rs := Rs.q13) (by kernel_rfl) (by kernel_rfl) (Ok.q13 m) (idxf_ok_slices_IndexFunc_____string___string_ _))
noncomputable def Gj29 : Gam := Gj28.add Fn.q11 (.gen (lookF (F_ContainsFunc false 1 Gj27)))
theorem gj29_ok (m : GvP) (H : Lib22 m) : GamOK Tryz.prog (gv1 m) Gj29 := gam_add (gj28_ok m H) (by kernel_rfl) (look_of (by kernel_rfl) (gj28_ok m H) Tryz.func27 rfl (ks := Ks.q11) (rs := Rs.q11) (by kernel_rfl) (by kernel_rfl) (Ok.q11 m) (contf_ok_slices_ContainsFunc_____string___string_ _ _ rfl))
noncomputable def Gj30 : Gam := Gj29.add Fn.tree_Check (.pure F_treeCheck)
theorem gj30_ok (m : GvP) (H : Lib22 m) : GamOK Tryz.prog (gv1 m) Gj30 := gam_add (gj29_ok m H) (by kernel_rfl) (pure_of (by kernel_rfl) (gj29_ok m H) Tryz.func25 rfl (ks := Ks.tree_Check) (rs := Rs.tree_Check) (by kernel_rfl) (by kernel_rfl) (Ok.tree_Check m) (treeCheck_ok (G0 := Gj23) rfl rfl rfl))
noncomputable def Gj31 : Gam := Gj30.add Fn.tree_index (.pure F_tindex)
theorem gj31_ok (m : GvP) (H : Lib22 m) : GamOK Tryz.prog (gv1 m) Gj31 := gam_add (gj30_ok m H) (by kernel_rfl) (pure_of (by kernel_rfl) (gj30_ok m H) Tryz.func89 rfl (ks := Ks.tree_index) (rs := Rs.tree_index) (by kernel_rfl) (by kernel_rfl) (Ok.tree_index m) (tindex_ok (G0 := Gj23) rfl rfl))
noncomputable def Gj32 : Gam := Gj31.add Fn.tree_Find (.pure F_tfind)
theorem gj32_ok (m : GvP) (H : Lib22 m) : GamOK Tryz.prog (gv1 m) Gj32 := gam_add (gj31_ok m H) (by kernel_rfl) (pure_of (by kernel_rfl) (gj31_ok m H) Tryz.func48 rfl (ks := Ks.tree_Find) (rs := Rs.tree_Find) (by kernel_rfl) (by kernel_rfl) (Ok.tree_Find m) (tfind_ok rfl))
noncomputable def Gj33 : Gam := Gj32.add Fn.build_part (.pure F_bpart)
theorem gj33_ok (m : GvP) (H : Lib22 m) : GamOK Tryz.prog (gv1 m) Gj33 := gam_add (gj32_ok m H) (by kernel_rfl) (pure_of (by kernel_rfl) (gj32_ok m H) Tryz.func43 rfl (ks := Ks.build_part) (rs := Rs.build_part) (by kernel_rfl) (by kernel_rfl) (Ok.build_part m) (bpart_ok rfl rfl))
noncomputable def Gj34 : Gam := Gj33.add Fn.build_Check (.pure F_distE)
theorem gj34_ok (m : GvP) (H : Lib22 m) : GamOK Tryz.prog (gv1 m) Gj34 := gam_add (gj33_ok m H) (by kernel_rfl) (pure_of (by kernel_rfl) (gj33_ok m H) Tryz.func20 rfl (ks := Ks.build_Check) (rs := Rs.build_Check) (by kernel_rfl) (by kernel_rfl) (Ok.build_Check m) (bcheck_ok (G0 := Gj25) (G1 := Gj23) rfl rfl rfl rfl rfl rfl rfl))
noncomputable def Gj35 : Gam := Gj34.add Fn.q19 (.pure F_CutPrefix)
theorem gj35_ok (m : GvP) (H : Lib22 m) : GamOK Tryz.prog (gv1 m) Gj35 := gam_add (gj34_ok m H) (by kernel_rfl) (pure_of (by kernel_rfl) (gj34_ok m H) Tryz.func62 rfl (ks := Ks.q19) (rs := Rs.q19) (by kernel_rfl) (by kernel_rfl) (Ok.q19 m) (cutPrefixL_ok rfl))
noncomputable def Gj36 : Gam := Gj35.add Fn.q38 (.pure F_CutPrefix)
theorem gj36_ok (m : GvP) (H : Lib22 m) : GamOK Tryz.prog (gv1 m) Gj36 := gam_add (gj35_ok m H) (by kernel_rfl) (pure_of (by kernel_rfl) (gj35_ok m H) Tryz.func29 rfl (ks := Ks.q38) (rs := Rs.q38) (by kernel_rfl) (by kernel_rfl) (Ok.q38 m) (cutPrefix_ok rfl))
noncomputable def Gj37 : Gam := Gj36.add Fn.bundle_Join (.pure F_join)
theorem gj37_ok (m : GvP) (H : Lib22 m) : GamOK Tryz.prog (gv1 m) Gj37 := gam_add (gj36_ok m H) (by kernel_rfl) (pure_of (by kernel_rfl) (gj36_ok m H) Tryz.func11 rfl (ks := Ks.bundle_Join) (rs := Rs.bundle_Join) (by kernel_rfl) (by kernel_rfl) (Ok.bundle_Join m) (join_ok (G0 := Gj27) rfl rfl rfl rfl rfl rfl))
noncomputable def Gj38 : Gam := Gj37.add Fn.q47 (.pure F_below)
theorem gj38_ok (m : GvP) (H : Lib22 m) : GamOK Tryz.prog (gv1 m) Gj38 := gam_add (gj37_ok m H) (by kernel_rfl) (pure_of (by kernel_rfl) (gj37_ok m H) Tryz.func63 rfl (ks := Ks.q47) (rs := Rs.q47) (by kernel_rfl) (by kernel_rfl) (Ok.q47 m) (Below_ok))
noncomputable def Gj39 : Gam := Gj38.add Fn.q57 (.pure F_name)
theorem gj39_ok (m : GvP) (H : Lib22 m) : GamOK Tryz.prog (gv1 m) Gj39 := gam_add (gj38_ok m H) (by kernel_rfl) (pure_of (by kernel_rfl) (gj38_ok m H) Tryz.func52 rfl (ks := Ks.q57) (rs := Rs.q57) (by kernel_rfl) (by kernel_rfl) (Ok.q57 m) (name_ok _))
noncomputable def Gj40 : Gam := Gj39.add Fn.q48 (.pure F_Split03)
theorem gj40_ok (m : GvP) (H : Lib22 m) : GamOK Tryz.prog (gv1 m) Gj40 := gam_add (gj39_ok m H) (by kernel_rfl) (pure_of (by kernel_rfl) (gj39_ok m H) Tryz.func74 rfl (ks := Ks.q48) (rs := Rs.q48) (by kernel_rfl) (by kernel_rfl) (Ok.q48 m) (Split03_ok))
noncomputable def Gj41 : Gam := Gj40.add Fn.q55 (.pure F_Path)
theorem gj41_ok (m : GvP) (H : Lib22 m) : GamOK Tryz.prog (gv1 m) Gj41 := gam_add (gj40_ok m H) (by kernel_rfl) (pure_of (by kernel_rfl) (gj40_ok m H) Tryz.func38 rfl (ks := Ks.q55) (rs := Rs.q55) (by kernel_rfl) (by kernel_rfl) (Ok.q55 m) (Path03_ok rfl rfl))
noncomputable def Gj42 : Gam := Gj41.add Fn.q45 (.pure F_treeCheck)
theorem gj42_ok (m : GvP) (H : Lib22 m) : GamOK Tryz.prog (gv1 m) Gj42 := gam_add (gj41_ok m H) (by kernel_rfl) (pure_of (by kernel_rfl) (gj41_ok m H) Tryz.func30 rfl (ks := Ks.q45) (rs := Rs.q45) (by kernel_rfl) (by kernel_rfl) (Ok.q45 m) (treeCheck03_ok rfl rfl))
noncomputable def Gj43 : Gam := Gj42.add Fn.q61 (.pure F_ContainsS)
theorem gj43_ok (m : GvP) (H : Lib22 m) : GamOK Tryz.prog (gv1 m) Gj43 := gam_add (gj42_ok m H) (by kernel_rfl) (pure_of (by kernel_rfl) (gj42_ok m H) Tryz.func53 rfl (ks := Ks.q61) (rs := Rs.q61) (by kernel_rfl) (by kernel_rfl) (Ok.q61 m) (has05_ok))
noncomputable def Gj44 : Gam := Gj43.add Fn.q58 (.pure F_tfind)
theorem gj44_ok (m : GvP) (H : Lib22 m) : GamOK Tryz.prog (gv1 m) Gj44 := gam_add (gj43_ok m H) (by kernel_rfl) (pure_of (by kernel_rfl) (gj43_ok m H) Tryz.func55 rfl (ks := Ks.q58) (rs := Rs.q58) (by kernel_rfl) (by kernel_rfl) (Ok.q58 m) (find03_ok))
noncomputable def Gj45 : Gam := Gj44.add Fn.q46 (.pure F_mount)
theorem gj45_ok (m : GvP) (H : Lib22 m) : GamOK Tryz.prog (gv1 m) Gj45 := gam_add (gj44_ok m H) (by kernel_rfl) (pure_of (by kernel_rfl) (gj44_ok m H) Tryz.func54 rfl (ks := Ks.q46) (rs := Rs.q46) (by kernel_rfl) (by kernel_rfl) (Ok.q46 m) (mount_ok rfl rfl))
noncomputable def Gj46 : Gam := Gj45.add Fn.q44 (.pure F_distE)
theorem gj46_ok (m : GvP) (H : Lib22 m) : GamOK Tryz.prog (gv1 m) Gj46 := gam_add (gj45_ok m H) (by kernel_rfl) (pure_of (by kernel_rfl) (gj45_ok m H) Tryz.func23 rfl (ks := Ks.q44) (rs := Rs.q44) (by kernel_rfl) (by kernel_rfl) (Ok.q44 m) (r15_ok rfl rfl rfl rfl rfl))
noncomputable def Gj47 : Gam := Gj46.add Fn.q54 (.pure F_Same03)
theorem gj47_ok (m : GvP) (H : Lib22 m) : GamOK Tryz.prog (gv1 m) Gj47 := gam_add (gj46_ok m H) (by kernel_rfl) (pure_of (by kernel_rfl) (gj46_ok m H) Tryz.func10 rfl (ks := Ks.q54) (rs := Rs.q54) (by kernel_rfl) (by kernel_rfl) (Ok.q54 m) (Same03_ok))
noncomputable def Gj48 : Gam := Gj47.add Fn.q22 (.pure F_sameD)
theorem gj48_ok (m : GvP) (H : Lib22 m) : GamOK Tryz.prog (gv1 m) Gj48 := gam_add (gj47_ok m H) (by kernel_rfl) (pure_of (by kernel_rfl) (gj47_ok m H) Tryz.func12 rfl (ks := Ks.q22) (rs := Rs.q22) (by kernel_rfl) (by kernel_rfl) (Ok.q22 m) (sameD_ok rfl))
noncomputable def Gj49 : Gam := Gj48.add Fn.q60 (.pure F_Few03)
theorem gj49_ok (m : GvP) (H : Lib22 m) : GamOK Tryz.prog (gv1 m) Gj49 := gam_add (gj48_ok m H) (by kernel_rfl) (pure_of (by kernel_rfl) (gj48_ok m H) Tryz.func13 rfl (ks := Ks.q60) (rs := Rs.q60) (by kernel_rfl) (by kernel_rfl) (Ok.q60 m) (Few03_ok))
noncomputable def Gj50 : Gam := Gj49.add Fn.q43 (.pure F_awake)
theorem gj50_ok (m : GvP) (H : Lib22 m) : GamOK Tryz.prog (gv1 m) Gj50 := gam_add (gj49_ok m H) (by kernel_rfl) (H.awake)
end Go.Proofs.YtopiadllkglamaaGreatDoor
namespace Go.Proofs.YtopiadllkglamaaGreatDoor
open Go.RowKit
theorem lib22 (m : GvP) : Lib22 m where
 split := (lb46 m).split
 cut := (lb46 m).cut
 contains := (lb46 m).contains
 hp := (lb46 m).hp
 awake := awake46 m
end Go.Proofs.YtopiadllkglamaaGreatDoor
