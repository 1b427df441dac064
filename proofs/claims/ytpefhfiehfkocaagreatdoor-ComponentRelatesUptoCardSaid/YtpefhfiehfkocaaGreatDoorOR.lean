/- The resolved functions are the functions of the program: origins. The resolved functions are the functions of the program: origins. The resolved functions are the functions of the program: origins. Th -/
import Derived.Test.YtpefhfiehfkocaaGreatDoorRecOk
import Derived.Test.YtpefhfiehfkocaaGreatDoorOA
import Derived.Test.YtpefhfiehfkocaaGreatDoorCA
import Derived.Test.YtpefhfiehfkocaaGreatDoorOI
import Derived.Test.YtpefhfiehfkocaaGreatDoorCB
import Derived.Test.YtpefhfiehfkocaaGreatDoorOE
import Derived.Test.YtpefhfiehfkocaaGreatDoorRmL
import Derived.Test.YtpefhfiehfkocaaGreatDoorOL
import Derived.Test.YtpefhfiehfkocaaGreatDoorRmH
import Derived.Test.YtpefhfiehfkocaaGreatDoorRmG
import Derived.Test.YtpefhfiehfkocaaGreatDoorRmD
import Derived.Test.YtpefhfiehfkocaaGreatDoorAm8
namespace Go.Proofs.YtpefhfiehfkocaaGreatDoor
open Go.RowKit
theorem Ok.q45(m:GvP):(compC Tryz.prog (gv1 m) Ks.q45 Tryz.f6.ntmps [] (Tryz.f6.body.getD .skip) Dl.q45).1=Mc.q45:=by kernel_rfl
theorem Ok.q85(m:GvP):(compC Tryz.prog (gv1 m) Ks.q85 Tryz.f85.ntmps [] (Tryz.f85.body.getD .skip) Dl.q85).1=Mc.q85:=by kernel_rfl
theorem Ok.q70(m:GvP):(compC Tryz.prog (gv1 m) Ks.q70 Tryz.f129.ntmps [] (Tryz.f129.body.getD .skip) Dl.q70).1=Mc.q70:=by kernel_rfl
theorem Ok.q87(m:GvP):(compC Tryz.prog (gv1 m) Ks.q87 Tryz.f157.ntmps [] (Tryz.f157.body.getD .skip) Dl.q87).1=Mc.q87:=by kernel_rfl
theorem Ok.q68(m:GvP):(compC Tryz.prog (gv1 m) Ks.q68 Tryz.f16.ntmps [] (Tryz.f16.body.getD .skip) Dl.q68).1=Mc.q68:=by kernel_rfl
theorem Ok.q88(m:GvP):(compC Tryz.prog (gv1 m) Ks.q88 Tryz.f158.ntmps [] (Tryz.f158.body.getD .skip) Dl.q88).1=Mc.q88:=by kernel_rfl
theorem Ok.q81(m:GvP):(compC Tryz.prog (gv1 m) Ks.q81 Tryz.f227.ntmps [] (Tryz.f227.body.getD .skip) Dl.q81).1=Mc.q81:=by kernel_rfl
theorem Ok.q14(m:GvP):(compC Tryz.prog (gv1 m) Ks.q14 Tryz.f37.ntmps [] (Tryz.f37.body.getD .skip) Dl.q14).1=Mc.q14:=by kernel_rfl
theorem Ok.q82(m:GvP):(compC Tryz.prog (gv1 m) Ks.q82 Tryz.f228.ntmps [] (Tryz.f228.body.getD .skip) Dl.q82).1=Mc.q82:=by kernel_rfl
theorem Ok.q72(m:GvP):(compC Tryz.prog (gv1 m) Ks.q72 Tryz.f229.ntmps [] (Tryz.f229.body.getD .skip) Dl.q72).1=Mc.q72:=by kernel_rfl
theorem Ok.q74(m:GvP):(compC Tryz.prog (gv1 m) Ks.q74 Tryz.f312.ntmps [] (Tryz.f312.body.getD .skip) Dl.q74).1=Mc.q74:=by kernel_rfl
theorem Ok.q83(m:GvP):(compC Tryz.prog (gv1 m) Ks.q83 Tryz.f230.ntmps [] (Tryz.f230.body.getD .skip) Dl.q83).1=Mc.q83:=by kernel_rfl
theorem Ok.q26(m:GvP):(compC Tryz.prog (gv1 m) Ks.q26 Tryz.f313.ntmps [] (Tryz.f313.body.getD .skip) Dl.q26).1=Mc.q26:=by kernel_rfl
theorem Ok.q18(m:GvP):(compC Tryz.prog (gv1 m) Ks.q18 Tryz.f65.ntmps [] (Tryz.f65.body.getD .skip) Dl.q18).1=Mc.q18:=by kernel_rfl
theorem Ok.cmp_Or_int_(m:GvP):(compC Tryz.prog (gv1 m) Ks.cmp_Or_int_ Tryz.f210.ntmps [] (Tryz.f210.body.getD .skip) Dl.cmp_Or_int_).1=Mc.cmp_Or_int_:=by kernel_rfl
theorem Ok.q63(m:GvP):(compC Tryz.prog (gv1 m) Ks.q63 Tryz.f211.ntmps [] (Tryz.f211.body.getD .skip) Dl.q63).1=Mc.q63:=by kernel_rfl
theorem Ok.q73(m:GvP):(compC Tryz.prog (gv1 m) Ks.q73 Tryz.f300.ntmps [] (Tryz.f300.body.getD .skip) Dl.q73).1=Mc.q73:=by kernel_rfl
end Go.Proofs.YtpefhfiehfkocaaGreatDoor
namespace Go.Proofs.YtpefhfiehfkocaaGreatDoor
open Go.RowKit
theorem Ok.q39(m:GvP):(compC Tryz.prog (gv1 m) Ks.q39 Tryz.f209.ntmps [] (Tryz.f209.body.getD .skip) Dl.q39).1=Mc.q39:=by kernel_rfl
theorem Ok.q71(m:GvP):(compC Tryz.prog (gv1 m) Ks.q71 Tryz.f212.ntmps [] (Tryz.f212.body.getD .skip) Dl.q71).1=Mc.q71:=by kernel_rfl
theorem Ok.q20(m:GvP):(compC Tryz.prog (gv1 m) Ks.q20 Tryz.f208.ntmps [] (Tryz.f208.body.getD .skip) Dl.q20).1=Mc.q20:=by kernel_rfl
theorem Ok.q30(m:GvP):(compC Tryz.prog (gv1 m) Ks.q30 Tryz.f299.ntmps [] (Tryz.f299.body.getD .skip) Dl.q30).1=Mc.q30:=by kernel_rfl
theorem Ok.q16(m:GvP):(compC Tryz.prog (gv1 m) Ks.q16 Tryz.f378.ntmps [] (Tryz.f378.body.getD .skip) Dl.q16).1=Mc.q16:=by kernel_rfl
end Go.Proofs.YtpefhfiehfkocaaGreatDoor
namespace Go.Proofs.YtpefhfiehfkocaaGreatDoor
open Go.RowKit
theorem Ok.q35(m:GvP):(compC Tryz.prog (gv1 m) Ks.q35 Tryz.f3.ntmps [] (Tryz.f3.body.getD .skip) Dl.q35).1=Mc.q35:=by kernel_rfl
theorem Ok.q9(m:GvP):(compC Tryz.prog (gv1 m) Ks.q9 Tryz.f7.ntmps [] (Tryz.f7.body.getD .skip) Dl.q9).1=Mc.q9:=by kernel_rfl
theorem Ok.q33(m:GvP):(compC Tryz.prog (gv1 m) Ks.q33 Tryz.f8.ntmps [] (Tryz.f8.body.getD .skip) Dl.q33).1=Mc.q33:=by kernel_rfl
theorem Ok.q61(m:GvP):(compC Tryz.prog (gv1 m) Ks.q61 Tryz.f9.ntmps [] (Tryz.f9.body.getD .skip) Dl.q61).1=Mc.q61:=by kernel_rfl
theorem Ok.q55(m:GvP):(compC Tryz.prog (gv1 m) Ks.q55 Tryz.f10.ntmps [] (Tryz.f10.body.getD .skip) Dl.q55).1=Mc.q55:=by kernel_rfl
theorem Ok.q12(m:GvP):(compC Tryz.prog (gv1 m) Ks.q12 Tryz.f17.ntmps [] (Tryz.f17.body.getD .skip) Dl.q12).1=Mc.q12:=by kernel_rfl
theorem Ok.q51(m:GvP):(compC Tryz.prog (gv1 m) Ks.q51 Tryz.f18.ntmps [] (Tryz.f18.body.getD .skip) Dl.q51).1=Mc.q51:=by kernel_rfl
theorem Ok.q54(m:GvP):(compC Tryz.prog (gv1 m) Ks.q54 Tryz.f19.ntmps [] (Tryz.f19.body.getD .skip) Dl.q54).1=Mc.q54:=by kernel_rfl
theorem Ok.q69(m:GvP):(compC Tryz.prog (gv1 m) Ks.q69 Tryz.f20.ntmps [] (Tryz.f20.body.getD .skip) Dl.q69).1=Mc.q69:=by kernel_rfl
theorem Ok.q46(m:GvP):(compC Tryz.prog (gv1 m) Ks.q46 Tryz.f38.ntmps [] (Tryz.f38.body.getD .skip) Dl.q46).1=Mc.q46:=by kernel_rfl
end Go.Proofs.YtpefhfiehfkocaaGreatDoor
namespace Go.Proofs.YtpefhfiehfkocaaGreatDoor
open Go.RowKit
theorem Ok.q50(m:GvP):(compC Tryz.prog (gv1 m) Ks.q50 Tryz.f55.ntmps [] (Tryz.f55.body.getD .skip) Dl.q50).1=Mc.q50:=by kernel_rfl
theorem Ok.q13(m:GvP):(compC Tryz.prog (gv1 m) Ks.q13 Tryz.f63.ntmps [] (Tryz.f63.body.getD .skip) Dl.q13).1=Mc.q13:=by kernel_rfl
end Go.Proofs.YtpefhfiehfkocaaGreatDoor
namespace Go.Proofs.YtpefhfiehfkocaaGreatDoor
open Go.RowKit
structure Lib38 (m:GvP):Prop where
 split:PureOK Tryz.prog (gv1 m) Fn.q78 F_Split
 hp:PureOK Tryz.prog (gv1 m) Fn.q32 F_HasPrefix
 clone:PureOK Tryz.prog (gv1 m) Fn.q36 F_CloneS
 contains:PureOK Tryz.prog (gv1 m) Fn.q62 F_Contains
 count:PureOK Tryz.prog (gv1 m) Fn.q79 F_Count1
 cmp:PureOK Tryz.prog (gv1 m) Fn.q65 F_Compare
 blen:PureOK Tryz.prog (gv1 m) Fn.q77 F_bitLen
noncomputable def Gs0:Gam:=Gam.none
theorem gs0_ok(m:GvP)(_H:Lib38 m):GamOK Tryz.prog (gv1 m) Gs0:=gam_none _
noncomputable def Gs1:Gam:=Gs0.add Fn.q32 (.pure F_HasPrefix)
theorem gs1_ok(m:GvP)(H:Lib38 m):GamOK Tryz.prog (gv1 m) Gs1:=gam_add (gs0_ok m H) (by kernel_rfl) (H.hp)
noncomputable def Gs2:Gam:=Gs1.add Fn.q36 (.pure F_CloneS)
theorem gs2_ok(m:GvP)(H:Lib38 m):GamOK Tryz.prog (gv1 m) Gs2:=gam_add (gs1_ok m H) (by kernel_rfl) (H.clone)
noncomputable def Gs3:Gam:=Gs2.add Fn.q57 (.pure F_HasPrefix)
theorem gs3_ok(m:GvP)(H:Lib38 m):GamOK Tryz.prog (gv1 m) Gs3:=gam_add (gs2_ok m H) (by kernel_rfl) (Pure.q57 (gs2_ok m H) (HasPrefix_ok rfl))
noncomputable def Gs4:Gam:=Gs3.add Fn.q80 (.pure F_CloneS)
theorem gs4_ok(m:GvP)(H:Lib38 m):GamOK Tryz.prog (gv1 m) Gs4:=gam_add (gs3_ok m H) (by kernel_rfl) (Pure.q80 (gs3_ok m H) (CloneS_ok rfl))
noncomputable def Gs5:Gam:=Gs4.add Fn.q44 (.pure F_rot)
theorem gs5_ok(m:GvP)(H:Lib38 m):GamOK Tryz.prog (gv1 m) Gs5:=gam_add (gs4_ok m H) (by kernel_rfl) (Pure.q44 (gs4_ok m H) (rot_ok _))
noncomputable def Gs6:Gam:=Gs5.add Fn.q89 (.pure F_round)
theorem gs6_ok(m:GvP)(H:Lib38 m):GamOK Tryz.prog (gv1 m) Gs6:=gam_add (gs5_ok m H) (by kernel_rfl) (Pure.q89 (gs5_ok m H) (round_ok _ rfl))
noncomputable def Gs7:Gam:=Gs6.add Fn.q76 (.pure F_offsets)
theorem gs7_ok(m:GvP)(H:Lib38 m):GamOK Tryz.prog (gv1 m) Gs7:=gam_add (gs6_ok m H) (by kernel_rfl) (Pure.q76 (gs6_ok m H) (offsets_ok _))
noncomputable def Gs8:Gam:=Gs7.add Fn.q64 (.pure F_constants)
theorem gs8_ok(m:GvP)(H:Lib38 m):GamOK Tryz.prog (gv1 m) Gs8:=gam_add (gs7_ok m H) (by kernel_rfl) (Pure.q64 (gs7_ok m H) (constants_ok _))
noncomputable def Gs9:Gam:=Gs8.add Fn.q75 (.pure F_Permute)
theorem gs9_ok(m:GvP)(H:Lib38 m):GamOK Tryz.prog (gv1 m) Gs9:=gam_add (gs8_ok m H) (by kernel_rfl) (Pure.q75 (gs8_ok m H) (Permute_ok _ rfl rfl rfl))
noncomputable def Gs10:Gam:=Gs9.add Fn.q40 (.gen F_absorb)
theorem gs10_ok(m:GvP)(H:Lib38 m):GamOK Tryz.prog (gv1 m) Gs10:=gam_add (gs9_ok m H) (by kernel_rfl) (Gen.q40 (gs9_ok m H) (absorb_ok _ rfl))
noncomputable def Gs11:Gam:=Gs10.add Fn.q43 (.gen F_Clone)
theorem gs11_ok(m:GvP)(H:Lib38 m):GamOK Tryz.prog (gv1 m) Gs11:=gam_add (gs10_ok m H) (by kernel_rfl) (Gen.q43 (gs10_ok m H) (Clone_ok _))
noncomputable def Gs12:Gam:=Gs11.add Fn.digest_New (.gen F_New)
theorem gs12_ok(m:GvP)(H:Lib38 m):GamOK Tryz.prog (gv1 m) Gs12:=gam_add (gs11_ok m H) (by kernel_rfl) (Gen.digest_New (gs11_ok m H) (New_ok _))
noncomputable def Gs13:Gam:=Gs12.add Fn.q42 (.gen F_Write)
theorem gs13_ok(m:GvP)(H:Lib38 m):GamOK Tryz.prog (gv1 m) Gs13:=gam_add (gs12_ok m H) (by kernel_rfl) (Gen.q42 (gs12_ok m H) (Write_ok _ rfl))
noncomputable def Gs14:Gam:=Gs13.add Fn.q49 (.gen F_SumM)
theorem gs14_ok(m:GvP)(H:Lib38 m):GamOK Tryz.prog (gv1 m) Gs14:=gam_add (gs13_ok m H) (by kernel_rfl) (Gen.q49 (gs13_ok m H) (Sum_ok _ rfl rfl))
noncomputable def Gs15:Gam:=Gs14.add Fn.digest_Sum (.pure F_dSum)
theorem gs15_ok(m:GvP)(H:Lib38 m):GamOK Tryz.prog (gv1 m) Gs15:=gam_add (gs14_ok m H) (by kernel_rfl) (Pure.digest_Sum (gs14_ok m H) (dSum_ok _ rfl rfl rfl))
noncomputable def Gs16:Gam:=Gs15.add Fn.q34 (.pure F_IndexS)
theorem gs16_ok(m:GvP)(H:Lib38 m):GamOK Tryz.prog (gv1 m) Gs16:=gam_add (gs15_ok m H) (by kernel_rfl) (Pure.q34 (gs15_ok m H) (indexS_ok _))
noncomputable def Gs17:Gam:=Gs16.add Fn.q28 (.pure F_ContainsS)
theorem gs17_ok(m:GvP)(H:Lib38 m):GamOK Tryz.prog (gv1 m) Gs17:=gam_add (gs16_ok m H) (by kernel_rfl) (Pure.q28 (gs16_ok m H) (containsS_ok _ rfl))
noncomputable def Gs18:Gam:=Gs17.add Fn.q24 (.gen (F_SortPD [124]))
theorem gs18_ok(m:GvP)(H:Lib38 m):GamOK Tryz.prog (gv1 m) Gs18:=gam_add (gs17_ok m H) (by kernel_rfl) (sortF_ok (gv1 m))
noncomputable def Gs19:Gam:=Gs18.add Fn.q38 (.gen (lookF F_vis))
theorem gs19_ok(m:GvP)(H:Lib38 m):GamOK Tryz.prog (gv1 m) Gs19:=gam_add (gs18_ok m H) (by kernel_rfl) (LookB.q38 (gs18_ok m H) (vis_ok rfl rfl))
noncomputable def Gs20:Gam:=Gs19.add Fn.q37 (.pure F_yes)
theorem gs20_ok(m:GvP)(H:Lib38 m):GamOK Tryz.prog (gv1 m) Gs20:=gam_add (gs19_ok m H) (by kernel_rfl) (PureB.q37 (gs19_ok m H) yes_ok)
noncomputable def Gs21:Gam:=Gs20.add Fn.q47 (.gen (F_all 112 75))
theorem gs21_ok(m:GvP)(H:Lib38 m):GamOK Tryz.prog (gv1 m) Gs21:=gam_add (gs20_ok m H) (by kernel_rfl) (GenZ.q47 (gs20_ok m H) (all_ok _ rfl rfl rfl rfl))
noncomputable def Gs22:Gam:=Gs21.add Fn.q65 (.pure F_Compare)
theorem gs22_ok(m:GvP)(H:Lib38 m):GamOK Tryz.prog (gv1 m) Gs22:=gam_add (gs21_ok m H) (by kernel_rfl) (H.cmp)
noncomputable def Gs23:Gam:=Gs22.add Fn.q77 (.pure F_bitLen)
theorem gs23_ok(m:GvP)(H:Lib38 m):GamOK Tryz.prog (gv1 m) Gs23:=gam_add (gs22_ok m H) (by kernel_rfl) (H.blen)
noncomputable def Gs24:Gam:=Gs23.add Fn.q73 (.pure F_isNaN)
theorem gs24_ok(m:GvP)(H:Lib38 m):GamOK Tryz.prog (gv1 m) Gs24:=gam_add (gs23_ok m H) (by kernel_rfl) (pure_of (by kernel_rfl) (gs23_ok m H) Tryz.func300 rfl (ks:=Ks.q73) (rs:=Rs.q73) (by kernel_rfl) (by kernel_rfl) (Ok.q73 m) (isNaN_ok))
noncomputable def Gs25:Gam:=Gs24.add Fn.q63 (.pure F_cmpI)
theorem gs25_ok(m:GvP)(H:Lib38 m):GamOK Tryz.prog (gv1 m) Gs25:=gam_add (gs24_ok m H) (by kernel_rfl) (pure_of (by kernel_rfl) (gs24_ok m H) Tryz.func211 rfl (ks:=Ks.q63) (rs:=Rs.q63) (by kernel_rfl) (by kernel_rfl) (Ok.q63 m) (cmpI_ok rfl))
noncomputable def Gs26:Gam:=Gs25.add Fn.cmp_Or_int_ (.pure F_orI)
theorem gs26_ok(m:GvP)(H:Lib38 m):GamOK Tryz.prog (gv1 m) Gs26:=gam_add (gs25_ok m H) (by kernel_rfl) (pure_of (by kernel_rfl) (gs25_ok m H) Tryz.func210 rfl (ks:=Ks.cmp_Or_int_) (rs:=Rs.cmp_Or_int_) (by kernel_rfl) (by kernel_rfl) (Ok.cmp_Or_int_ m) (orI_ok))
noncomputable def Gs27:Gam:=Gs26.add Fn.q71 (.pure F_seg)
theorem gs27_ok(m:GvP)(H:Lib38 m):GamOK Tryz.prog (gv1 m) Gs27:=gam_add (gs26_ok m H) (by kernel_rfl) (pure_of (by kernel_rfl) (gs26_ok m H) Tryz.func212 rfl (ks:=Ks.q71) (rs:=Rs.q71) (by kernel_rfl) (by kernel_rfl) (Ok.q71 m) (compare_ok rfl rfl rfl))
noncomputable def Gs28:Gam:=Gs27.add Fn.q39 (.gen (lookF F_fl1))
theorem gs28_ok(m:GvP)(H:Lib38 m):GamOK Tryz.prog (gv1 m) Gs28:=gam_add (gs27_ok m H) (by kernel_rfl) (look_of (by kernel_rfl) (gs27_ok m H) Tryz.func209 rfl (ks:=Ks.q39) (rs:=Rs.q39) (by kernel_rfl) (by kernel_rfl) (Ok.q39 m) (fl1_ok rfl rfl rfl))
noncomputable def Gs29:Gam:=Gs28.add Fn.q16 (.gen F_insFl)
theorem gs29_ok(m:GvP)(H:Lib38 m):GamOK Tryz.prog (gv1 m) Gs29:=gam_add (gs28_ok m H) (by kernel_rfl) (gen_of (by kernel_rfl) (gs28_ok m H) Tryz.func378 rfl (ks:=Ks.q16) (rs:=Rs.q16) (by kernel_rfl) (by kernel_rfl) (Ok.q16 m) (insFl_ok rfl))
noncomputable def Gs30:Gam:=Gs29.add Fn.q30 (.gen F_pdqFl)
theorem gs30_ok(m:GvP)(H:Lib38 m):GamOK Tryz.prog (gv1 m) Gs30:=gam_add (gs29_ok m H) (by kernel_rfl) (gen_of (by kernel_rfl) (gs29_ok m H) Tryz.func299 rfl (ks:=Ks.q30) (rs:=Rs.q30) (by kernel_rfl) (by kernel_rfl) (Ok.q30 m) (pdqFl_ok rfl))
noncomputable def Gs31:Gam:=Gs30.add Fn.q20 (.gen F_sortFl)
theorem gs31_ok(m:GvP)(H:Lib38 m):GamOK Tryz.prog (gv1 m) Gs31:=gam_add (gs30_ok m H) (by kernel_rfl) (gen_of (by kernel_rfl) (gs30_ok m H) Tryz.func208 rfl (ks:=Ks.q20) (rs:=Rs.q20) (by kernel_rfl) (by kernel_rfl) (Ok.q20 m) (sortFl_ok rfl rfl))
noncomputable def Gs32:Gam:=Gs31.add Fn.q21 (.gen (F_SortSp 315))
theorem gs32_ok(m:GvP)(H:Lib38 m):GamOK Tryz.prog (gv1 m) Gs32:=gam_add (gs31_ok m H) (by kernel_rfl) (sortSp_ok (gv1 m))
noncomputable def Gs33:Gam:=Gs32.add Fn.tree_part_1 (.pure F_part1)
theorem gs33_ok(m:GvP)(H:Lib38 m):GamOK Tryz.prog (gv1 m) Gs33:=gam_add (gs32_ok m H) (by kernel_rfl) (Pure.tree_part_1 (gs32_ok m H) (part1_ok _))
noncomputable def Gs34:Gam:=Gs33.add Fn.q78 (.pure F_Split)
theorem gs34_ok(m:GvP)(H:Lib38 m):GamOK Tryz.prog (gv1 m) Gs34:=gam_add (gs33_ok m H) (by kernel_rfl) (H.split)
noncomputable def Gs35:Gam:=Gs34.add Fn.q59 (.gen (lookF (F_indexFunc Gs34)))
theorem gs35_ok(m:GvP)(H:Lib38 m):GamOK Tryz.prog (gv1 m) Gs35:=gam_add (gs34_ok m H) (by kernel_rfl) (Look.q59 (gs34_ok m H) (indexFunc_ok _))
noncomputable def Gs36:Gam:=Gs35.add Fn.q58 (.gen (lookF (F_strIndexFunc Gs34)))
theorem gs36_ok(m:GvP)(H:Lib38 m):GamOK Tryz.prog (gv1 m) Gs36:=gam_add (gs35_ok m H) (by kernel_rfl) (Look.q58 (gs35_ok m H) (strIndexFunc_ok _ _ rfl))
noncomputable def Gs37:Gam:=Gs36.add Fn.q48 (.gen (lookF (F_strContainsFunc Gs34)))
theorem gs37_ok(m:GvP)(H:Lib38 m):GamOK Tryz.prog (gv1 m) Gs37:=gam_add (gs36_ok m H) (by kernel_rfl) (Look.q48 (gs36_ok m H) (strContainsFunc_ok _ _ rfl))
noncomputable def Gs38:Gam:=Gs37.add Fn.tree_part (.pure F_part)
theorem gs38_ok(m:GvP)(H:Lib38 m):GamOK Tryz.prog (gv1 m) Gs38:=gam_add (gs37_ok m H) (by kernel_rfl) (Pure.tree_part (gs37_ok m H) (part_ok _ Gs34 rfl rfl))
noncomputable def Gs39:Gam:=Gs38.add Fn.tree_Path_1 (.pure F_Path1)
theorem gs39_ok(m:GvP)(H:Lib38 m):GamOK Tryz.prog (gv1 m) Gs39:=gam_add (gs38_ok m H) (by kernel_rfl) (Pure.tree_Path_1 (gs38_ok m H) (Path1_ok _ rfl))
noncomputable def Gs40:Gam:=Gs39.add Fn.q25 (.gen (lookF (F_IndexFunc false 1 Gs39)))
theorem gs40_ok(m:GvP)(H:Lib38 m):GamOK Tryz.prog (gv1 m) Gs40:=gam_add (gs39_ok m H) (by kernel_rfl) (Look.q25 (gs39_ok m H) (idxf_ok_slices_IndexFunc___string_string_ _))
noncomputable def Gs41:Gam:=Gs40.add Fn.q19 (.gen (lookF (F_ContainsFunc false 1 Gs39)))
theorem gs41_ok(m:GvP)(H:Lib38 m):GamOK Tryz.prog (gv1 m) Gs41:=gam_add (gs40_ok m H) (by kernel_rfl) (Look.q19 (gs40_ok m H) (contf_ok_slices_ContainsFunc___string_string_ _ _ rfl))
noncomputable def Gs42:Gam:=Gs41.add Fn.tree_Path (.pure F_Path)
theorem gs42_ok(m:GvP)(H:Lib38 m):GamOK Tryz.prog (gv1 m) Gs42:=gam_add (gs41_ok m H) (by kernel_rfl) (Pure.tree_Path (gs41_ok m H) (Path_ok _ Gs39 rfl rfl rfl))
noncomputable def Gs43:Gam:=Gs42.add Fn.q31 (.gen (F_GrowG 3))
theorem gs43_ok(m:GvP)(H:Lib38 m):GamOK Tryz.prog (gv1 m) Gs43:=gam_add (gs42_ok m H) (by kernel_rfl) (growG_396 (gv1 m))
noncomputable def Gs44:Gam:=Gs43.add Fn.q72 (.pure F_inside)
theorem gs44_ok(m:GvP)(H:Lib38 m):GamOK Tryz.prog (gv1 m) Gs44:=gam_add (gs43_ok m H) (by kernel_rfl) (pure_of (by kernel_rfl) (gs43_ok m H) Tryz.func229 rfl (ks:=Ks.q72) (rs:=Rs.q72) (by kernel_rfl) (by kernel_rfl) (Ok.q72 m) (inside_ok))
noncomputable def Gs45:Gam:=Gs44.add Fn.q74 (.pure F_beh)
theorem gs45_ok(m:GvP)(H:Lib38 m):GamOK Tryz.prog (gv1 m) Gs45:=gam_add (gs44_ok m H) (by kernel_rfl) (pure_of (by kernel_rfl) (gs44_ok m H) Tryz.func312 rfl (ks:=Ks.q74) (rs:=Rs.q74) (by kernel_rfl) (by kernel_rfl) (Ok.q74 m) (behind_ok))
noncomputable def Gs46:Gam:=Gs45.add Fn.q81 (.pure F_lValid)
theorem gs46_ok(m:GvP)(H:Lib38 m):GamOK Tryz.prog (gv1 m) Gs46:=gam_add (gs45_ok m H) (by kernel_rfl) (pure_of (by kernel_rfl) (gs45_ok m H) Tryz.func227 rfl (ks:=Ks.q81) (rs:=Rs.q81) (by kernel_rfl) (by kernel_rfl) (Ok.q81 m) (lValid_ok rfl rfl rfl))
noncomputable def Gs47:Gam:=Gs46.add Fn.q26 (.gen F_Concat2)
theorem gs47_ok(m:GvP)(H:Lib38 m):GamOK Tryz.prog (gv1 m) Gs47:=gam_add (gs46_ok m H) (by kernel_rfl) (gen_of (by kernel_rfl) (gs46_ok m H) Tryz.func313 rfl (ks:=Ks.q26) (rs:=Rs.q26) (by kernel_rfl) (by kernel_rfl) (Ok.q26 m) (concat_ok rfl))
noncomputable def Gs48:Gam:=Gs47.add Fn.q83 (.gen F_merge)
theorem gs48_ok(m:GvP)(H:Lib38 m):GamOK Tryz.prog (gv1 m) Gs48:=gam_add (gs47_ok m H) (by kernel_rfl) (genZL_of (by kernel_rfl) (gs47_ok m H) Tryz.func230 rfl (ks:=Ks.q83) (rs:=Rs.q83) (by kernel_rfl) (by kernel_rfl) (Ok.q83 m) (merge_ok rfl rfl))
noncomputable def Gs49:Gam:=Gs48.add Fn.q82 (.pure F_lUnion)
theorem gs49_ok(m:GvP)(H:Lib38 m):GamOK Tryz.prog (gv1 m) Gs49:=gam_add (gs48_ok m H) (by kernel_rfl) (pure_of (by kernel_rfl) (gs48_ok m H) Tryz.func228 rfl (ks:=Ks.q82) (rs:=Rs.q82) (by kernel_rfl) (by kernel_rfl) (Ok.q82 m) (lUnion_ok rfl rfl rfl))
noncomputable def Gs50:Gam:=Gs49.add Fn.q87 (.pure F_oValid)
theorem gs50_ok(m:GvP)(H:Lib38 m):GamOK Tryz.prog (gv1 m) Gs50:=gam_add (gs49_ok m H) (by kernel_rfl) (pure_of (by kernel_rfl) (gs49_ok m H) Tryz.func157 rfl (ks:=Ks.q87) (rs:=Rs.q87) (by kernel_rfl) (by kernel_rfl) (Ok.q87 m) (oValid_ok rfl))
noncomputable def Gs51:Gam:=Gs50.add Fn.q88 (.pure F_oUnion)
theorem gs51_ok(m:GvP)(H:Lib38 m):GamOK Tryz.prog (gv1 m) Gs51:=gam_add (gs50_ok m H) (by kernel_rfl) (pure_of (by kernel_rfl) (gs50_ok m H) Tryz.func158 rfl (ks:=Ks.q88) (rs:=Rs.q88) (by kernel_rfl) (by kernel_rfl) (Ok.q88 m) (oUnion_ok rfl))
noncomputable def Gs52:Gam:=Gs51.add Fn.q85 (.pure F_oUn)
theorem gs52_ok(m:GvP)(H:Lib38 m):GamOK Tryz.prog (gv1 m) Gs52:=gam_add (gs51_ok m H) (by kernel_rfl) (pure_of (by kernel_rfl) (gs51_ok m H) Tryz.func85 rfl (ks:=Ks.q85) (rs:=Rs.q85) (by kernel_rfl) (by kernel_rfl) (Ok.q85 m) (oUn_ok rfl rfl))
noncomputable def Gs53:Gam:=Gs52.add Fn.q70 (.pure F_oThr)
theorem gs53_ok(m:GvP)(H:Lib38 m):GamOK Tryz.prog (gv1 m) Gs53:=gam_add (gs52_ok m H) (by kernel_rfl) (pure_of (by kernel_rfl) (gs52_ok m H) Tryz.func129 rfl (ks:=Ks.q70) (rs:=Rs.q70) (by kernel_rfl) (by kernel_rfl) (Ok.q70 m) (oThr_ok rfl rfl))
noncomputable def Gs54:Gam:=Gs53.add Fn.q46 (.gen (lookF F_ment1))
theorem gs54_ok(m:GvP)(H:Lib38 m):GamOK Tryz.prog (gv1 m) Gs54:=gam_add (gs53_ok m H) (by kernel_rfl) (look_of (by kernel_rfl) (gs53_ok m H) Tryz.func38 rfl (ks:=Ks.q46) (rs:=Rs.q46) (by kernel_rfl) (by kernel_rfl) (Ok.q46 m) (ment1_ok))
noncomputable def Gs55:Gam:=Gs54.add Fn.q18 (.gen (lookF (F_IndexFunc true 3 Gs54)))
theorem gs55_ok(m:GvP)(H:Lib38 m):GamOK Tryz.prog (gv1 m) Gs55:=gam_add (gs54_ok m H) (by kernel_rfl) (look_of (by kernel_rfl) (gs54_ok m H) Tryz.func65 rfl (ks:=Ks.q18) (rs:=Rs.q18) (by kernel_rfl) (by kernel_rfl) (Ok.q18 m) (idxf_ok_slices_IndexFunc_api_Lines_api_Span_ _))
noncomputable def Gs56:Gam:=Gs55.add Fn.q14 (.gen (lookF (F_ContainsFunc true 3 Gs54)))
theorem gs56_ok(m:GvP)(H:Lib38 m):GamOK Tryz.prog (gv1 m) Gs56:=gam_add (gs55_ok m H) (by kernel_rfl) (look_of (by kernel_rfl) (gs55_ok m H) Tryz.func37 rfl (ks:=Ks.q14) (rs:=Rs.q14) (by kernel_rfl) (by kernel_rfl) (Ok.q14 m) (contf_ok_slices_ContainsFunc_api_Lines_api_Span_ _ _ rfl))
noncomputable def Gs57:Gam:=Gs56.add Fn.q51 (.pure F_ment)
theorem gs57_ok(m:GvP)(H:Lib38 m):GamOK Tryz.prog (gv1 m) Gs57:=gam_add (gs56_ok m H) (by kernel_rfl) (pure_of (by kernel_rfl) (gs56_ok m H) Tryz.func18 rfl (ks:=Ks.q51) (rs:=Rs.q51) (by kernel_rfl) (by kernel_rfl) (Ok.q51 m) (ment_ok (G0:=Gs54) rfl rfl))
noncomputable def Gs58:Gam:=Gs57.add Fn.q54 (.gen (lookF F_rel1))
theorem gs58_ok(m:GvP)(H:Lib38 m):GamOK Tryz.prog (gv1 m) Gs58:=gam_add (gs57_ok m H) (by kernel_rfl) (look_of (by kernel_rfl) (gs57_ok m H) Tryz.func19 rfl (ks:=Ks.q54) (rs:=Rs.q54) (by kernel_rfl) (by kernel_rfl) (Ok.q54 m) (rel1_ok rfl))
noncomputable def Gs59:Gam:=Gs58.add Fn.q68 (.pure F_few)
theorem gs59_ok(m:GvP)(H:Lib38 m):GamOK Tryz.prog (gv1 m) Gs59:=gam_add (gs58_ok m H) (by kernel_rfl) (pure_of (by kernel_rfl) (gs58_ok m H) Tryz.func16 rfl (ks:=Ks.q68) (rs:=Rs.q68) (by kernel_rfl) (by kernel_rfl) (Ok.q68 m) (few_ok))
noncomputable def Gs60:Gam:=Gs59.add Fn.q45 (.pure F_fewO)
theorem gs60_ok(m:GvP)(H:Lib38 m):GamOK Tryz.prog (gv1 m) Gs60:=gam_add (gs59_ok m H) (by kernel_rfl) (pure_of (by kernel_rfl) (gs59_ok m H) Tryz.func6 rfl (ks:=Ks.q45) (rs:=Rs.q45) (by kernel_rfl) (by kernel_rfl) (Ok.q45 m) (fewO_ok rfl))
noncomputable def Gs61:Gam:=Gs60.add Fn.q33 (.gen (lookF F_rls1))
theorem gs61_ok(m:GvP)(H:Lib38 m):GamOK Tryz.prog (gv1 m) Gs61:=gam_add (gs60_ok m H) (by kernel_rfl) (look_of (by kernel_rfl) (gs60_ok m H) Tryz.func8 rfl (ks:=Ks.q33) (rs:=Rs.q33) (by kernel_rfl) (by kernel_rfl) (Ok.q33 m) (rls1_ok rfl))
noncomputable def Gs62:Gam:=Gs61.add Fn.q12 (.gen (lookF (F_IndexFunc true 3 Gs61)))
theorem gs62_ok(m:GvP)(H:Lib38 m):GamOK Tryz.prog (gv1 m) Gs62:=gam_add (gs61_ok m H) (by kernel_rfl) (look_of (by kernel_rfl) (gs61_ok m H) Tryz.func17 rfl (ks:=Ks.q12) (rs:=Rs.q12) (by kernel_rfl) (by kernel_rfl) (Ok.q12 m) (idxf_ok_slices_IndexFunc___api_Origin_api_Origin_ _))
noncomputable def Gs63:Gam:=Gs62.add Fn.q9 (.gen (lookF (F_ContainsFunc true 3 Gs61)))
theorem gs63_ok(m:GvP)(H:Lib38 m):GamOK Tryz.prog (gv1 m) Gs63:=gam_add (gs62_ok m H) (by kernel_rfl) (look_of (by kernel_rfl) (gs62_ok m H) Tryz.func7 rfl (ks:=Ks.q9) (rs:=Rs.q9) (by kernel_rfl) (by kernel_rfl) (Ok.q9 m) (contf_ok_slices_ContainsFunc___api_Origin_api_Origin_ _ _ rfl))
noncomputable def Gs64:Gam:=Gs63.add Fn.q61 (.pure F_relate)
theorem gs64_ok(m:GvP)(H:Lib38 m):GamOK Tryz.prog (gv1 m) Gs64:=gam_add (gs63_ok m H) (by kernel_rfl) (pure_of (by kernel_rfl) (gs63_ok m H) Tryz.func9 rfl (ks:=Ks.q61) (rs:=Rs.q61) (by kernel_rfl) (by kernel_rfl) (Ok.q61 m) (relate_ok (G0:=Gs61) rfl rfl rfl))
noncomputable def Gs65:Gam:=Gs64.add Fn.q69 (.pure F_ment)
theorem gs65_ok(m:GvP)(H:Lib38 m):GamOK Tryz.prog (gv1 m) Gs65:=gam_add (gs64_ok m H) (by kernel_rfl) (pure_of (by kernel_rfl) (gs64_ok m H) Tryz.func20 rfl (ks:=Ks.q69) (rs:=Rs.q69) (by kernel_rfl) (by kernel_rfl) (Ok.q69 m) (rhas_ok))
noncomputable def Gs66:Gam:=Gs65.add Fn.q55 (.pure F_relate)
theorem gs66_ok(m:GvP)(H:Lib38 m):GamOK Tryz.prog (gv1 m) Gs66:=gam_add (gs65_ok m H) (by kernel_rfl) (pure_of (by kernel_rfl) (gs65_ok m H) Tryz.func10 rfl (ks:=Ks.q55) (rs:=Rs.q55) (by kernel_rfl) (by kernel_rfl) (Ok.q55 m) (rrel_ok rfl))
noncomputable def Gs67:Gam:=Gs66.add Fn.q60 (.pure F_awake)
theorem gs67_ok(m:GvP)(H:Lib38 m)(A:PureOK Tryz.prog (gv1 m) Fn.q60 F_awake):GamOK Tryz.prog (gv1 m) Gs67:=gam_add (gs66_ok m H) (by kernel_rfl) (A)
noncomputable def Gs68:Gam:=Gs67.add Fn.q35 (.pure F_relates)
theorem gs68_ok(m:GvP)(H:Lib38 m)(A:PureOK Tryz.prog (gv1 m) Fn.q60 F_awake):GamOK Tryz.prog (gv1 m) Gs68:=gam_add (gs67_ok m H A) (by kernel_rfl) (pure_of (by kernel_rfl) (gs67_ok m H A) Tryz.func3 rfl (ks:=Ks.q35) (rs:=Rs.q35) (by kernel_rfl) (by kernel_rfl) (Ok.q35 m) (relates_ok (G0:=Gs61) rfl rfl rfl rfl rfl rfl))
end Go.Proofs.YtpefhfiehfkocaaGreatDoor
