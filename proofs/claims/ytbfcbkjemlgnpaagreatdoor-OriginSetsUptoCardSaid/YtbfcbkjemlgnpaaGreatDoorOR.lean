/- The resolved functions are the functions of the program: origins. The resolved functions are the functions of the program: origins. The chain of contracts of law 19,over what the library's functions  -/
import Derived.Test.YtbfcbkjemlgnpaaGreatDoorRecOk
import Derived.Test.YtbfcbkjemlgnpaaGreatDoorOA
import Derived.Test.YtbfcbkjemlgnpaaGreatDoorOI
import Derived.Test.YtbfcbkjemlgnpaaGreatDoorOG
import Derived.Test.YtbfcbkjemlgnpaaGreatDoorOH
import Derived.Test.YtbfcbkjemlgnpaaGreatDoorOF
import Derived.Test.YtbfcbkjemlgnpaaGreatDoorRmL
import Derived.Test.YtbfcbkjemlgnpaaGreatDoorOL
import Derived.Test.YtbfcbkjemlgnpaaGreatDoorRmH
import Derived.Test.YtbfcbkjemlgnpaaGreatDoorRmG
import Derived.Test.YtbfcbkjemlgnpaaGreatDoorRmD
import Derived.Test.YtbfcbkjemlgnpaaGreatDoorAm8
namespace Go.Proofs.YtbfcbkjemlgnpaaGreatDoor
open Go.RowKit
theorem Ok.q49(m:GvP):(compC Tryz.prog (gv1 m) Ks.q49 Tryz.f3.ntmps [] (Tryz.f3.body.getD .skip) Dl.q49).1=Mc.q49:=by kernel_rfl
theorem Ok.q37(m:GvP):(compC Tryz.prog (gv1 m) Ks.q37 Tryz.f4.ntmps [] (Tryz.f4.body.getD .skip) Dl.q37).1=Mc.q37:=by kernel_rfl
theorem Ok.q51(m:GvP):(compC Tryz.prog (gv1 m) Ks.q51 Tryz.f6.ntmps [] (Tryz.f6.body.getD .skip) Dl.q51).1=Mc.q51:=by kernel_rfl
theorem Ok.q108(m:GvP):(compC Tryz.prog (gv1 m) Ks.q108 Tryz.f7.ntmps [] (Tryz.f7.body.getD .skip) Dl.q108).1=Mc.q108:=by kernel_rfl
theorem Ok.q71(m:GvP):(compC Tryz.prog (gv1 m) Ks.q71 Tryz.f8.ntmps [] (Tryz.f8.body.getD .skip) Dl.q71).1=Mc.q71:=by kernel_rfl
theorem Ok.q89(m:GvP):(compC Tryz.prog (gv1 m) Ks.q89 Tryz.f9.ntmps [] (Tryz.f9.body.getD .skip) Dl.q89).1=Mc.q89:=by kernel_rfl
theorem Ok.q60(m:GvP):(compC Tryz.prog (gv1 m) Ks.q60 Tryz.f10.ntmps [] (Tryz.f10.body.getD .skip) Dl.q60).1=Mc.q60:=by kernel_rfl
theorem Ok.origin_All(m:GvP):(compC Tryz.prog (gv1 m) Ks.origin_All Tryz.f11.ntmps [] (Tryz.f11.body.getD .skip) Dl.origin_All).1=Mc.origin_All:=by kernel_rfl
theorem Ok.q90(m:GvP):(compC Tryz.prog (gv1 m) Ks.q90 Tryz.f12.ntmps [] (Tryz.f12.body.getD .skip) Dl.q90).1=Mc.q90:=by kernel_rfl
theorem Ok.q109(m:GvP):(compC Tryz.prog (gv1 m) Ks.q109 Tryz.f13.ntmps [] (Tryz.f13.body.getD .skip) Dl.q109).1=Mc.q109:=by kernel_rfl
theorem Ok.q72(m:GvP):(compC Tryz.prog (gv1 m) Ks.q72 Tryz.f14.ntmps [] (Tryz.f14.body.getD .skip) Dl.q72).1=Mc.q72:=by kernel_rfl
theorem Ok.q50(m:GvP):(compC Tryz.prog (gv1 m) Ks.q50 Tryz.f15.ntmps [] (Tryz.f15.body.getD .skip) Dl.q50).1=Mc.q50:=by kernel_rfl
theorem Ok.q24(m:GvP):(compC Tryz.prog (gv1 m) Ks.q24 Tryz.f16.ntmps [] (Tryz.f16.body.getD .skip) Dl.q24).1=Mc.q24:=by kernel_rfl
theorem Ok.q38(m:GvP):(compC Tryz.prog (gv1 m) Ks.q38 Tryz.f17.ntmps [] (Tryz.f17.body.getD .skip) Dl.q38).1=Mc.q38:=by kernel_rfl
theorem Ok.q99(m:GvP):(compC Tryz.prog (gv1 m) Ks.q99 Tryz.f18.ntmps [] (Tryz.f18.body.getD .skip) Dl.q99).1=Mc.q99:=by kernel_rfl
theorem Ok.q62(m:GvP):(compC Tryz.prog (gv1 m) Ks.q62 Tryz.f19.ntmps [] (Tryz.f19.body.getD .skip) Dl.q62).1=Mc.q62:=by kernel_rfl
theorem Ok.q31(m:GvP):(compC Tryz.prog (gv1 m) Ks.q31 Tryz.f20.ntmps [] (Tryz.f20.body.getD .skip) Dl.q31).1=Mc.q31:=by kernel_rfl
theorem Ok.lineset_Has(m:GvP):(compC Tryz.prog (gv1 m) Ks.lineset_Has Tryz.f21.ntmps [] (Tryz.f21.body.getD .skip) Dl.lineset_Has).1=Mc.lineset_Has:=by kernel_rfl
theorem Ok.q91(m:GvP):(compC Tryz.prog (gv1 m) Ks.q91 Tryz.f30.ntmps [] (Tryz.f30.body.getD .skip) Dl.q91).1=Mc.q91:=by kernel_rfl
theorem Ok.q110(m:GvP):(compC Tryz.prog (gv1 m) Ks.q110 Tryz.f31.ntmps [] (Tryz.f31.body.getD .skip) Dl.q110).1=Mc.q110:=by kernel_rfl
theorem Ok.q79(m:GvP):(compC Tryz.prog (gv1 m) Ks.q79 Tryz.f32.ntmps [] (Tryz.f32.body.getD .skip) Dl.q79).1=Mc.q79:=by kernel_rfl
theorem Ok.q63(m:GvP):(compC Tryz.prog (gv1 m) Ks.q63 Tryz.f33.ntmps [] (Tryz.f33.body.getD .skip) Dl.q63).1=Mc.q63:=by kernel_rfl
theorem Ok.q73(m:GvP):(compC Tryz.prog (gv1 m) Ks.q73 Tryz.f34.ntmps [] (Tryz.f34.body.getD .skip) Dl.q73).1=Mc.q73:=by kernel_rfl
theorem Ok.q100(m:GvP):(compC Tryz.prog (gv1 m) Ks.q100 Tryz.f35.ntmps [] (Tryz.f35.body.getD .skip) Dl.q100).1=Mc.q100:=by kernel_rfl
theorem Ok.q74(m:GvP):(compC Tryz.prog (gv1 m) Ks.q74 Tryz.f36.ntmps [] (Tryz.f36.body.getD .skip) Dl.q74).1=Mc.q74:=by kernel_rfl
theorem Ok.q80(m:GvP):(compC Tryz.prog (gv1 m) Ks.q80 Tryz.f37.ntmps [] (Tryz.f37.body.getD .skip) Dl.q80).1=Mc.q80:=by kernel_rfl
theorem Ok.q92(m:GvP):(compC Tryz.prog (gv1 m) Ks.q92 Tryz.f39.ntmps [] (Tryz.f39.body.getD .skip) Dl.q92).1=Mc.q92:=by kernel_rfl
theorem Ok.q101(m:GvP):(compC Tryz.prog (gv1 m) Ks.q101 Tryz.f41.ntmps [] (Tryz.f41.body.getD .skip) Dl.q101).1=Mc.q101:=by kernel_rfl
theorem Ok.q10(m:GvP):(compC Tryz.prog (gv1 m) Ks.q10 Tryz.f42.ntmps [] (Tryz.f42.body.getD .skip) Dl.q10).1=Mc.q10:=by kernel_rfl
theorem Ok.q103(m:GvP):(compC Tryz.prog (gv1 m) Ks.q103 Tryz.f65.ntmps [] (Tryz.f65.body.getD .skip) Dl.q103).1=Mc.q103:=by kernel_rfl
theorem Ok.q81(m:GvP):(compC Tryz.prog (gv1 m) Ks.q81 Tryz.f66.ntmps [] (Tryz.f66.body.getD .skip) Dl.q81).1=Mc.q81:=by kernel_rfl
theorem Ok.q94(m:GvP):(compC Tryz.prog (gv1 m) Ks.q94 Tryz.f67.ntmps [] (Tryz.f67.body.getD .skip) Dl.q94).1=Mc.q94:=by kernel_rfl
theorem Ok.q95(m:GvP):(compC Tryz.prog (gv1 m) Ks.q95 Tryz.f68.ntmps [] (Tryz.f68.body.getD .skip) Dl.q95).1=Mc.q95:=by kernel_rfl
theorem Ok.q82(m:GvP):(compC Tryz.prog (gv1 m) Ks.q82 Tryz.f70.ntmps [] (Tryz.f70.body.getD .skip) Dl.q82).1=Mc.q82:=by kernel_rfl
theorem Ok.q64(m:GvP):(compC Tryz.prog (gv1 m) Ks.q64 Tryz.f71.ntmps [] (Tryz.f71.body.getD .skip) Dl.q64).1=Mc.q64:=by kernel_rfl
theorem Ok.q105(m:GvP):(compC Tryz.prog (gv1 m) Ks.q105 Tryz.f123.ntmps [] (Tryz.f123.body.getD .skip) Dl.q105).1=Mc.q105:=by kernel_rfl
theorem Ok.q84(m:GvP):(compC Tryz.prog (gv1 m) Ks.q84 Tryz.f125.ntmps [] (Tryz.f125.body.getD .skip) Dl.q84).1=Mc.q84:=by kernel_rfl
theorem Ok.q76(m:GvP):(compC Tryz.prog (gv1 m) Ks.q76 Tryz.f126.ntmps [] (Tryz.f126.body.getD .skip) Dl.q76).1=Mc.q76:=by kernel_rfl
theorem Ok.q85(m:GvP):(compC Tryz.prog (gv1 m) Ks.q85 Tryz.f127.ntmps [] (Tryz.f127.body.getD .skip) Dl.q85).1=Mc.q85:=by kernel_rfl
theorem Ok.q21(m:GvP):(compC Tryz.prog (gv1 m) Ks.q21 Tryz.f124.ntmps [] (Tryz.f124.body.getD .skip) Dl.q21).1=Mc.q21:=by kernel_rfl
theorem Ok.q86(m:GvP):(compC Tryz.prog (gv1 m) Ks.q86 Tryz.f132.ntmps [] (Tryz.f132.body.getD .skip) Dl.q86).1=Mc.q86:=by kernel_rfl
theorem Ok.q65(m:GvP):(compC Tryz.prog (gv1 m) Ks.q65 Tryz.f207.ntmps [] (Tryz.f207.body.getD .skip) Dl.q65).1=Mc.q65:=by kernel_rfl
theorem Ok.q88(m:GvP):(compC Tryz.prog (gv1 m) Ks.q88 Tryz.f212.ntmps [] (Tryz.f212.body.getD .skip) Dl.q88).1=Mc.q88:=by kernel_rfl
theorem Ok.q15(m:GvP):(compC Tryz.prog (gv1 m) Ks.q15 Tryz.f74.ntmps [] (Tryz.f74.body.getD .skip) Dl.q15).1=Mc.q15:=by kernel_rfl
theorem Ok.q39(m:GvP):(compC Tryz.prog (gv1 m) Ks.q39 Tryz.f40.ntmps [] (Tryz.f40.body.getD .skip) Dl.q39).1=Mc.q39:=by kernel_rfl
theorem Ok.cmp_Or_int_(m:GvP):(compC Tryz.prog (gv1 m) Ks.cmp_Or_int_ Tryz.f54.ntmps [] (Tryz.f54.body.getD .skip) Dl.cmp_Or_int_).1=Mc.cmp_Or_int_:=by kernel_rfl
theorem Ok.q75(m:GvP):(compC Tryz.prog (gv1 m) Ks.q75 Tryz.f55.ntmps [] (Tryz.f55.body.getD .skip) Dl.q75).1=Mc.q75:=by kernel_rfl
theorem Ok.q96(m:GvP):(compC Tryz.prog (gv1 m) Ks.q96 Tryz.f96.ntmps [] (Tryz.f96.body.getD .skip) Dl.q96).1=Mc.q96:=by kernel_rfl
end Go.Proofs.YtbfcbkjemlgnpaaGreatDoor
namespace Go.Proofs.YtbfcbkjemlgnpaaGreatDoor
open Go.RowKit
theorem Ok.q41(m:GvP):(compC Tryz.prog (gv1 m) Ks.q41 Tryz.f24.ntmps [] (Tryz.f24.body.getD .skip) Dl.q41).1=Mc.q41:=by kernel_rfl
theorem Ok.q35(m:GvP):(compC Tryz.prog (gv1 m) Ks.q35 Tryz.f53.ntmps [] (Tryz.f53.body.getD .skip) Dl.q35).1=Mc.q35:=by kernel_rfl
theorem Ok.q93(m:GvP):(compC Tryz.prog (gv1 m) Ks.q93 Tryz.f56.ntmps [] (Tryz.f56.body.getD .skip) Dl.q93).1=Mc.q93:=by kernel_rfl
theorem Ok.q14(m:GvP):(compC Tryz.prog (gv1 m) Ks.q14 Tryz.f52.ntmps [] (Tryz.f52.body.getD .skip) Dl.q14).1=Mc.q14:=by kernel_rfl
theorem Ok.q27(m:GvP):(compC Tryz.prog (gv1 m) Ks.q27 Tryz.f95.ntmps [] (Tryz.f95.body.getD .skip) Dl.q27).1=Mc.q27:=by kernel_rfl
theorem Ok.q12(m:GvP):(compC Tryz.prog (gv1 m) Ks.q12 Tryz.f179.ntmps [] (Tryz.f179.body.getD .skip) Dl.q12).1=Mc.q12:=by kernel_rfl
end Go.Proofs.YtbfcbkjemlgnpaaGreatDoor
namespace Go.Proofs.YtbfcbkjemlgnpaaGreatDoor
open Go.RowKit
structure Lib19 (m:GvP):Prop where
 split:PureOK Tryz.prog (gv1 m) Fn.q106 F_Split
 itoa:PureOK Tryz.prog (gv1 m) Fn.q114 F_Itoa
 hp:PureOK Tryz.prog (gv1 m) Fn.q29 F_HasPrefix
 clone:PureOK Tryz.prog (gv1 m) Fn.q32 F_CloneS
 contains:PureOK Tryz.prog (gv1 m) Fn.q77 F_Contains
 count:PureOK Tryz.prog (gv1 m) Fn.q102 F_Count1
 cut:PureOK Tryz.prog (gv1 m) Fn.strings_Cut F_Cut
 atoi:PureOK Tryz.prog (gv1 m) Fn.q112 (F_Atoi 505)
 cmp:PureOK Tryz.prog (gv1 m) Fn.q83 F_Compare
 blen:PureOK Tryz.prog (gv1 m) Fn.q104 F_bitLen
 sorti:GenOK Tryz.prog (gv1 m) Fn.q42 F_SortI
noncomputable def Gs0:Gam:=Gam.none
theorem gs0_ok(m:GvP)(_H:Lib19 m):GamOK Tryz.prog (gv1 m) Gs0:=gam_none _
noncomputable def Gs1:Gam:=Gs0.add Fn.q29 (.pure F_HasPrefix)
theorem gs1_ok(m:GvP)(H:Lib19 m):GamOK Tryz.prog (gv1 m) Gs1:=gam_add (gs0_ok m H) (by kernel_rfl) (H.hp)
noncomputable def Gs2:Gam:=Gs1.add Fn.q32 (.pure F_CloneS)
theorem gs2_ok(m:GvP)(H:Lib19 m):GamOK Tryz.prog (gv1 m) Gs2:=gam_add (gs1_ok m H) (by kernel_rfl) (H.clone)
noncomputable def Gs3:Gam:=Gs2.add Fn.q66 (.pure F_HasPrefix)
theorem gs3_ok(m:GvP)(H:Lib19 m):GamOK Tryz.prog (gv1 m) Gs3:=gam_add (gs2_ok m H) (by kernel_rfl) (Pure.q66 (gs2_ok m H) (HasPrefix_ok rfl))
noncomputable def Gs4:Gam:=Gs3.add Fn.q107 (.pure F_CloneS)
theorem gs4_ok(m:GvP)(H:Lib19 m):GamOK Tryz.prog (gv1 m) Gs4:=gam_add (gs3_ok m H) (by kernel_rfl) (Pure.q107 (gs3_ok m H) (CloneS_ok rfl))
noncomputable def Gs5:Gam:=Gs4.add Fn.q48 (.pure F_rot)
theorem gs5_ok(m:GvP)(H:Lib19 m):GamOK Tryz.prog (gv1 m) Gs5:=gam_add (gs4_ok m H) (by kernel_rfl) (Pure.q48 (gs4_ok m H) (rot_ok _))
noncomputable def Gs6:Gam:=Gs5.add Fn.q115 (.pure F_round)
theorem gs6_ok(m:GvP)(H:Lib19 m):GamOK Tryz.prog (gv1 m) Gs6:=gam_add (gs5_ok m H) (by kernel_rfl) (Pure.q115 (gs5_ok m H) (round_ok _ rfl))
noncomputable def Gs7:Gam:=Gs6.add Fn.q98 (.pure F_offsets)
theorem gs7_ok(m:GvP)(H:Lib19 m):GamOK Tryz.prog (gv1 m) Gs7:=gam_add (gs6_ok m H) (by kernel_rfl) (Pure.q98 (gs6_ok m H) (offsets_ok _))
noncomputable def Gs8:Gam:=Gs7.add Fn.q78 (.pure F_constants)
theorem gs8_ok(m:GvP)(H:Lib19 m):GamOK Tryz.prog (gv1 m) Gs8:=gam_add (gs7_ok m H) (by kernel_rfl) (Pure.q78 (gs7_ok m H) (constants_ok _))
noncomputable def Gs9:Gam:=Gs8.add Fn.q97 (.pure F_Permute)
theorem gs9_ok(m:GvP)(H:Lib19 m):GamOK Tryz.prog (gv1 m) Gs9:=gam_add (gs8_ok m H) (by kernel_rfl) (Pure.q97 (gs8_ok m H) (Permute_ok _ rfl rfl rfl))
noncomputable def Gs10:Gam:=Gs9.add Fn.q40 (.gen F_absorb)
theorem gs10_ok(m:GvP)(H:Lib19 m):GamOK Tryz.prog (gv1 m) Gs10:=gam_add (gs9_ok m H) (by kernel_rfl) (Gen.q40 (gs9_ok m H) (absorb_ok _ rfl))
noncomputable def Gs11:Gam:=Gs10.add Fn.q47 (.gen F_Clone)
theorem gs11_ok(m:GvP)(H:Lib19 m):GamOK Tryz.prog (gv1 m) Gs11:=gam_add (gs10_ok m H) (by kernel_rfl) (Gen.q47 (gs10_ok m H) (Clone_ok _))
noncomputable def Gs12:Gam:=Gs11.add Fn.digest_New (.gen F_New)
theorem gs12_ok(m:GvP)(H:Lib19 m):GamOK Tryz.prog (gv1 m) Gs12:=gam_add (gs11_ok m H) (by kernel_rfl) (Gen.digest_New (gs11_ok m H) (New_ok _))
noncomputable def Gs13:Gam:=Gs12.add Fn.q46 (.gen F_Write)
theorem gs13_ok(m:GvP)(H:Lib19 m):GamOK Tryz.prog (gv1 m) Gs13:=gam_add (gs12_ok m H) (by kernel_rfl) (Gen.q46 (gs12_ok m H) (Write_ok _ rfl))
noncomputable def Gs14:Gam:=Gs13.add Fn.q57 (.gen F_SumM)
theorem gs14_ok(m:GvP)(H:Lib19 m):GamOK Tryz.prog (gv1 m) Gs14:=gam_add (gs13_ok m H) (by kernel_rfl) (Gen.q57 (gs13_ok m H) (Sum_ok _ rfl rfl))
noncomputable def Gs15:Gam:=Gs14.add Fn.digest_Sum (.pure F_dSum)
theorem gs15_ok(m:GvP)(H:Lib19 m):GamOK Tryz.prog (gv1 m) Gs15:=gam_add (gs14_ok m H) (by kernel_rfl) (Pure.digest_Sum (gs14_ok m H) (dSum_ok _ rfl rfl rfl))
noncomputable def Gs16:Gam:=Gs15.add Fn.q30 (.pure F_IndexS)
theorem gs16_ok(m:GvP)(H:Lib19 m):GamOK Tryz.prog (gv1 m) Gs16:=gam_add (gs15_ok m H) (by kernel_rfl) (Pure.q30 (gs15_ok m H) (indexS_ok _))
noncomputable def Gs17:Gam:=Gs16.add Fn.q25 (.pure F_ContainsS)
theorem gs17_ok(m:GvP)(H:Lib19 m):GamOK Tryz.prog (gv1 m) Gs17:=gam_add (gs16_ok m H) (by kernel_rfl) (Pure.q25 (gs16_ok m H) (containsS_ok _ rfl))
noncomputable def Gs18:Gam:=Gs17.add Fn.q20 (.gen (F_SortPD [239]))
theorem gs18_ok(m:GvP)(H:Lib19 m):GamOK Tryz.prog (gv1 m) Gs18:=gam_add (gs17_ok m H) (by kernel_rfl) (sortF_ok (gv1 m))
noncomputable def Gs19:Gam:=Gs18.add Fn.q36 (.gen (lookF F_vis))
theorem gs19_ok(m:GvP)(H:Lib19 m):GamOK Tryz.prog (gv1 m) Gs19:=gam_add (gs18_ok m H) (by kernel_rfl) (LookB.q36 (gs18_ok m H) (vis_ok rfl rfl))
noncomputable def Gs20:Gam:=Gs19.add Fn.q34 (.pure F_yes)
theorem gs20_ok(m:GvP)(H:Lib19 m):GamOK Tryz.prog (gv1 m) Gs20:=gam_add (gs19_ok m H) (by kernel_rfl) (PureB.q34 (gs19_ok m H) yes_ok)
noncomputable def Gs21:Gam:=Gs20.add Fn.q55 (.gen (F_all 226 154))
theorem gs21_ok(m:GvP)(H:Lib19 m):GamOK Tryz.prog (gv1 m) Gs21:=gam_add (gs20_ok m H) (by kernel_rfl) (GenZ.q55 (gs20_ok m H) (all_ok _ rfl rfl rfl rfl))
noncomputable def Gs22:Gam:=Gs21.add Fn.q83 (.pure F_Compare)
theorem gs22_ok(m:GvP)(H:Lib19 m):GamOK Tryz.prog (gv1 m) Gs22:=gam_add (gs21_ok m H) (by kernel_rfl) (H.cmp)
noncomputable def Gs23:Gam:=Gs22.add Fn.q104 (.pure F_bitLen)
theorem gs23_ok(m:GvP)(H:Lib19 m):GamOK Tryz.prog (gv1 m) Gs23:=gam_add (gs22_ok m H) (by kernel_rfl) (H.blen)
noncomputable def Gs24:Gam:=Gs23.add Fn.q96 (.pure F_isNaN)
theorem gs24_ok(m:GvP)(H:Lib19 m):GamOK Tryz.prog (gv1 m) Gs24:=gam_add (gs23_ok m H) (by kernel_rfl) (pure_of (by kernel_rfl) (gs23_ok m H) Tryz.func96 rfl (ks:=Ks.q96) (rs:=Rs.q96) (by kernel_rfl) (by kernel_rfl) (Ok.q96 m) (isNaN_ok))
noncomputable def Gs25:Gam:=Gs24.add Fn.q75 (.pure F_cmpI)
theorem gs25_ok(m:GvP)(H:Lib19 m):GamOK Tryz.prog (gv1 m) Gs25:=gam_add (gs24_ok m H) (by kernel_rfl) (pure_of (by kernel_rfl) (gs24_ok m H) Tryz.func55 rfl (ks:=Ks.q75) (rs:=Rs.q75) (by kernel_rfl) (by kernel_rfl) (Ok.q75 m) (cmpI_ok rfl))
noncomputable def Gs26:Gam:=Gs25.add Fn.cmp_Or_int_ (.pure F_orI)
theorem gs26_ok(m:GvP)(H:Lib19 m):GamOK Tryz.prog (gv1 m) Gs26:=gam_add (gs25_ok m H) (by kernel_rfl) (pure_of (by kernel_rfl) (gs25_ok m H) Tryz.func54 rfl (ks:=Ks.cmp_Or_int_) (rs:=Rs.cmp_Or_int_) (by kernel_rfl) (by kernel_rfl) (Ok.cmp_Or_int_ m) (orI_ok))
noncomputable def Gs27:Gam:=Gs26.add Fn.q93 (.pure F_seg)
theorem gs27_ok(m:GvP)(H:Lib19 m):GamOK Tryz.prog (gv1 m) Gs27:=gam_add (gs26_ok m H) (by kernel_rfl) (pure_of (by kernel_rfl) (gs26_ok m H) Tryz.func56 rfl (ks:=Ks.q93) (rs:=Rs.q93) (by kernel_rfl) (by kernel_rfl) (Ok.q93 m) (compare_ok rfl rfl rfl))
noncomputable def Gs28:Gam:=Gs27.add Fn.q35 (.gen (lookF F_fl1))
theorem gs28_ok(m:GvP)(H:Lib19 m):GamOK Tryz.prog (gv1 m) Gs28:=gam_add (gs27_ok m H) (by kernel_rfl) (look_of (by kernel_rfl) (gs27_ok m H) Tryz.func53 rfl (ks:=Ks.q35) (rs:=Rs.q35) (by kernel_rfl) (by kernel_rfl) (Ok.q35 m) (fl1_ok rfl rfl rfl))
noncomputable def Gs29:Gam:=Gs28.add Fn.q12 (.gen F_insFl)
theorem gs29_ok(m:GvP)(H:Lib19 m):GamOK Tryz.prog (gv1 m) Gs29:=gam_add (gs28_ok m H) (by kernel_rfl) (gen_of (by kernel_rfl) (gs28_ok m H) Tryz.func179 rfl (ks:=Ks.q12) (rs:=Rs.q12) (by kernel_rfl) (by kernel_rfl) (Ok.q12 m) (insFl_ok rfl))
noncomputable def Gs30:Gam:=Gs29.add Fn.q27 (.gen F_pdqFl)
theorem gs30_ok(m:GvP)(H:Lib19 m):GamOK Tryz.prog (gv1 m) Gs30:=gam_add (gs29_ok m H) (by kernel_rfl) (gen_of (by kernel_rfl) (gs29_ok m H) Tryz.func95 rfl (ks:=Ks.q27) (rs:=Rs.q27) (by kernel_rfl) (by kernel_rfl) (Ok.q27 m) (pdqFl_ok rfl))
noncomputable def Gs31:Gam:=Gs30.add Fn.q14 (.gen F_sortFl)
theorem gs31_ok(m:GvP)(H:Lib19 m):GamOK Tryz.prog (gv1 m) Gs31:=gam_add (gs30_ok m H) (by kernel_rfl) (gen_of (by kernel_rfl) (gs30_ok m H) Tryz.func52 rfl (ks:=Ks.q14) (rs:=Rs.q14) (by kernel_rfl) (by kernel_rfl) (Ok.q14 m) (sortFl_ok rfl rfl))
noncomputable def Gs32:Gam:=Gs31.add Fn.q18 (.gen (F_SortSp 205))
theorem gs32_ok(m:GvP)(H:Lib19 m):GamOK Tryz.prog (gv1 m) Gs32:=gam_add (gs31_ok m H) (by kernel_rfl) (sortSp_ok (gv1 m))
noncomputable def Gs33:Gam:=Gs32.add Fn.tree_part_1 (.pure F_part1)
theorem gs33_ok(m:GvP)(H:Lib19 m):GamOK Tryz.prog (gv1 m) Gs33:=gam_add (gs32_ok m H) (by kernel_rfl) (Pure.tree_part_1 (gs32_ok m H) (part1_ok _))
noncomputable def Gs34:Gam:=Gs33.add Fn.q106 (.pure F_Split)
theorem gs34_ok(m:GvP)(H:Lib19 m):GamOK Tryz.prog (gv1 m) Gs34:=gam_add (gs33_ok m H) (by kernel_rfl) (H.split)
noncomputable def Gs35:Gam:=Gs34.add Fn.q69 (.gen (lookF (F_indexFunc Gs34)))
theorem gs35_ok(m:GvP)(H:Lib19 m):GamOK Tryz.prog (gv1 m) Gs35:=gam_add (gs34_ok m H) (by kernel_rfl) (Look.q69 (gs34_ok m H) (indexFunc_ok _))
noncomputable def Gs36:Gam:=Gs35.add Fn.q68 (.gen (lookF (F_strIndexFunc Gs34)))
theorem gs36_ok(m:GvP)(H:Lib19 m):GamOK Tryz.prog (gv1 m) Gs36:=gam_add (gs35_ok m H) (by kernel_rfl) (Look.q68 (gs35_ok m H) (strIndexFunc_ok _ _ rfl))
noncomputable def Gs37:Gam:=Gs36.add Fn.q56 (.gen (lookF (F_strContainsFunc Gs34)))
theorem gs37_ok(m:GvP)(H:Lib19 m):GamOK Tryz.prog (gv1 m) Gs37:=gam_add (gs36_ok m H) (by kernel_rfl) (Look.q56 (gs36_ok m H) (strContainsFunc_ok _ _ rfl))
noncomputable def Gs38:Gam:=Gs37.add Fn.tree_part (.pure F_part)
theorem gs38_ok(m:GvP)(H:Lib19 m):GamOK Tryz.prog (gv1 m) Gs38:=gam_add (gs37_ok m H) (by kernel_rfl) (Pure.tree_part (gs37_ok m H) (part_ok _ Gs34 rfl rfl))
noncomputable def Gs39:Gam:=Gs38.add Fn.tree_Path_1 (.pure F_Path1)
theorem gs39_ok(m:GvP)(H:Lib19 m):GamOK Tryz.prog (gv1 m) Gs39:=gam_add (gs38_ok m H) (by kernel_rfl) (Pure.tree_Path_1 (gs38_ok m H) (Path1_ok _ rfl))
noncomputable def Gs40:Gam:=Gs39.add Fn.q23 (.gen (lookF (F_IndexFunc false 1 Gs39)))
theorem gs40_ok(m:GvP)(H:Lib19 m):GamOK Tryz.prog (gv1 m) Gs40:=gam_add (gs39_ok m H) (by kernel_rfl) (Look.q23 (gs39_ok m H) (idxf_ok_slices_IndexFunc___string_string_ _))
noncomputable def Gs41:Gam:=Gs40.add Fn.q16 (.gen (lookF (F_ContainsFunc false 1 Gs39)))
theorem gs41_ok(m:GvP)(H:Lib19 m):GamOK Tryz.prog (gv1 m) Gs41:=gam_add (gs40_ok m H) (by kernel_rfl) (Look.q16 (gs40_ok m H) (contf_ok_slices_ContainsFunc___string_string_ _ _ rfl))
noncomputable def Gs42:Gam:=Gs41.add Fn.tree_Path (.pure F_Path)
theorem gs42_ok(m:GvP)(H:Lib19 m):GamOK Tryz.prog (gv1 m) Gs42:=gam_add (gs41_ok m H) (by kernel_rfl) (Pure.tree_Path (gs41_ok m H) (Path_ok _ Gs39 rfl rfl rfl))
noncomputable def Gs43:Gam:=Gs42.add Fn.q28 (.gen (F_GrowG 3))
theorem gs43_ok(m:GvP)(H:Lib19 m):GamOK Tryz.prog (gv1 m) Gs43:=gam_add (gs42_ok m H) (by kernel_rfl) (growG_206 (gv1 m))
noncomputable def Gs44:Gam:=Gs43.add Fn.q94 (.pure F_inside)
theorem gs44_ok(m:GvP)(H:Lib19 m):GamOK Tryz.prog (gv1 m) Gs44:=gam_add (gs43_ok m H) (by kernel_rfl) (pure_of (by kernel_rfl) (gs43_ok m H) Tryz.func67 rfl (ks:=Ks.q94) (rs:=Rs.q94) (by kernel_rfl) (by kernel_rfl) (Ok.q94 m) (inside_ok))
noncomputable def Gs45:Gam:=Gs44.add Fn.q95 (.pure F_beh)
theorem gs45_ok(m:GvP)(H:Lib19 m):GamOK Tryz.prog (gv1 m) Gs45:=gam_add (gs44_ok m H) (by kernel_rfl) (pure_of (by kernel_rfl) (gs44_ok m H) Tryz.func68 rfl (ks:=Ks.q95) (rs:=Rs.q95) (by kernel_rfl) (by kernel_rfl) (Ok.q95 m) (behind_ok))
noncomputable def Gs46:Gam:=Gs45.add Fn.q100 (.pure F_lValid)
theorem gs46_ok(m:GvP)(H:Lib19 m):GamOK Tryz.prog (gv1 m) Gs46:=gam_add (gs45_ok m H) (by kernel_rfl) (pure_of (by kernel_rfl) (gs45_ok m H) Tryz.func35 rfl (ks:=Ks.q100) (rs:=Rs.q100) (by kernel_rfl) (by kernel_rfl) (Ok.q100 m) (lValid_ok rfl rfl rfl))
noncomputable def Gs47:Gam:=Gs46.add Fn.q21 (.gen F_Concat2)
theorem gs47_ok(m:GvP)(H:Lib19 m):GamOK Tryz.prog (gv1 m) Gs47:=gam_add (gs46_ok m H) (by kernel_rfl) (gen_of (by kernel_rfl) (gs46_ok m H) Tryz.func124 rfl (ks:=Ks.q21) (rs:=Rs.q21) (by kernel_rfl) (by kernel_rfl) (Ok.q21 m) (concat_ok rfl))
noncomputable def Gs48:Gam:=Gs47.add Fn.q105 (.gen F_merge)
theorem gs48_ok(m:GvP)(H:Lib19 m):GamOK Tryz.prog (gv1 m) Gs48:=gam_add (gs47_ok m H) (by kernel_rfl) (genZL_of (by kernel_rfl) (gs47_ok m H) Tryz.func123 rfl (ks:=Ks.q105) (rs:=Rs.q105) (by kernel_rfl) (by kernel_rfl) (Ok.q105 m) (merge_ok rfl rfl))
noncomputable def Gs49:Gam:=Gs48.add Fn.q103 (.pure F_lUnion)
theorem gs49_ok(m:GvP)(H:Lib19 m):GamOK Tryz.prog (gv1 m) Gs49:=gam_add (gs48_ok m H) (by kernel_rfl) (pure_of (by kernel_rfl) (gs48_ok m H) Tryz.func65 rfl (ks:=Ks.q103) (rs:=Rs.q103) (by kernel_rfl) (by kernel_rfl) (Ok.q103 m) (lUnion_ok rfl rfl rfl))
noncomputable def Gs50:Gam:=Gs49.add Fn.q109 (.pure F_oValid)
theorem gs50_ok(m:GvP)(H:Lib19 m):GamOK Tryz.prog (gv1 m) Gs50:=gam_add (gs49_ok m H) (by kernel_rfl) (pure_of (by kernel_rfl) (gs49_ok m H) Tryz.func13 rfl (ks:=Ks.q109) (rs:=Rs.q109) (by kernel_rfl) (by kernel_rfl) (Ok.q109 m) (oValid_ok rfl))
noncomputable def Gs51:Gam:=Gs50.add Fn.q110 (.pure F_oUnion)
theorem gs51_ok(m:GvP)(H:Lib19 m):GamOK Tryz.prog (gv1 m) Gs51:=gam_add (gs50_ok m H) (by kernel_rfl) (pure_of (by kernel_rfl) (gs50_ok m H) Tryz.func31 rfl (ks:=Ks.q110) (rs:=Rs.q110) (by kernel_rfl) (by kernel_rfl) (Ok.q110 m) (oUnion_ok rfl))
noncomputable def Gs52:Gam:=Gs51.add Fn.q108 (.pure F_oUn)
theorem gs52_ok(m:GvP)(H:Lib19 m):GamOK Tryz.prog (gv1 m) Gs52:=gam_add (gs51_ok m H) (by kernel_rfl) (pure_of (by kernel_rfl) (gs51_ok m H) Tryz.func7 rfl (ks:=Ks.q108) (rs:=Rs.q108) (by kernel_rfl) (by kernel_rfl) (Ok.q108 m) (oUn_ok rfl rfl))
noncomputable def Gs53:Gam:=Gs52.add Fn.q89 (.pure F_oThr)
theorem gs53_ok(m:GvP)(H:Lib19 m):GamOK Tryz.prog (gv1 m) Gs53:=gam_add (gs52_ok m H) (by kernel_rfl) (pure_of (by kernel_rfl) (gs52_ok m H) Tryz.func9 rfl (ks:=Ks.q89) (rs:=Rs.q89) (by kernel_rfl) (by kernel_rfl) (Ok.q89 m) (oThr_ok rfl rfl))
noncomputable def Gs54:Gam:=Gs53.add Fn.origin_All (.pure F_oAll)
theorem gs54_ok(m:GvP)(H:Lib19 m):GamOK Tryz.prog (gv1 m) Gs54:=gam_add (gs53_ok m H) (by kernel_rfl) (pure_of (by kernel_rfl) (gs53_ok m H) Tryz.func11 rfl (ks:=Ks.origin_All) (rs:=Rs.origin_All) (by kernel_rfl) (by kernel_rfl) (Ok.origin_All m) (oAll_ok rfl rfl))
noncomputable def Gs55:Gam:=Gs54.add Fn.q101 (.gen (lookF F_has1))
theorem gs55_ok(m:GvP)(H:Lib19 m):GamOK Tryz.prog (gv1 m) Gs55:=gam_add (gs54_ok m H) (by kernel_rfl) (look_of (by kernel_rfl) (gs54_ok m H) Tryz.func41 rfl (ks:=Ks.q101) (rs:=Rs.q101) (by kernel_rfl) (by kernel_rfl) (Ok.q101 m) (has1_ok))
noncomputable def Gs56:Gam:=Gs55.add Fn.q15 (.gen (lookF (F_IndexFunc true 3 Gs55)))
theorem gs56_ok(m:GvP)(H:Lib19 m):GamOK Tryz.prog (gv1 m) Gs56:=gam_add (gs55_ok m H) (by kernel_rfl) (look_of (by kernel_rfl) (gs55_ok m H) Tryz.func74 rfl (ks:=Ks.q15) (rs:=Rs.q15) (by kernel_rfl) (by kernel_rfl) (Ok.q15 m) (idxf_ok_slices_IndexFunc_api_Lines_api_Span_ _))
noncomputable def Gs57:Gam:=Gs56.add Fn.q10 (.gen (lookF (F_ContainsFunc true 3 Gs55)))
theorem gs57_ok(m:GvP)(H:Lib19 m):GamOK Tryz.prog (gv1 m) Gs57:=gam_add (gs56_ok m H) (by kernel_rfl) (look_of (by kernel_rfl) (gs56_ok m H) Tryz.func42 rfl (ks:=Ks.q10) (rs:=Rs.q10) (by kernel_rfl) (by kernel_rfl) (Ok.q10 m) (contf_ok_slices_ContainsFunc_api_Lines_api_Span_ _ _ rfl))
noncomputable def Gs58:Gam:=Gs57.add Fn.lineset_Has (.pure F_lHas)
theorem gs58_ok(m:GvP)(H:Lib19 m):GamOK Tryz.prog (gv1 m) Gs58:=gam_add (gs57_ok m H) (by kernel_rfl) (pure_of (by kernel_rfl) (gs57_ok m H) Tryz.func21 rfl (ks:=Ks.lineset_Has) (rs:=Rs.lineset_Has) (by kernel_rfl) (by kernel_rfl) (Ok.lineset_Has m) (lHas_ok (G0:=Gs55) rfl rfl rfl))
noncomputable def Gs59:Gam:=Gs58.add Fn.q42 (.gen F_SortI)
theorem gs59_ok(m:GvP)(H:Lib19 m):GamOK Tryz.prog (gv1 m) Gs59:=gam_add (gs58_ok m H) (by kernel_rfl) (H.sorti)
noncomputable def Gs60:Gam:=Gs59.add Fn.q99 (.pure F_routes)
theorem gs60_ok(m:GvP)(H:Lib19 m):GamOK Tryz.prog (gv1 m) Gs60:=gam_add (gs59_ok m H) (by kernel_rfl) (pure_of (by kernel_rfl) (gs59_ok m H) Tryz.func18 rfl (ks:=Ks.q99) (rs:=Rs.q99) (by kernel_rfl) (by kernel_rfl) (Ok.q99 m) (routes_ok rfl rfl rfl))
noncomputable def Gs61:Gam:=Gs60.add Fn.q88 (.pure F_name)
theorem gs61_ok(m:GvP)(H:Lib19 m):GamOK Tryz.prog (gv1 m) Gs61:=gam_add (gs60_ok m H) (by kernel_rfl) (pure_of (by kernel_rfl) (gs60_ok m H) Tryz.func212 rfl (ks:=Ks.q88) (rs:=Rs.q88) (by kernel_rfl) (by kernel_rfl) (Ok.q88 m) (name16_ok _))
noncomputable def Gs62:Gam:=Gs61.add Fn.q86 (.pure F_refPath)
theorem gs62_ok(m:GvP)(H:Lib19 m):GamOK Tryz.prog (gv1 m) Gs62:=gam_add (gs61_ok m H) (by kernel_rfl) (pure_of (by kernel_rfl) (gs61_ok m H) Tryz.func132 rfl (ks:=Ks.q86) (rs:=Rs.q86) (by kernel_rfl) (by kernel_rfl) (Ok.q86 m) (refPath_ok _ rfl))
noncomputable def Gs63:Gam:=Gs62.add Fn.q64 (.pure F_beh)
theorem gs63_ok(m:GvP)(H:Lib19 m):GamOK Tryz.prog (gv1 m) Gs63:=gam_add (gs62_ok m H) (by kernel_rfl) (pure_of (by kernel_rfl) (gs62_ok m H) Tryz.func71 rfl (ks:=Ks.q64) (rs:=Rs.q64) (by kernel_rfl) (by kernel_rfl) (Ok.q64 m) (behindR_ok))
noncomputable def Gs64:Gam:=Gs63.add Fn.q82 (.pure F_spanO)
theorem gs64_ok(m:GvP)(H:Lib19 m):GamOK Tryz.prog (gv1 m) Gs64:=gam_add (gs63_ok m H) (by kernel_rfl) (pure_of (by kernel_rfl) (gs63_ok m H) Tryz.func70 rfl (ks:=Ks.q82) (rs:=Rs.q82) (by kernel_rfl) (by kernel_rfl) (Ok.q82 m) (span_ok rfl))
noncomputable def Gs65:Gam:=Gs64.add Fn.q74 (.pure F_lValid)
theorem gs65_ok(m:GvP)(H:Lib19 m):GamOK Tryz.prog (gv1 m) Gs65:=gam_add (gs64_ok m H) (by kernel_rfl) (pure_of (by kernel_rfl) (gs64_ok m H) Tryz.func36 rfl (ks:=Ks.q74) (rs:=Rs.q74) (by kernel_rfl) (by kernel_rfl) (Ok.q74 m) (rValid_ok rfl rfl))
noncomputable def Gs66:Gam:=Gs65.add Fn.q65 (.pure F_bef)
theorem gs66_ok(m:GvP)(H:Lib19 m):GamOK Tryz.prog (gv1 m) Gs66:=gam_add (gs65_ok m H) (by kernel_rfl) (pure_of (by kernel_rfl) (gs65_ok m H) Tryz.func207 rfl (ks:=Ks.q65) (rs:=Rs.q65) (by kernel_rfl) (by kernel_rfl) (Ok.q65 m) (before_ok))
noncomputable def Gs67:Gam:=Gs66.add Fn.q76 (.pure F_rmerge)
theorem gs67_ok(m:GvP)(H:Lib19 m):GamOK Tryz.prog (gv1 m) Gs67:=gam_add (gs66_ok m H) (by kernel_rfl) (pure_of (by kernel_rfl) (gs66_ok m H) Tryz.func126 rfl (ks:=Ks.q76) (rs:=Rs.q76) (by kernel_rfl) (by kernel_rfl) (Ok.q76 m) (rmerge_ok rfl))
noncomputable def Gs68:Gam:=Gs67.add Fn.q85 (.pure F_rList)
theorem gs68_ok(m:GvP)(H:Lib19 m):GamOK Tryz.prog (gv1 m) Gs68:=gam_add (gs67_ok m H) (by kernel_rfl) (pure_of (by kernel_rfl) (gs67_ok m H) Tryz.func127 rfl (ks:=Ks.q85) (rs:=Rs.q85) (by kernel_rfl) (by kernel_rfl) (Ok.q85 m) (rList_ok rfl))
noncomputable def Gs69:Gam:=Gs68.add Fn.q84 (.pure F_rPack)
theorem gs69_ok(m:GvP)(H:Lib19 m):GamOK Tryz.prog (gv1 m) Gs69:=gam_add (gs68_ok m H) (by kernel_rfl) (pure_of (by kernel_rfl) (gs68_ok m H) Tryz.func125 rfl (ks:=Ks.q84) (rs:=Rs.q84) (by kernel_rfl) (by kernel_rfl) (Ok.q84 m) (rPack_ok))
noncomputable def Gs70:Gam:=Gs69.add Fn.q81 (.pure F_rJoin)
theorem gs70_ok(m:GvP)(H:Lib19 m):GamOK Tryz.prog (gv1 m) Gs70:=gam_add (gs69_ok m H) (by kernel_rfl) (pure_of (by kernel_rfl) (gs69_ok m H) Tryz.func66 rfl (ks:=Ks.q81) (rs:=Rs.q81) (by kernel_rfl) (by kernel_rfl) (Ok.q81 m) (rJoin_ok rfl rfl rfl))
noncomputable def Gs71:Gam:=Gs70.add Fn.q92 (.pure F_lHas)
theorem gs71_ok(m:GvP)(H:Lib19 m):GamOK Tryz.prog (gv1 m) Gs71:=gam_add (gs70_ok m H) (by kernel_rfl) (pure_of (by kernel_rfl) (gs70_ok m H) Tryz.func39 rfl (ks:=Ks.q92) (rs:=Rs.q92) (by kernel_rfl) (by kernel_rfl) (Ok.q92 m) (rHas_ok rfl))
noncomputable def Gs72:Gam:=Gs71.add Fn.q80 (.pure F_same)
theorem gs72_ok(m:GvP)(H:Lib19 m):GamOK Tryz.prog (gv1 m) Gs72:=gam_add (gs71_ok m H) (by kernel_rfl) (pure_of (by kernel_rfl) (gs71_ok m H) Tryz.func37 rfl (ks:=Ks.q80) (rs:=Rs.q80) (by kernel_rfl) (by kernel_rfl) (Ok.q80 m) (same_ok))
noncomputable def Gs73:Gam:=Gs72.add Fn.q91 (.pure F_few)
theorem gs73_ok(m:GvP)(H:Lib19 m):GamOK Tryz.prog (gv1 m) Gs73:=gam_add (gs72_ok m H) (by kernel_rfl) (pure_of (by kernel_rfl) (gs72_ok m H) Tryz.func30 rfl (ks:=Ks.q91) (rs:=Rs.q91) (by kernel_rfl) (by kernel_rfl) (Ok.q91 m) (few_ok))
noncomputable def Gs74:Gam:=Gs73.add Fn.q79 (.pure F_rJoinO)
theorem gs74_ok(m:GvP)(H:Lib19 m):GamOK Tryz.prog (gv1 m) Gs74:=gam_add (gs73_ok m H) (by kernel_rfl) (pure_of (by kernel_rfl) (gs73_ok m H) Tryz.func32 rfl (ks:=Ks.q79) (rs:=Rs.q79) (by kernel_rfl) (by kernel_rfl) (Ok.q79 m) (rJoinO_ok rfl))
noncomputable def Gs75:Gam:=Gs74.add Fn.q73 (.pure F_rLines)
theorem gs75_ok(m:GvP)(H:Lib19 m):GamOK Tryz.prog (gv1 m) Gs75:=gam_add (gs74_ok m H) (by kernel_rfl) (pure_of (by kernel_rfl) (gs74_ok m H) Tryz.func34 rfl (ks:=Ks.q73) (rs:=Rs.q73) (by kernel_rfl) (by kernel_rfl) (Ok.q73 m) (rLines_ok rfl))
noncomputable def Gs76:Gam:=Gs75.add Fn.q63 (.pure F_rBec)
theorem gs76_ok(m:GvP)(H:Lib19 m):GamOK Tryz.prog (gv1 m) Gs76:=gam_add (gs75_ok m H) (by kernel_rfl) (pure_of (by kernel_rfl) (gs75_ok m H) Tryz.func33 rfl (ks:=Ks.q63) (rs:=Rs.q63) (by kernel_rfl) (by kernel_rfl) (Ok.q63 m) (rBec_ok rfl rfl))
noncomputable def Gs77:Gam:=Gs76.add Fn.q72 (.pure F_oValid)
theorem gs77_ok(m:GvP)(H:Lib19 m):GamOK Tryz.prog (gv1 m) Gs77:=gam_add (gs76_ok m H) (by kernel_rfl) (pure_of (by kernel_rfl) (gs76_ok m H) Tryz.func14 rfl (ks:=Ks.q72) (rs:=Rs.q72) (by kernel_rfl) (by kernel_rfl) (Ok.q72 m) (rValidO_ok rfl))
noncomputable def Gs78:Gam:=Gs77.add Fn.q71 (.pure F_oUn)
theorem gs78_ok(m:GvP)(H:Lib19 m):GamOK Tryz.prog (gv1 m) Gs78:=gam_add (gs77_ok m H) (by kernel_rfl) (pure_of (by kernel_rfl) (gs77_ok m H) Tryz.func8 rfl (ks:=Ks.q71) (rs:=Rs.q71) (by kernel_rfl) (by kernel_rfl) (Ok.q71 m) (rUnO_ok rfl rfl))
noncomputable def Gs79:Gam:=Gs78.add Fn.q60 (.pure F_oThr)
theorem gs79_ok(m:GvP)(H:Lib19 m):GamOK Tryz.prog (gv1 m) Gs79:=gam_add (gs78_ok m H) (by kernel_rfl) (pure_of (by kernel_rfl) (gs78_ok m H) Tryz.func10 rfl (ks:=Ks.q60) (rs:=Rs.q60) (by kernel_rfl) (by kernel_rfl) (Ok.q60 m) (rThr_ok rfl rfl))
noncomputable def Gs80:Gam:=Gs79.add Fn.q90 (.pure F_oAll)
theorem gs80_ok(m:GvP)(H:Lib19 m):GamOK Tryz.prog (gv1 m) Gs80:=gam_add (gs79_ok m H) (by kernel_rfl) (pure_of (by kernel_rfl) (gs79_ok m H) Tryz.func12 rfl (ks:=Ks.q90) (rs:=Rs.q90) (by kernel_rfl) (by kernel_rfl) (Ok.q90 m) (rAll_ok rfl rfl))
noncomputable def Gs81:Gam:=Gs80.add Fn.q62 (.pure F_routes)
theorem gs81_ok(m:GvP)(H:Lib19 m):GamOK Tryz.prog (gv1 m) Gs81:=gam_add (gs80_ok m H) (by kernel_rfl) (pure_of (by kernel_rfl) (gs80_ok m H) Tryz.func19 rfl (ks:=Ks.q62) (rs:=Rs.q62) (by kernel_rfl) (by kernel_rfl) (Ok.q62 m) (rRoutes_ok rfl rfl))
noncomputable def Gs82:Gam:=Gs81.add Fn.q50 (.pure F_sameO)
theorem gs82_ok(m:GvP)(H:Lib19 m):GamOK Tryz.prog (gv1 m) Gs82:=gam_add (gs81_ok m H) (by kernel_rfl) (pure_of (by kernel_rfl) (gs81_ok m H) Tryz.func15 rfl (ks:=Ks.q50) (rs:=Rs.q50) (by kernel_rfl) (by kernel_rfl) (Ok.q50 m) (sameO_ok rfl))
noncomputable def Gs83:Gam:=Gs82.add Fn.q51 (.pure F_fewO)
theorem gs83_ok(m:GvP)(H:Lib19 m):GamOK Tryz.prog (gv1 m) Gs83:=gam_add (gs82_ok m H) (by kernel_rfl) (pure_of (by kernel_rfl) (gs82_ok m H) Tryz.func6 rfl (ks:=Ks.q51) (rs:=Rs.q51) (by kernel_rfl) (by kernel_rfl) (Ok.q51 m) (fewO_ok rfl))
noncomputable def Gs84:Gam:=Gs83.add Fn.q24 (.pure F_same)
theorem gs84_ok(m:GvP)(H:Lib19 m):GamOK Tryz.prog (gv1 m) Gs84:=gam_add (gs83_ok m H) (by kernel_rfl) (pure_of (by kernel_rfl) (gs83_ok m H) Tryz.func16 rfl (ks:=Ks.q24) (rs:=Rs.q24) (by kernel_rfl) (by kernel_rfl) (Ok.q24 m) (equal_ok))
noncomputable def Gs85:Gam:=Gs84.add Fn.q38 (.pure F_eqI)
theorem gs85_ok(m:GvP)(H:Lib19 m):GamOK Tryz.prog (gv1 m) Gs85:=gam_add (gs84_ok m H) (by kernel_rfl) (pure_of (by kernel_rfl) (gs84_ok m H) Tryz.func17 rfl (ks:=Ks.q38) (rs:=Rs.q38) (by kernel_rfl) (by kernel_rfl) (Ok.q38 m) (eqI_ok))
noncomputable def Gs86:Gam:=Gs85.add Fn.q39 (.pure F_idxI)
theorem gs86_ok(m:GvP)(H:Lib19 m):GamOK Tryz.prog (gv1 m) Gs86:=gam_add (gs85_ok m H) (by kernel_rfl) (pure_of (by kernel_rfl) (gs85_ok m H) Tryz.func40 rfl (ks:=Ks.q39) (rs:=Rs.q39) (by kernel_rfl) (by kernel_rfl) (Ok.q39 m) (idxI_ok))
noncomputable def Gs87:Gam:=Gs86.add Fn.q31 (.pure F_hasI)
theorem gs87_ok(m:GvP)(H:Lib19 m):GamOK Tryz.prog (gv1 m) Gs87:=gam_add (gs86_ok m H) (by kernel_rfl) (pure_of (by kernel_rfl) (gs86_ok m H) Tryz.func20 rfl (ks:=Ks.q31) (rs:=Rs.q31) (by kernel_rfl) (by kernel_rfl) (Ok.q31 m) (hasI_ok rfl))
noncomputable def Gs88:Gam:=Gs87.add Fn.q70 (.pure F_awake)
theorem gs88_ok(m:GvP)(H:Lib19 m)(A:PureOK Tryz.prog (gv1 m) Fn.q70 F_awake):GamOK Tryz.prog (gv1 m) Gs88:=gam_add (gs87_ok m H) (by kernel_rfl) (A)
noncomputable def Gs89:Gam:=Gs88.add Fn.q49 (.pure F_sets)
theorem gs89_ok(m:GvP)(H:Lib19 m)(A:PureOK Tryz.prog (gv1 m) Fn.q70 F_awake):GamOK Tryz.prog (gv1 m) Gs89:=gam_add (gs88_ok m H A) (by kernel_rfl) (pure_of (by kernel_rfl) (gs88_ok m H A) Tryz.func3 rfl (ks:=Ks.q49) (rs:=Rs.q49) (by kernel_rfl) (by kernel_rfl) (Ok.q49 m) (sets_ok rfl rfl rfl rfl rfl rfl rfl rfl rfl rfl rfl rfl rfl rfl rfl))
noncomputable def Gs90:Gam:=Gs89.add Fn.q37 (.pure F_unions)
theorem gs90_ok(m:GvP)(H:Lib19 m)(A:PureOK Tryz.prog (gv1 m) Fn.q70 F_awake):GamOK Tryz.prog (gv1 m) Gs90:=gam_add (gs89_ok m H A) (by kernel_rfl) (pure_of (by kernel_rfl) (gs89_ok m H A) Tryz.func4 rfl (ks:=Ks.q37) (rs:=Rs.q37) (by kernel_rfl) (by kernel_rfl) (Ok.q37 m) (unions_ok rfl rfl rfl rfl rfl rfl rfl rfl rfl rfl))
end Go.Proofs.YtbfcbkjemlgnpaaGreatDoor
