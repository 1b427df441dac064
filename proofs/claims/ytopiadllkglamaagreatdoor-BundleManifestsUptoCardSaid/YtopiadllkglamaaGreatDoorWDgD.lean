/- The resolved functions are the functions of the program: manifests. The chain of contracts up to the law BundleManifests,over what the library's functions and awake are known to answer. The law Bundl -/
import Derived.Test.YtopiadllkglamaaGreatDoorWRecOk
import Derived.Test.YtopiadllkglamaaGreatDoorWDgA
import Derived.Test.YtopiadllkglamaaGreatDoorWDgC
import Derived.Test.YtopiadllkglamaaGreatDoorWRmI
import Derived.Test.YtopiadllkglamaaGreatDoorWPkC
import Derived.Test.YtopiadllkglamaaGreatDoorWRmG
import Derived.Test.YtopiadllkglamaaGreatDoorWAwA
namespace Go.Proofs.YtopiadllkglamaaGreatDoor
open Go.RowKit
theorem Ok.q68 (m : GvP) : (ze5 Tryz.prog (gv1 m) Ks.q68 Tryz.f203.ntmps [] (Tryz.f203.body.getD .skip) Dl.q68).1 = Mc.q68 := by kernel_rfl
theorem Ok.q44 (m : GvP) : (ze5 Tryz.prog (gv1 m) Ks.q44 Tryz.f204.ntmps [] (Tryz.f204.body.getD .skip) Dl.q44).1 = Mc.q44 := by kernel_rfl
theorem Ok.q36 (m : GvP) : (ze5 Tryz.prog (gv1 m) Ks.q36 Tryz.f177.ntmps [] (Tryz.f177.body.getD .skip) Dl.q36).1 = Mc.q36 := by kernel_rfl
theorem Ok.q55 (m : GvP) : (ze5 Tryz.prog (gv1 m) Ks.q55 Tryz.f176.ntmps [] (Tryz.f176.body.getD .skip) Dl.q55).1 = Mc.q55 := by kernel_rfl
theorem Ok.q39 (m : GvP) : (ze5 Tryz.prog (gv1 m) Ks.q39 Tryz.f144.ntmps [] (Tryz.f144.body.getD .skip) Dl.q39).1 = Mc.q39 := by kernel_rfl
theorem Ok.q65 (m : GvP) : (ze5 Tryz.prog (gv1 m) Ks.q65 Tryz.f118.ntmps [] (Tryz.f118.body.getD .skip) Dl.q65).1 = Mc.q65 := by kernel_rfl
theorem Ok.q64 (m : GvP) : (ze5 Tryz.prog (gv1 m) Ks.q64 Tryz.f117.ntmps [] (Tryz.f117.body.getD .skip) Dl.q64).1 = Mc.q64 := by kernel_rfl
theorem Ok.q63 (m : GvP) : (ze5 Tryz.prog (gv1 m) Ks.q63 Tryz.f77.ntmps [] (Tryz.f77.body.getD .skip) Dl.q63).1 = Mc.q63 := by kernel_rfl
theorem Ok.q48 (m : GvP) : (ze5 Tryz.prog (gv1 m) Ks.q48 Tryz.f40.ntmps [] (Tryz.f40.body.getD .skip) Dl.q48).1 = Mc.q48 := by kernel_rfl
theorem Ok.q35 (m : GvP) : (ze5 Tryz.prog (gv1 m) Ks.q35 Tryz.f16.ntmps [] (Tryz.f16.body.getD .skip) Dl.q35).1 = Mc.q35 := by kernel_rfl
theorem Ok.q37 (m : GvP) : (ze5 Tryz.prog (gv1 m) Ks.q37 Tryz.f37.ntmps [] (Tryz.f37.body.getD .skip) Dl.q37).1 = Mc.q37 := by kernel_rfl
theorem Ok.q69 (m : GvP) : (ze5 Tryz.prog (gv1 m) Ks.q69 Tryz.f35.ntmps [] (Tryz.f35.body.getD .skip) Dl.q69).1 = Mc.q69 := by kernel_rfl
theorem Ok.q61 (m : GvP) : (ze5 Tryz.prog (gv1 m) Ks.q61 Tryz.f70.ntmps [] (Tryz.f70.body.getD .skip) Dl.q61).1 = Mc.q61 := by kernel_rfl
theorem Ok.q57 (m : GvP) : (ze5 Tryz.prog (gv1 m) Ks.q57 Tryz.f15.ntmps [] (Tryz.f15.body.getD .skip) Dl.q57).1 = Mc.q57 := by kernel_rfl
theorem Ok.q19 (m : GvP) : (ze5 Tryz.prog (gv1 m) Ks.q19 Tryz.f5.ntmps [] (Tryz.f5.body.getD .skip) Dl.q19).1 = Mc.q19 := by kernel_rfl
theorem Ok.q17 (m : GvP) : (ze5 Tryz.prog (gv1 m) Ks.q17 Tryz.f112.ntmps Ow.__strings_Builder__WriteByte (Tryz.f112.body.getD .skip) Dl.q17).1 = Mc.q17 := by kernel_rfl
theorem Ok.q21 (m : GvP) : (ze5 Tryz.prog (gv1 m) Ks.q21 Tryz.f113.ntmps [] (Tryz.f113.body.getD .skip) Dl.q21).1 = Mc.q21 := by kernel_rfl
theorem Ok.q78 (m : GvP) : (ze5 Tryz.prog (gv1 m) Ks.q78 Tryz.f111.ntmps Ow.digest_Hex_1 (Tryz.f111.body.getD .skip) Dl.q78).1 = Mc.q78 := by kernel_rfl
theorem Ok.digest_Hex (m : GvP) : (ze5 Tryz.prog (gv1 m) Ks.digest_Hex Tryz.f72.ntmps Ow.digest_Hex (Tryz.f72.body.getD .skip) Dl.digest_Hex).1 = Mc.digest_Hex := by kernel_rfl
end Go.Proofs.YtopiadllkglamaaGreatDoor
namespace Go.Proofs.YtopiadllkglamaaGreatDoor
open Go.RowKit
structure Lib25 (m : GvP) : Prop where
 split : zd0 Tryz.prog (gv1 m) Fn.q70 zB5
 itoa : zd0 Tryz.prog (gv1 m) Fn.q75 zE9
 idx : zd0 Tryz.prog (gv1 m) Fn.q40 zo8
 cut : zd0 Tryz.prog (gv1 m) Fn.strings_Cut yr1
 atoi : zd0 Tryz.prog (gv1 m) Fn.q77 (zU1 181)
 hp : zd0 Tryz.prog (gv1 m) Fn.q15 zf7
 dsum : zd0 Tryz.prog (gv1 m) Fn.digest_Sum zz3
 copyc : zl3 Tryz.prog (gv1 m) Fn.q18 (zy0 [146,352])
 awake : zd0 Tryz.prog (gv1 m) Fn.q45 zR4
noncomputable def Gm0 : Gam := Gam.none
theorem wb5 (m : GvP) (_H : Lib25 m) : GamOK Tryz.prog (gv1 m) Gm0 := yo1 _
noncomputable def Gm1 : Gam := Gm0.add Fn.q70 (.pure zB5)
theorem wb4 (m : GvP) (H : Lib25 m) : GamOK Tryz.prog (gv1 m) Gm1 := za4 (wb5 m H) (by kernel_rfl) (H.split)
noncomputable def Gm2 : Gam := Gm1.add Fn.q75 (.pure zE9)
theorem wb3 (m : GvP) (H : Lib25 m) : GamOK Tryz.prog (gv1 m) Gm2 := za4 (wb4 m H) (by kernel_rfl) (H.itoa)
noncomputable def Gm3 : Gam := Gm2.add Fn.q40 (.pure zo8)
theorem wb2 (m : GvP) (H : Lib25 m) : GamOK Tryz.prog (gv1 m) Gm3 := za4 (wb3 m H) (by kernel_rfl) (H.idx)
noncomputable def Gm4 : Gam := Gm3.add Fn.strings_Cut (.pure yr1)
theorem wb1 (m : GvP) (H : Lib25 m) : GamOK Tryz.prog (gv1 m) Gm4 := za4 (wb2 m H) (by kernel_rfl) (H.cut)
noncomputable def Gm5 : Gam := Gm4.add Fn.q77 (.pure (zU1 181))
theorem wb0 (m : GvP) (H : Lib25 m) : GamOK Tryz.prog (gv1 m) Gm5 := za4 (wb1 m H) (by kernel_rfl) (H.atoi)
noncomputable def Gm6 : Gam := Gm5.add Fn.q15 (.pure zf7)
theorem xF1 (m : GvP) (H : Lib25 m) : GamOK Tryz.prog (gv1 m) Gm6 := za4 (wb0 m H) (by kernel_rfl) (H.hp)
noncomputable def Gm7 : Gam := Gm6.add Fn.q41 (.pure zf7)
theorem xF0 (m : GvP) (H : Lib25 m) : GamOK Tryz.prog (gv1 m) Gm7 := za4 (xF1 m H) (by kernel_rfl) (zc5 (by kernel_rfl) (xF1 m H) Tryz.func101 rfl (ks := Ks.q41) (rs := Rs.q41) (by kernel_rfl) (by kernel_rfl) (Ok.q41 m) (zU0 rfl))
noncomputable def Gm8 : Gam := Gm7.add Fn.tree_part_1 (.pure yq8)
theorem xE9 (m : GvP) (H : Lib25 m) : GamOK Tryz.prog (gv1 m) Gm8 := za4 (xF0 m H) (by kernel_rfl) (zc5 (by kernel_rfl) (xF0 m H) Tryz.func108 rfl (ks := Ks.tree_part_1) (rs := Rs.tree_part_1) (by kernel_rfl) (by kernel_rfl) (Ok.tree_part_1 m) (xv8 _))
noncomputable def Gm9 : Gam := Gm8.add Fn.q43 (.gen (zm2 (zv1 Gm8)))
theorem xE8 (m : GvP) (H : Lib25 m) : GamOK Tryz.prog (gv1 m) Gm9 := za4 (xE9 m H) (by kernel_rfl) (zA5 (by kernel_rfl) (xE9 m H) Tryz.func169 rfl (ks := Ks.q43) (rs := Rs.q43) (by kernel_rfl) (by kernel_rfl) (Ok.q43 m) (yx9 _))
noncomputable def Gm10 : Gam := Gm9.add Fn.q42 (.gen (zm2 (zn9 Gm8)))
theorem xl1 (m : GvP) (H : Lib25 m) : GamOK Tryz.prog (gv1 m) Gm10 := za4 (xE8 m H) (by kernel_rfl) (zA5 (by kernel_rfl) (xE8 m H) Tryz.func135 rfl (ks := Ks.q42) (rs := Rs.q42) (by kernel_rfl) (by kernel_rfl) (Ok.q42 m) (zW5 _ _ rfl))
noncomputable def Gm11 : Gam := Gm10.add Fn.q31 (.gen (zm2 (zk5 Gm8)))
theorem xl0 (m : GvP) (H : Lib25 m) : GamOK Tryz.prog (gv1 m) Gm11 := za4 (xl1 m H) (by kernel_rfl) (zA5 (by kernel_rfl) (xl1 m H) Tryz.func107 rfl (ks := Ks.q31) (rs := Rs.q31) (by kernel_rfl) (by kernel_rfl) (Ok.q31 m) (zK7 _ _ rfl))
noncomputable def Gm12 : Gam := Gm11.add Fn.tree_part (.pure xr9)
theorem xk9 (m : GvP) (H : Lib25 m) : GamOK Tryz.prog (gv1 m) Gm12 := za4 (xl0 m H) (by kernel_rfl) (zc5 (by kernel_rfl) (xl0 m H) Tryz.func68 rfl (ks := Ks.tree_part) (rs := Rs.tree_part) (by kernel_rfl) (by kernel_rfl) (Ok.tree_part m) (xJ8 _ Gm8 rfl rfl))
noncomputable def Gm13 : Gam := Gm12.add Fn.tree_Path_1 (.pure yJ9)
theorem xk8 (m : GvP) (H : Lib25 m) : GamOK Tryz.prog (gv1 m) Gm13 := za4 (xk9 m H) (by kernel_rfl) (zc5 (by kernel_rfl) (xk9 m H) Tryz.func67 rfl (ks := Ks.tree_Path_1) (rs := Rs.tree_Path_1) (by kernel_rfl) (by kernel_rfl) (Ok.tree_Path_1 m) (xC4 _ rfl))
noncomputable def Gm14 : Gam := Gm13.add Fn.q13 (.gen (zm2 (zk0 false 1 Gm13)))
theorem xk7 (m : GvP) (H : Lib25 m) : GamOK Tryz.prog (gv1 m) Gm14 := za4 (xk8 m H) (by kernel_rfl) (zA5 (by kernel_rfl) (xk8 m H) Tryz.func106 rfl (ks := Ks.q13) (rs := Rs.q13) (by kernel_rfl) (by kernel_rfl) (Ok.q13 m) (zl5 _))
noncomputable def Gm15 : Gam := Gm14.add Fn.q10 (.gen (zm2 (zf5 false 1 Gm13)))
theorem xk6 (m : GvP) (H : Lib25 m) : GamOK Tryz.prog (gv1 m) Gm15 := za4 (xk7 m H) (by kernel_rfl) (zA5 (by kernel_rfl) (xk7 m H) Tryz.func66 rfl (ks := Ks.q10) (rs := Rs.q10) (by kernel_rfl) (by kernel_rfl) (Ok.q10 m) (zk4 _ _ rfl))
noncomputable def Gm16 : Gam := Gm15.add Fn.tree_Path (.pure zz4)
theorem xk5 (m : GvP) (H : Lib25 m) : GamOK Tryz.prog (gv1 m) Gm16 := za4 (xk6 m H) (by kernel_rfl) (zc5 (by kernel_rfl) (xk6 m H) Tryz.func33 rfl (ks := Ks.tree_Path) (rs := Rs.tree_Path) (by kernel_rfl) (by kernel_rfl) (Ok.tree_Path m) (xR4 _ Gm13 rfl rfl rfl))
noncomputable def Gm17 : Gam := Gm16.add Fn.q16 (.pure zw2)
theorem xk4 (m : GvP) (H : Lib25 m) : GamOK Tryz.prog (gv1 m) Gm17 := za4 (xk5 m H) (by kernel_rfl) (zc5 (by kernel_rfl) (xk5 m H) Tryz.func104 rfl (ks := Ks.q16) (rs := Rs.q16) (by kernel_rfl) (by kernel_rfl) (Ok.q16 m) (yx8 _))
noncomputable def Gm18 : Gam := Gm17.add Fn.q14 (.pure zg9)
theorem xk3 (m : GvP) (H : Lib25 m) : GamOK Tryz.prog (gv1 m) Gm18 := za4 (xk4 m H) (by kernel_rfl) (zc5 (by kernel_rfl) (xk4 m H) Tryz.func60 rfl (ks := Ks.q14) (rs := Rs.q14) (by kernel_rfl) (by kernel_rfl) (Ok.q14 m) (zT6 _ rfl))
noncomputable def Gm19 : Gam := Gm18.add Fn.q74 (.pure zl9)
theorem xk2 (m : GvP) (H : Lib25 m) : GamOK Tryz.prog (gv1 m) Gm19 := za4 (xk3 m H) (by kernel_rfl) (zc5 (by kernel_rfl) (xk3 m H) Tryz.func34 rfl (ks := Ks.q74) (rs := Rs.q74) (by kernel_rfl) (by kernel_rfl) (Ok.q74 m) (xn6 rfl))
noncomputable def Gm20 : Gam := Gm19.add Fn.bundle_rows (.pure yC7)
theorem xk1 (m : GvP) (H : Lib25 m) : GamOK Tryz.prog (gv1 m) Gm20 := za4 (xk2 m H) (by kernel_rfl) (zc5 (by kernel_rfl) (xk2 m H) Tryz.func26 rfl (ks := Ks.bundle_rows) (rs := Rs.bundle_rows) (by kernel_rfl) (by kernel_rfl) (Ok.bundle_rows m) (xJ1 rfl rfl rfl))
noncomputable def Gm21 : Gam := Gm20.add Fn.bundle_file (.pure zR2)
theorem xk0 (m : GvP) (H : Lib25 m) : GamOK Tryz.prog (gv1 m) Gm21 := za4 (xk1 m H) (by kernel_rfl) (zc5 (by kernel_rfl) (xk1 m H) Tryz.func41 rfl (ks := Ks.bundle_file) (rs := Rs.bundle_file) (by kernel_rfl) (by kernel_rfl) (Ok.bundle_file m) (xx1 (T := 181) rfl rfl rfl rfl))
noncomputable def Gm22 : Gam := Gm21.add Fn.bundle_Read (.pure yb6)
theorem xj9 (m : GvP) (H : Lib25 m) : GamOK Tryz.prog (gv1 m) Gm22 := za4 (xk0 m H) (by kernel_rfl) (zc5 (by kernel_rfl) (xk0 m H) Tryz.func17 rfl (ks := Ks.bundle_Read) (rs := Rs.bundle_Read) (by kernel_rfl) (by kernel_rfl) (Ok.bundle_Read m) (xR3 rfl rfl rfl rfl))
noncomputable def Gm23 : Gam := Gm22.add Fn.tree_below (.pure zs9)
theorem xj8 (m : GvP) (H : Lib25 m) : GamOK Tryz.prog (gv1 m) Gm23 := za4 (xj9 m H) (by kernel_rfl) (zc5 (by kernel_rfl) (xj9 m H) Tryz.func57 rfl (ks := Ks.tree_below) (rs := Rs.tree_below) (by kernel_rfl) (by kernel_rfl) (Ok.tree_below m) (xB1 rfl))
noncomputable def Gm24 : Gam := Gm23.add Fn.q76 (.gen (zm2 yj5))
theorem xj7 (m : GvP) (H : Lib25 m) : GamOK Tryz.prog (gv1 m) Gm24 := za4 (xj8 m H) (by kernel_rfl) (zA5 (by kernel_rfl) (xj8 m H) Tryz.func56 rfl (ks := Ks.q76) (rs := Rs.q76) (by kernel_rfl) (by kernel_rfl) (Ok.q76 m) (xO3 rfl))
noncomputable def Gm25 : Gam := Gm24.add Fn.q11 (.gen (zm2 (zk0 true 2 Gm24)))
theorem xj6 (m : GvP) (H : Lib25 m) : GamOK Tryz.prog (gv1 m) Gm25 := za4 (xj7 m H) (by kernel_rfl) (zA5 (by kernel_rfl) (xj7 m H) Tryz.func88 rfl (ks := Ks.q11) (rs := Rs.q11) (by kernel_rfl) (by kernel_rfl) (Ok.q11 m) (zl0 _))
noncomputable def Gm26 : Gam := Gm25.add Fn.q9 (.gen (zm2 (zf5 true 2 Gm24)))
theorem xj5 (m : GvP) (H : Lib25 m) : GamOK Tryz.prog (gv1 m) Gm26 := za4 (xj6 m H) (by kernel_rfl) (zA5 (by kernel_rfl) (xj6 m H) Tryz.func46 rfl (ks := Ks.q9) (rs := Rs.q9) (by kernel_rfl) (by kernel_rfl) (Ok.q9 m) (zj8 _ _ rfl))
noncomputable def Gm27 : Gam := Gm26.add Fn.tree_Check (.pure zj9)
theorem xM6 (m : GvP) (H : Lib25 m) : GamOK Tryz.prog (gv1 m) Gm27 := za4 (xj5 m H) (by kernel_rfl) (zc5 (by kernel_rfl) (xj5 m H) Tryz.func25 rfl (ks := Ks.tree_Check) (rs := Rs.tree_Check) (by kernel_rfl) (by kernel_rfl) (Ok.tree_Check m) (ys3 (G0 := Gm24) rfl rfl rfl))
noncomputable def Gm28 : Gam := Gm27.add Fn.digest_Sum (.pure zz3)
theorem xM5 (m : GvP) (H : Lib25 m) : GamOK Tryz.prog (gv1 m) Gm28 := za4 (xM6 m H) (by kernel_rfl) (H.dsum)
noncomputable def Gm29 : Gam := Gm28.add Fn.q18 (.gen (zy0 [146,352]))
theorem xj4 (m : GvP) (H : Lib25 m) : GamOK Tryz.prog (gv1 m) Gm29 := za4 (xM5 m H) (by kernel_rfl) (H.copyc)
noncomputable def Gm30 : Gam := Gm29.add Fn.q17 (.gen (zv2 146 5))
theorem xj3 (m : GvP) (H : Lib25 m) : GamOK Tryz.prog (gv1 m) Gm30 := za4 (xj4 m H) (by kernel_rfl) (zH5 (by kernel_rfl) (xj4 m H) Tryz.func112 rfl (ks := Ks.q17) (rs := Rs.q17) (by kernel_rfl) (by kernel_rfl) (Ok.q17 m) (yB3 rfl))
noncomputable def Gm31 : Gam := Gm30.add Fn.q21 (.gen (zG3 5))
theorem xj2 (m : GvP) (H : Lib25 m) : GamOK Tryz.prog (gv1 m) Gm31 := za4 (xj3 m H) (by kernel_rfl) (zH5 (by kernel_rfl) (xj3 m H) Tryz.func113 rfl (ks := Ks.q21) (rs := Rs.q21) (by kernel_rfl) (by kernel_rfl) (Ok.q21 m) (xr4))
noncomputable def Gm32 : Gam := Gm31.add Fn.q78 (.gen yb8)
theorem xj1 (m : GvP) (H : Lib25 m) : GamOK Tryz.prog (gv1 m) Gm32 := za4 (xj2 m H) (by kernel_rfl) (zH5 (by kernel_rfl) (xj2 m H) Tryz.func111 rfl (ks := Ks.q78) (rs := Rs.q78) (by kernel_rfl) (by kernel_rfl) (Ok.q78 m) (xR7 rfl))
noncomputable def Gm33 : Gam := Gm32.add Fn.digest_Hex (.pure yd0)
theorem xj0 (m : GvP) (H : Lib25 m) : GamOK Tryz.prog (gv1 m) Gm33 := za4 (xj1 m H) (by kernel_rfl) (zc5 (by kernel_rfl) (xj1 m H) Tryz.func72 rfl (ks := Ks.digest_Hex) (rs := Rs.digest_Hex) (by kernel_rfl) (by kernel_rfl) (Ok.digest_Hex m) (wf8 rfl rfl))
noncomputable def Gm34 : Gam := Gm33.add Fn.q37 (.pure zB4)
theorem xi9 (m : GvP) (H : Lib25 m) : GamOK Tryz.prog (gv1 m) Gm34 := za4 (xj0 m H) (by kernel_rfl) (zc5 (by kernel_rfl) (xj0 m H) Tryz.func37 rfl (ks := Ks.q37) (rs := Rs.q37) (by kernel_rfl) (by kernel_rfl) (Ok.q37 m) (xy8 rfl rfl))
noncomputable def Gm35 : Gam := Gm34.add Fn.q69 (.gen zV7)
theorem xi8 (m : GvP) (H : Lib25 m) : GamOK Tryz.prog (gv1 m) Gm35 := za4 (xi9 m H) (by kernel_rfl) (zH5 (by kernel_rfl) (xi9 m H) Tryz.func35 rfl (ks := Ks.q69) (rs := Rs.q69) (by kernel_rfl) (by kernel_rfl) (Ok.q69 m) (xe4 _))
noncomputable def Gm36 : Gam := Gm35.add Fn.q61 (.iter F_It)
theorem xi7 (m : GvP) (H : Lib25 m) : GamOK Tryz.prog (gv1 m) Gm36 := za4 (xi8 m H) (by kernel_rfl) (it_of (by kernel_rfl) (xi8 m H) Tryz.func70 rfl (ks := Ks.q61) (by kernel_rfl) (by kernel_rfl) (Ok.q61 m) (It_ok _))
noncomputable def Gm37 : Gam := Gm36.add Fn.q57 (.pure yc9)
theorem xi6 (m : GvP) (H : Lib25 m) : GamOK Tryz.prog (gv1 m) Gm37 := za4 (xi7 m H) (by kernel_rfl) (zc5 (by kernel_rfl) (xi7 m H) Tryz.func15 rfl (ks := Ks.q57) (rs := Rs.q57) (by kernel_rfl) (by kernel_rfl) (Ok.q57 m) (xZ3 rfl rfl rfl rfl rfl rfl rfl))
noncomputable def Gm38 : Gam := Gm37.add Fn.q49 (.pure zs9)
theorem xi5 (m : GvP) (H : Lib25 m) : GamOK Tryz.prog (gv1 m) Gm38 := za4 (xi6 m H) (by kernel_rfl) (zc5 (by kernel_rfl) (xi6 m H) Tryz.func63 rfl (ks := Ks.q49) (rs := Rs.q49) (by kernel_rfl) (by kernel_rfl) (Ok.q49 m) (xD1))
noncomputable def Gm39 : Gam := Gm38.add Fn.q60 (.pure yR2)
theorem xi4 (m : GvP) (H : Lib25 m) : GamOK Tryz.prog (gv1 m) Gm39 := za4 (xi5 m H) (by kernel_rfl) (zc5 (by kernel_rfl) (xi5 m H) Tryz.func52 rfl (ks := Ks.q60) (rs := Rs.q60) (by kernel_rfl) (by kernel_rfl) (Ok.q60 m) (xK4 _))
noncomputable def Gm40 : Gam := Gm39.add Fn.q50 (.pure zE8)
theorem xi3 (m : GvP) (H : Lib25 m) : GamOK Tryz.prog (gv1 m) Gm40 := za4 (xi4 m H) (by kernel_rfl) (zc5 (by kernel_rfl) (xi4 m H) Tryz.func74 rfl (ks := Ks.q50) (rs := Rs.q50) (by kernel_rfl) (by kernel_rfl) (Ok.q50 m) (yX9))
noncomputable def Gm41 : Gam := Gm40.add Fn.q58 (.pure zz4)
theorem xi2 (m : GvP) (H : Lib25 m) : GamOK Tryz.prog (gv1 m) Gm41 := za4 (xi3 m H) (by kernel_rfl) (zc5 (by kernel_rfl) (xi3 m H) Tryz.func38 rfl (ks := Ks.q58) (rs := Rs.q58) (by kernel_rfl) (by kernel_rfl) (Ok.q58 m) (xr5 rfl rfl))
noncomputable def Gm42 : Gam := Gm41.add Fn.q46 (.pure zj9)
theorem xi1 (m : GvP) (H : Lib25 m) : GamOK Tryz.prog (gv1 m) Gm42 := za4 (xi2 m H) (by kernel_rfl) (zc5 (by kernel_rfl) (xi2 m H) Tryz.func30 rfl (ks := Ks.q46) (rs := Rs.q46) (by kernel_rfl) (by kernel_rfl) (Ok.q46 m) (yc0 rfl rfl))
noncomputable def Gm43 : Gam := Gm42.add Fn.q51 (.pure zR3)
theorem xi0 (m : GvP) (H : Lib25 m) : GamOK Tryz.prog (gv1 m) Gm43 := za4 (xi1 m H) (by kernel_rfl) (zc5 (by kernel_rfl) (xi1 m H) Tryz.func75 rfl (ks := Ks.q51) (rs := Rs.q51) (by kernel_rfl) (by kernel_rfl) (Ok.q51 m) (xz7))
noncomputable def Gm44 : Gam := Gm43.add Fn.q47 (.pure zl9)
theorem xh9 (m : GvP) (H : Lib25 m) : GamOK Tryz.prog (gv1 m) Gm44 := za4 (xi0 m H) (by kernel_rfl) (zc5 (by kernel_rfl) (xi0 m H) Tryz.func39 rfl (ks := Ks.q47) (rs := Rs.q47) (by kernel_rfl) (by kernel_rfl) (Ok.q47 m) (xA7 rfl))
noncomputable def Gm45 : Gam := Gm44.add Fn.q68 (.pure yj4)
theorem xh8 (m : GvP) (H : Lib25 m) : GamOK Tryz.prog (gv1 m) Gm45 := za4 (xh9 m H) (by kernel_rfl) (zc5 (by kernel_rfl) (xh9 m H) Tryz.func203 rfl (ks := Ks.q68) (rs := Rs.q68) (by kernel_rfl) (by kernel_rfl) (Ok.q68 m) (xJ3))
noncomputable def Gm46 : Gam := Gm45.add Fn.q44 (.pure zE7)
theorem xh7 (m : GvP) (H : Lib25 m) : GamOK Tryz.prog (gv1 m) Gm46 := za4 (xh8 m H) (by kernel_rfl) (zc5 (by kernel_rfl) (xh8 m H) Tryz.func204 rfl (ks := Ks.q44) (rs := Rs.q44) (by kernel_rfl) (by kernel_rfl) (Ok.q44 m) (xw4))
noncomputable def Gm47 : Gam := Gm46.add Fn.q36 (.pure zN4)
theorem xh6 (m : GvP) (H : Lib25 m) : GamOK Tryz.prog (gv1 m) Gm47 := za4 (xh7 m H) (by kernel_rfl) (zc5 (by kernel_rfl) (xh7 m H) Tryz.func177 rfl (ks := Ks.q36) (rs := Rs.q36) (by kernel_rfl) (by kernel_rfl) (Ok.q36 m) (xo0))
noncomputable def Gm48 : Gam := Gm47.add Fn.q55 (.pure yq6)
theorem xh5 (m : GvP) (H : Lib25 m) : GamOK Tryz.prog (gv1 m) Gm48 := za4 (xh6 m H) (by kernel_rfl) (zc5 (by kernel_rfl) (xh6 m H) Tryz.func176 rfl (ks := Ks.q55) (rs := Rs.q55) (by kernel_rfl) (by kernel_rfl) (Ok.q55 m) (xb1 rfl rfl))
noncomputable def Gm49 : Gam := Gm48.add Fn.q39 (.pure zR1)
theorem xh4 (m : GvP) (H : Lib25 m) : GamOK Tryz.prog (gv1 m) Gm49 := za4 (xh5 m H) (by kernel_rfl) (zc5 (by kernel_rfl) (xh5 m H) Tryz.func144 rfl (ks := Ks.q39) (rs := Rs.q39) (by kernel_rfl) (by kernel_rfl) (Ok.q39 m) (xv7 rfl rfl))
noncomputable def Gm50 : Gam := Gm49.add Fn.q65 (.pure yR1)
theorem xh3 (m : GvP) (H : Lib25 m) : GamOK Tryz.prog (gv1 m) Gm50 := za4 (xh4 m H) (by kernel_rfl) (zc5 (by kernel_rfl) (xh4 m H) Tryz.func118 rfl (ks := Ks.q65) (rs := Rs.q65) (by kernel_rfl) (by kernel_rfl) (Ok.q65 m) (xI6 rfl))
noncomputable def Gm51 : Gam := Gm50.add Fn.q64 (.pure yd0)
theorem xh2 (m : GvP) (H : Lib25 m) : GamOK Tryz.prog (gv1 m) Gm51 := za4 (xh3 m H) (by kernel_rfl) (zc5 (by kernel_rfl) (xh3 m H) Tryz.func117 rfl (ks := Ks.q64) (rs := Rs.q64) (by kernel_rfl) (by kernel_rfl) (Ok.q64 m) (xR6))
noncomputable def Gm52 : Gam := Gm51.add Fn.q63 (.pure zB4)
theorem xh1 (m : GvP) (H : Lib25 m) : GamOK Tryz.prog (gv1 m) Gm52 := za4 (xh2 m H) (by kernel_rfl) (zc5 (by kernel_rfl) (xh2 m H) Tryz.func77 rfl (ks := Ks.q63) (rs := Rs.q63) (by kernel_rfl) (by kernel_rfl) (Ok.q63 m) (xf8 rfl rfl))
noncomputable def Gm53 : Gam := Gm52.add Fn.q38 (.pure (zR7 1))
theorem xh0 (m : GvP) (H : Lib25 m) : GamOK Tryz.prog (gv1 m) Gm53 := za4 (xh1 m H) (by kernel_rfl) (zc5 (by kernel_rfl) (xh1 m H) Tryz.func76 rfl (ks := Ks.q38) (rs := Rs.q38) (by kernel_rfl) (by kernel_rfl) (Ok.q38 m) (yj9 0 (by omega) (.inl rfl)))
noncomputable def Gm54 : Gam := Gm53.add Fn.q38 (.pure (zR7 2))
theorem xg9 (m : GvP) (H : Lib25 m) : GamOK Tryz.prog (gv1 m) Gm54 := za4 (xh0 m H) (by kernel_rfl) (zc5 (by kernel_rfl) (xh0 m H) Tryz.func76 rfl (ks := Ks.q38) (rs := Rs.q38) (by kernel_rfl) (by kernel_rfl) (Ok.q38 m) (yj9 1 (by omega) (.inr rfl)))
noncomputable def Gm55 : Gam := Gm54.add Fn.q38 (.pure (zR7 3))
theorem xg8 (m : GvP) (H : Lib25 m) : GamOK Tryz.prog (gv1 m) Gm55 := za4 (xg9 m H) (by kernel_rfl) (zc5 (by kernel_rfl) (xg9 m H) Tryz.func76 rfl (ks := Ks.q38) (rs := Rs.q38) (by kernel_rfl) (by kernel_rfl) (Ok.q38 m) (yj9 2 (by omega) (.inr rfl)))
noncomputable def Gm56 : Gam := Gm55.add Fn.q38 (.pure (zR7 4))
theorem xg7 (m : GvP) (H : Lib25 m) : GamOK Tryz.prog (gv1 m) Gm56 := za4 (xg8 m H) (by kernel_rfl) (zc5 (by kernel_rfl) (xg8 m H) Tryz.func76 rfl (ks := Ks.q38) (rs := Rs.q38) (by kernel_rfl) (by kernel_rfl) (Ok.q38 m) (yj9 3 (by omega) (.inr rfl)))
noncomputable def Gm57 : Gam := Gm56.add Fn.q38 (.pure (zR7 5))
theorem xg6 (m : GvP) (H : Lib25 m) : GamOK Tryz.prog (gv1 m) Gm57 := za4 (xg7 m H) (by kernel_rfl) (zc5 (by kernel_rfl) (xg7 m H) Tryz.func76 rfl (ks := Ks.q38) (rs := Rs.q38) (by kernel_rfl) (by kernel_rfl) (Ok.q38 m) (yj9 4 (by omega) (.inr rfl)))
noncomputable def Gm58 : Gam := Gm57.add Fn.q38 (.pure (zR7 6))
theorem xg5 (m : GvP) (H : Lib25 m) : GamOK Tryz.prog (gv1 m) Gm58 := za4 (xg6 m H) (by kernel_rfl) (zc5 (by kernel_rfl) (xg6 m H) Tryz.func76 rfl (ks := Ks.q38) (rs := Rs.q38) (by kernel_rfl) (by kernel_rfl) (Ok.q38 m) (yj9 5 (by omega) (.inr rfl)))
noncomputable def Gm59 : Gam := Gm58.add Fn.q48 (.pure yq9)
theorem xg4 (m : GvP) (H : Lib25 m) : GamOK Tryz.prog (gv1 m) Gm59 := za4 (xg5 m H) (by kernel_rfl) (zc5 (by kernel_rfl) (xg5 m H) Tryz.func40 rfl (ks := Ks.q48) (rs := Rs.q48) (by kernel_rfl) (by kernel_rfl) (Ok.q48 m) (xx8 rfl rfl))
noncomputable def Gm60 : Gam := Gm59.add Fn.q35 (.pure yc9)
theorem xg3 (m : GvP) (H : Lib25 m) : GamOK Tryz.prog (gv1 m) Gm60 := za4 (xg4 m H) (by kernel_rfl) (zc5 (by kernel_rfl) (xg4 m H) Tryz.func16 rfl (ks := Ks.q35) (rs := Rs.q35) (by kernel_rfl) (by kernel_rfl) (Ok.q35 m) (xK9 rfl rfl rfl rfl))
noncomputable def Gm61 : Gam := Gm60.add Fn.q62 (.pure zR6)
theorem xM4 (m : GvP) (H : Lib25 m) : GamOK Tryz.prog (gv1 m) Gm61 := za4 (xg3 m H) (by kernel_rfl) (zc5 (by kernel_rfl) (xg3 m H) Tryz.func13 rfl (ks := Ks.q62) (rs := Rs.q62) (by kernel_rfl) (by kernel_rfl) (Ok.q62 m) (xC6))
noncomputable def Gm62 : Gam := Gm61.add Fn.q45 (.pure zR4)
theorem xg2 (m : GvP) (H : Lib25 m) : GamOK Tryz.prog (gv1 m) Gm62 := za4 (xM4 m H) (by kernel_rfl) (H.awake)
noncomputable def Gm63 : Gam := Gm62.add Fn.q19 (.pure zh0)
theorem xM3 (m : GvP) (H : Lib25 m) : GamOK Tryz.prog (gv1 m) Gm63 := za4 (xg2 m H) (by kernel_rfl) (zc5 (by kernel_rfl) (xg2 m H) Tryz.func5 rfl (ks := Ks.q19) (rs := Rs.q19) (by kernel_rfl) (by kernel_rfl) (Ok.q19 m) (zN7 rfl rfl rfl rfl rfl))
end Go.Proofs.YtopiadllkglamaaGreatDoor
namespace Go.Proofs.YtopiadllkglamaaGreatDoor
open Go.RowKit
theorem lib25 (m : GvP) : Lib25 m where
 split := (lb46 m).split
 itoa := (lb46 m).itoa
 idx := yc7 (fun s c w => Tryz.strings_IndexByte s c w)
 cut := (lb46 m).cut
 atoi := (lb46 m).atoi
 hp := (lb46 m).hp
 dsum := (yI9 m (lb46 m)).ok Fn.digest_Sum (.pure zz3) (by rfl)
 copyc := yz5 (gv1 m)
 awake := xQ4 m
theorem yc4 (m : GvP) : zd0 Tryz.prog (gv1 m) Fn.q19 zh0 := (xM3 m (lib25 m)).ok Fn.q19 (.pure zh0) (by rfl)
end Go.Proofs.YtopiadllkglamaaGreatDoor
