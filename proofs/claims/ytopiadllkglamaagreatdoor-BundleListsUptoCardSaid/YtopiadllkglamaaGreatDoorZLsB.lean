/- The resolved functions are the functions of the program: lists,joins,checks of distributions. The chain of contracts up to the law BundleLists. The law BundleLists. -/
import Derived.Test.YtopiadllkglamaaGreatDoorZRecOk
import Derived.Test.YtopiadllkglamaaGreatDoorZLsA
import Derived.Test.YtopiadllkglamaaGreatDoorZJnD
import Derived.Test.YtopiadllkglamaaGreatDoorZRmN
namespace Go.Proofs.YtopiadllkglamaaGreatDoor
open Go.RowKit
theorem Ok.bundle_List (m : GvP) : (compC Tryz.prog (gv1 m) Ks.bundle_List Tryz.f8.ntmps [] (Tryz.f8.body.getD .skip) Dl.bundle_List).1 = Mc.bundle_List := by kernel_rfl
theorem Ok.q51 (m : GvP) : (compC Tryz.prog (gv1 m) Ks.q51 Tryz.f9.ntmps [1000000 + Fn.q37] (Tryz.f9.body.getD .skip) Dl.q51).1 = Mc.q51 := by kernel_rfl
theorem Ok.q37 (m : GvP) : (compC Tryz.prog (gv1 m) Ks.q37 Tryz.f24.ntmps [] (Tryz.f24.body.getD .skip) Dl.q37).1 = Mc.q37 := by kernel_rfl
end Go.Proofs.YtopiadllkglamaaGreatDoor
namespace Go.Proofs.YtopiadllkglamaaGreatDoor
open Go.RowKit
noncomputable def Gl57 : Gam := Gj50.add Fn.q16 (.gen (F_SortPD [194,22]))
theorem gl57_ok (m : GvP) (H : Lib22 m) : GamOK Tryz.prog (gv1 m) Gl57 := gam_add (gj50_ok m H) (by kernel_rfl) (sortF_ok (gv1 m))
noncomputable def Gl58 : Gam := Gl57.add Fn.bundle_List (.pure F_listS)
theorem gl58_ok (m : GvP) (H : Lib22 m) : GamOK Tryz.prog (gv1 m) Gl58 := gam_add (gl57_ok m H) (by kernel_rfl) (pure_of (by kernel_rfl) (gl57_ok m H) Tryz.func8 rfl (ks := Ks.bundle_List) (rs := Rs.bundle_List) (by kernel_rfl) (by kernel_rfl) (Ok.bundle_List m) (list_ok (gs := [194,22]) rfl rfl rfl))
noncomputable def Gl59 : Gam := Gl58.add Fn.q37 (.pure F_insT)
theorem gl59_ok (m : GvP) (H : Lib22 m) : GamOK Tryz.prog (gv1 m) Gl59 := gam_add (gl58_ok m H) (by kernel_rfl) (pure_of (by kernel_rfl) (gl58_ok m H) Tryz.func24 rfl (ks := Ks.q37) (rs := Rs.q37) (by kernel_rfl) (by kernel_rfl) (Ok.q37 m) (insert46_ok))
noncomputable def Gl60 : Gam := Gl59.add Fn.q51 (.pure F_listS)
theorem gl60_ok (m : GvP) (H : Lib22 m) : GamOK Tryz.prog (gv1 m) Gl60 := gam_add (gl59_ok m H) (by kernel_rfl) (pure_of (by kernel_rfl) (gl59_ok m H) Tryz.func9 rfl (ks := Ks.q51) (rs := Rs.q51) (by kernel_rfl) (by kernel_rfl) (Ok.q51 m) (listR_ok rfl rfl))
noncomputable def Gl61 : Gam := Gl60.add Fn.q59 (.pure F_fewD)
theorem gl61_ok (m : GvP) (H : Lib22 m) : GamOK Tryz.prog (gv1 m) Gl61 := gam_add (gl60_ok m H) (by kernel_rfl) (pure_of (by kernel_rfl) (gl60_ok m H) Tryz.func7 rfl (ks := Ks.q59) (rs := Rs.q59) (by kernel_rfl) (by kernel_rfl) (Ok.q59 m) (few46_ok rfl))
noncomputable def Gl62 : Gam := Gl61.add Fn.q28 (.pure F_BundleLists)
theorem gl62_ok (m : GvP) (H : Lib22 m) : GamOK Tryz.prog (gv1 m) Gl62 := gam_add (gl61_ok m H) (by kernel_rfl) (pure_of (by kernel_rfl) (gl61_ok m H) Tryz.func3 rfl (ks := Ks.q28) (rs := Rs.q28) (by kernel_rfl) (by kernel_rfl) (Ok.q28 m) (BundleLists_ok rfl rfl rfl rfl rfl rfl rfl))
end Go.Proofs.YtopiadllkglamaaGreatDoor
namespace Go.Proofs.YtopiadllkglamaaGreatDoor
open Go.RowKit
theorem lists_pure (m : GvP) : PureOK Tryz.prog (gv1 m) Fn.q28 F_BundleLists := (gl62_ok m (lib22 m)).ok Fn.q28 (.pure F_BundleLists) (by rfl)
end Go.Proofs.YtopiadllkglamaaGreatDoor
