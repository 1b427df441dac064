/- The chain of contracts up to the law BundleJoins. The law BundleJoins. -/
import Derived.Test.YtopiadllkglamaaGreatDoorJnD
import Derived.Test.YtopiadllkglamaaGreatDoorJnE
namespace Go.Proofs.YtopiadllkglamaaGreatDoor
open Go.RowKit
noncomputable def Gj51 : Gam := Gj50.add Fn.q49 (.pure F_Split03)
theorem gj51_ok (m : GvP) (H : Lib22 m) : GamOK Tryz.prog (gv1 m) Gj51 := gam_add (gj50_ok m H) (by kernel_rfl) (pure_of (by kernel_rfl) (gj50_ok m H) Tryz.func64 rfl (ks := Ks.q49) (rs := Rs.q49) (by kernel_rfl) (by kernel_rfl) (Ok.q49 m) (split46_ok))
noncomputable def Gj52 : Gam := Gj51.add Fn.q63 (.pure F_ContainsS)
theorem gj52_ok (m : GvP) (H : Lib22 m) : GamOK Tryz.prog (gv1 m) Gj52 := gam_add (gj51_ok m H) (by kernel_rfl) (pure_of (by kernel_rfl) (gj51_ok m H) Tryz.func65 rfl (ks := Ks.q63) (rs := Rs.q63) (by kernel_rfl) (by kernel_rfl) (Ok.q63 m) (has46_ok _))
noncomputable def Gj53 : Gam := Gj52.add Fn.q45 (.pure F_words)
theorem gj53_ok (m : GvP) (H : Lib22 m) : GamOK Tryz.prog (gv1 m) Gj53 := gam_add (gj52_ok m H) (by kernel_rfl) (pure_of (by kernel_rfl) (gj52_ok m H) Tryz.func31 rfl (ks := Ks.q45) (rs := Rs.q45) (by kernel_rfl) (by kernel_rfl) (Ok.q45 m) (words_ok rfl rfl))
noncomputable def Gj54 : Gam := Gj53.add Fn.q46 (.pure F_first)
theorem gj54_ok (m : GvP) (H : Lib22 m) : GamOK Tryz.prog (gv1 m) Gj54 := gam_add (gj53_ok m H) (by kernel_rfl) (pure_of (by kernel_rfl) (gj53_ok m H) Tryz.func32 rfl (ks := Ks.q46) (rs := Rs.q46) (by kernel_rfl) (by kernel_rfl) (Ok.q46 m) (first_ok))
noncomputable def Gj55 : Gam := Gj54.add Fn.q56 (.pure F_join)
theorem gj55_ok (m : GvP) (H : Lib22 m) : GamOK Tryz.prog (gv1 m) Gj55 := gam_add (gj54_ok m H) (by kernel_rfl) (pure_of (by kernel_rfl) (gj54_ok m H) Tryz.func14 rfl (ks := Ks.q56) (rs := Rs.q56) (by kernel_rfl) (by kernel_rfl) (Ok.q56 m) (joinR_ok rfl rfl rfl rfl))
noncomputable def Gj56 : Gam := Gj55.add Fn.q28 (.pure F_BundleJoins)
theorem gj56_ok (m : GvP) (H : Lib22 m) : GamOK Tryz.prog (gv1 m) Gj56 := gam_add (gj55_ok m H) (by kernel_rfl) (pure_of (by kernel_rfl) (gj55_ok m H) Tryz.func4 rfl (ks := Ks.q28) (rs := Rs.q28) (by kernel_rfl) (by kernel_rfl) (Ok.q28 m) (BundleJoins_ok rfl rfl rfl rfl rfl))
end Go.Proofs.YtopiadllkglamaaGreatDoor
namespace Go.Proofs.YtopiadllkglamaaGreatDoor
open Go.RowKit
theorem joins_pure (m : GvP) : PureOK Tryz.prog (gv1 m) Fn.q28 F_BundleJoins := (gj56_ok m (lib22 m)).ok Fn.q28 (.pure F_BundleJoins) (by rfl)
end Go.Proofs.YtopiadllkglamaaGreatDoor
