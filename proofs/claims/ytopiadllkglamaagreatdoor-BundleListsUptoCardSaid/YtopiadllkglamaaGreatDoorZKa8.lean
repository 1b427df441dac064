/- What was run,as contracts. awake of law 46: run. -/
import Derived.Test.YtopiadllkglamaaGreatDoorZKa7
import Derived.Test.YtopiadllkglamaaGreatDoorZRmB
import Derived.KernelRfl
namespace Go.Proofs.YtopiadllkglamaaGreatDoor
open Go.RowKit
noncomputable def B46d (m : GvP) : Gam := (B46c m).add Fn.build_Build (.pure F_46Build)
theorem b46d_ok (H : ∀ m,GamOK Tryz.prog (gv1 m) (B46 m)) (m : GvP) : GamOK Tryz.prog (gv1 m) (B46d m) :=
 gam_add (b46c_ok H m) (by kernel_rfl) (K46Build_ok (b46c_ok H) m)
end Go.Proofs.YtopiadllkglamaaGreatDoor
namespace Go.Proofs.YtopiadllkglamaaGreatDoor
open Go.RowKit
theorem awake_run (m : GvP) : at1 (genS Tryz.prog (gv1 m) fe46 2000 (B46d m) 60) Fn.q43 [] = some (.bool true) := by kernel_rfl
theorem awake_pure (H : ∀ m,GamOK Tryz.prog (gv1 m) (B46 m)) (m : GvP) : PureOK Tryz.prog (gv1 m) Fn.q43 F_awake :=
 pure_mono (tab_ok (genS_ok (by kernel_rfl) (b46d_ok H m) 60) (awake_run m)) fun args r hr => by
  unfold F_awake at hr
  split at hr
  ·injection hr with hr; subst hr; rfl
  ·cases hr
end Go.Proofs.YtopiadllkglamaaGreatDoor
