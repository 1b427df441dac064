/- What was run,as contracts. awake of law 46: run. -/
import Derived.Test.YtopiadllkglamaaGreatDoorWKa7
import Derived.Test.YtopiadllkglamaaGreatDoorWRmB
import Derived.KernelRfl
namespace Go.Proofs.YtopiadllkglamaaGreatDoor
open Go.RowKit
noncomputable def B46d (m : GvP) : Gam := (B46c m).add Fn.build_Build (.pure yD0)
theorem xQ3 (H : ∀ m,GamOK Tryz.prog (gv1 m) (B46 m)) (m : GvP) : GamOK Tryz.prog (gv1 m) (B46d m) :=
 za4 (xq2 H m) (by kernel_rfl) (yJ7 (xq2 H) m)
end Go.Proofs.YtopiadllkglamaaGreatDoor
namespace Go.Proofs.YtopiadllkglamaaGreatDoor
open Go.RowKit
theorem xq5 (m : GvP) : at1 (genS Tryz.prog (gv1 m) fe46 2000 (B46d m) 60) Fn.q45 [] = some (.bool true) := by kernel_rfl
theorem yX4 (H : ∀ m,GamOK Tryz.prog (gv1 m) (B46 m)) (m : GvP) : zd0 Tryz.prog (gv1 m) Fn.q45 zR4 :=
 zX8 (zS0 (zq9 (by kernel_rfl) (xQ3 H m) 60) (xq5 m)) fun args r hr => by
  unfold zR4 at hr
  split at hr
  ·injection hr with hr; subst hr; rfl
  ·cases hr
end Go.Proofs.YtopiadllkglamaaGreatDoor
