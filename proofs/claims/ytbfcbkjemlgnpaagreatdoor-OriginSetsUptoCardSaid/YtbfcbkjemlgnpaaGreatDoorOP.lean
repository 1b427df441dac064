/- awake of law 19: run. -/
import Derived.Test.YtbfcbkjemlgnpaaGreatDoorOO
import Derived.Test.YtbfcbkjemlgnpaaGreatDoorRmB
import Derived.KernelRfl
namespace Go.Proofs.YtbfcbkjemlgnpaaGreatDoor
open Go.RowKit
theorem awake_run(m:GvP):at1 (genS Tryz.prog (gv1 m) fe19 2000 (B19c m) 60) Fn.q70 []=some (.bool true):=by kernel_rfl
theorem awake_pure(H:∀ m,GamOK Tryz.prog (gv1 m) (B19 m))(m:GvP):PureOK Tryz.prog (gv1 m) Fn.q70 F_awake:=
 pure_mono (tab_ok (genS_ok (by kernel_rfl) (b19c_ok H m) 60) (awake_run m)) fun args r hr=>by
  unfold F_awake at hr;split at hr
  ·injection hr with hr; subst hr; rfl
  ·cases hr
end Go.Proofs.YtbfcbkjemlgnpaaGreatDoor
