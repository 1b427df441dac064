/- awake of law 38: run. -/
import Derived.Test.YtpefhfiehfkocaaGreatDoorOP
import Derived.Test.YtpefhfiehfkocaaGreatDoorRmB
import Derived.KernelRfl
namespace Go.Proofs.YtpefhfiehfkocaaGreatDoor
open Go.RowKit
theorem awake_run(m:GvP):at1 (genS Tryz.prog (gv1 m) fe38 2000 (B38pbosu m) 60) Fn.q60 []=some (.bool true):=by kernel_rfl
theorem awake_pure(H:∀ m,GamOK Tryz.prog (gv1 m) (B38 m))(m:GvP):PureOK Tryz.prog (gv1 m) Fn.q60 F_awake:=
 pure_mono (tab_ok (genS_ok (by kernel_rfl) (b38pbosu_ok H m) 60) (awake_run m)) fun args r hr=>by
  unfold F_awake at hr;split at hr
  ·injection hr with hr; subst hr; rfl
  ·cases hr
end Go.Proofs.YtpefhfiehfkocaaGreatDoor
