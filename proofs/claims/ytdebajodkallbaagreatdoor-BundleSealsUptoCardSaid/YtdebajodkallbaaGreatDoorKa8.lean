/- What was run,as contracts -/
import Derived.Test.YtdebajodkallbaaGreatDoorKa7
namespace Go.Proofs.YtdebajodkallbaaGreatDoor
open Go.RowKit
noncomputable def za9(m:GvP):Gam:=(LR m).add Fn.ep (.pure zc2)
theorem yg3(H:∀m,GamOK Tryz.prog (gv1 m) (B46 m))(m:GvP):GamOK Tryz.prog (gv1 m) (za9 m):=uA (zj1 H m) (by kernel_rfl) (zZ6 (zj1 H) m)
theorem yf5(m:GvP):at1 (mQ Tryz.prog (gv1 m) qR 2000 (za9 m) 60) Fn.d8 []=some (.T):=by kernel_rfl
theorem yf4(H:∀m,GamOK Tryz.prog (gv1 m) (B46 m))(m:GvP):dW Tryz.prog (gv1 m) Fn.d8 CV:=XQ (yX (pH (by kernel_rfl) (yg3 H m) 60) (yf5 m)) fun b r a=>by
 unfold CV at a;split at a;·injection a with a;subst a;rfl
 ·cases a
end Go.Proofs.YtdebajodkallbaaGreatDoor
