/- awake of law 38: run -/
import Derived.Test.YtpefhfiehfkocaaGreatDoorOP
namespace Go.Proofs.YtpefhfiehfkocaaGreatDoor
open Go.RowKit
theorem yp6(m:GvP):at1 (fF Tryz.prog (gv1 m) cJ 2000 (zh4 m) 60) Fn.dc []=some (.bool true):=by kernel_rfl
theorem yp5(H:∀m,GamOK Tryz.prog (gv1 m) (B38 m))(m:GvP):dP Tryz.prog (gv1 m) Fn.dc wB:=zb6 (tT (fZ (by kernel_rfl) (yp8 H m) 60) (yp6 m)) fun b r a=>by
 unfold wB at a;split at a;·injection a with a;subst a;rfl
 ·cases a
end Go.Proofs.YtpefhfiehfkocaaGreatDoor
