/- What was run,as contracts. build.Check at the arguments that awake hands it: run. -/
import Derived.Test.YtopiadllkglamaaGreatDoorZKa2
import Derived.Test.YtopiadllkglamaaGreatDoorZKa3
import Derived.KernelRfl
namespace Go.Proofs.YtopiadllkglamaaGreatDoor
open Go.RowKit
noncomputable def B46b1 (m : GvP) : Gam := (B46 m).add Fn.q76 (.pure F_46Parse)
theorem b46b1_ok (H : ∀ m,GamOK Tryz.prog (gv1 m) (B46 m)) (m : GvP) : GamOK Tryz.prog (gv1 m) (B46b1 m) := gam_add (H m) (by kernel_rfl) (K46Parse_ok H m)
noncomputable def B46b2 (m : GvP) : Gam := (B46b1 m).add Fn.q78 (.pure F_46Unit)
theorem b46b2_ok (H : ∀ m,GamOK Tryz.prog (gv1 m) (B46 m)) (m : GvP) : GamOK Tryz.prog (gv1 m) (B46b2 m) := gam_add (b46b1_ok H m) (by kernel_rfl) (K46Unit_ok H m)
noncomputable def B46b3 (m : GvP) : Gam := (B46b2 m).add Fn.q69 (.pure F_46Enc)
theorem b46b3_ok (H : ∀ m,GamOK Tryz.prog (gv1 m) (B46 m)) (m : GvP) : GamOK Tryz.prog (gv1 m) (B46b3 m) := gam_add (b46b2_ok H m) (by kernel_rfl) (K46Enc_ok H m)
noncomputable def B46b (m : GvP) : Gam := (B46b3 m).add Fn.digest_Sum (.pure F_46Sum)
theorem b46b_ok (H : ∀ m,GamOK Tryz.prog (gv1 m) (B46 m)) (m : GvP) : GamOK Tryz.prog (gv1 m) (B46b m) := gam_add (b46b3_ok H m) (by kernel_rfl) (K46Sum_ok ((H m).ok Fn.digest_Sum (.pure F_dSum) (by rfl)))
end Go.Proofs.YtopiadllkglamaaGreatDoor
namespace Go.Proofs.YtopiadllkglamaaGreatDoor
open Go.RowKit
def K46Check0A : List AV := [.sl [[.str [108,105,98],.str [49],.str [114],.sl [[.str [102,46,115,114,99],.str [101,120,112,111,114,116,32,100,97,116,97,32,120,32,49,10,55]],[.str [114],.str [99,111,109,112,105,108,101,32,102,46,115,114,99,32,116,111,32,102,46,111,10,105,110,115,116,97,108,108,32,102,46,111,32,97,115,32,111,47,108,105,98]],[.str [114,101,97,100,46,109,101],.str []]]],[.str [97,112,112],.str [50],.str [114],.sl [[.str [114],.str []]]]]]
def K46Check0R : AV := .int .i64 0
theorem K46Check0_run (m : GvP) : at1 (genS Tryz.prog (gv1 m) fe46 2000 (B46b m) 40) Fn.build_Check K46Check0A = some K46Check0R := by kernel_rfl
def K46Check1A : List AV := [.sl [[.str [108,105,98],.str [49],.str [114],.sl [[.str [102,46,115,114,99],.str [101,120,112,111,114,116,32,100,97,116,97,32,120,32,49,10,55]],[.str [114],.str [99,111,109,112,105,108,101,32,102,46,115,114,99,32,116,111,32,102,46,111,10,105,110,115,116,97,108,108,32,102,46,111,32,97,115,32,111,47,108,105,98]]]]]]
def K46Check1R : AV := .int .i64 0
theorem K46Check1_run (m : GvP) : at1 (genS Tryz.prog (gv1 m) fe46 2000 (B46b m) 40) Fn.build_Check K46Check1A = some K46Check1R := by kernel_rfl
def F_46Check : List AV → Option AV := F_or (F_tab K46Check0A K46Check0R) (F_tab K46Check1A K46Check1R)
theorem K46Check_ok (H : ∀ m,GamOK Tryz.prog (gv1 m) (B46b m)) (m : GvP) : PureOK Tryz.prog (gv1 m) Fn.build_Check F_46Check := or_pure (tab_ok (genS_ok (by kernel_rfl) (H m) 40) (K46Check0_run m)) (tab_ok (genS_ok (by kernel_rfl) (H m) 40) (K46Check1_run m))
end Go.Proofs.YtopiadllkglamaaGreatDoor
