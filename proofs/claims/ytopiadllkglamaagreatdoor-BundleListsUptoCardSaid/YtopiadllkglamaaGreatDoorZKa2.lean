/- recipe.Parse at the arguments that awake hands it: run. object.Encode at the arguments that awake hands it: run. digest.Sum at the arguments that awake hands it. -/
import Derived.Test.YtopiadllkglamaaGreatDoorZKa1
import Derived.KernelRfl
import Derived.Test.YtopiadllkglamaaGreatDoorZRmJ
import Derived.Test.YtopiadllkglamaaGreatDoorZRmH
namespace Go.Proofs.YtopiadllkglamaaGreatDoor
open Go.RowKit
def K46Parse0A : List AV := [.str [99,111,109,112,105,108,101,32,102,46,115,114,99,32,116,111,32,102,46,111,10,105,110,115,116,97,108,108,32,102,46,111,32,97,115,32,111,47,108,105,98]]
def K46Parse0R : AV := .tup [.sl [[.int .i64 0,.int .i64 1,.sl [[.str [102,46,115,114,99]]],.sl [],.sl [],.str [102,46,111]],[.int .i64 1,.int .i64 8,.sl [[.str [102,46,111]]],.sl [],.sl [],.str [111,47,108,105,98]]],.int .i64 (-1),.int .i64 0]
theorem K46Parse0_run (m : GvP) : at1 (genS Tryz.prog (gv1 m) fe46 2000 (B46 m) 40) Fn.q76 K46Parse0A = some K46Parse0R := by kernel_rfl
def K46Parse1A : List AV := [.str []]
def K46Parse1R : AV := .tup [.sl [],.int .i64 (-1),.int .i64 0]
theorem K46Parse1_run (m : GvP) : at1 (genS Tryz.prog (gv1 m) fe46 2000 (B46 m) 40) Fn.q76 K46Parse1A = some K46Parse1R := by kernel_rfl
def F_46Parse : List AV → Option AV := F_or (F_tab K46Parse0A K46Parse0R) (F_tab K46Parse1A K46Parse1R)
theorem K46Parse_ok (H : ∀ m,GamOK Tryz.prog (gv1 m) (B46 m)) (m : GvP) : PureOK Tryz.prog (gv1 m) Fn.q76 F_46Parse := or_pure (tab_ok (genS_ok (by kernel_rfl) (H m) 40) (K46Parse0_run m)) (tab_ok (genS_ok (by kernel_rfl) (H m) 40) (K46Parse1_run m))
end Go.Proofs.YtopiadllkglamaaGreatDoor
namespace Go.Proofs.YtopiadllkglamaaGreatDoor
open Go.RowKit
def K46Enc0A : List AV := [.agg [.sl [[.str [120],.int .i64 1,.int .i64 0]],.sl [[.int .i64 2,.str [7,0,0,0],.sl []]]]]
def K46Enc0R : AV := .tup [.str [54,58,111,98,106,101,99,116,44,49,59,49,58,120,44,49,59,49,59,49,59,50,59,52,58,7,0,0,0,44,48,59],.int .i64 0]
theorem K46Enc0_run (m : GvP) : at1 (genS Tryz.prog (gv1 m) fe46 2000 (B46 m) 40) Fn.q69 K46Enc0A = some K46Enc0R := by kernel_rfl
def F_46Enc : List AV → Option AV := F_tab K46Enc0A K46Enc0R
theorem K46Enc_ok (H : ∀ m,GamOK Tryz.prog (gv1 m) (B46 m)) (m : GvP) : PureOK Tryz.prog (gv1 m) Fn.q69 F_46Enc := tab_ok (genS_ok (by kernel_rfl) (H m) 40) (K46Enc0_run m)
end Go.Proofs.YtopiadllkglamaaGreatDoor
namespace Go.Proofs.YtopiadllkglamaaGreatDoor
open Go.RowKit
def K46Sum0A : List AV := [.str [101,120,112,111,114,116,32,100,97,116,97,32,120,32,49,10,55]]
def K46Sum0R : AV := .str [236,83,164,27,73,128,126,229,40,204,110,83,231,148,2,9,42,48,200,241,229,117,45,65,154,61,212,202,137,221,87,112]
theorem K46Sum0_run : F_dSum K46Sum0A = some K46Sum0R := by kernel_rfl
def K46Sum1A : List AV := [.str [54,58,111,98,106,101,99,116,44,49,59,49,58,120,44,49,59,49,59,49,59,50,59,52,58,7,0,0,0,44,48,59]]
def K46Sum1R : AV := .str [23,212,108,81,44,77,118,250,82,155,182,233,134,178,110,110,181,247,36,98,48,6,178,228,150,116,10,67,5,165,177,48]
theorem K46Sum1_run : F_dSum K46Sum1A = some K46Sum1R := by kernel_rfl
theorem tab_mono {P : Program} {gv : Gv} {f : FuncId} {F : List AV → Option AV} (h : PureOK P gv f F) {args0 : List AV} {r0 : AV} (h0 : F args0 = some r0) : PureOK P gv f (F_tab args0 r0) :=
 pure_mono h fun args r hr => by
  unfold F_tab at hr
  split at hr
  ·rename_i he
   injection hr with hr; subst hr
   rw [avEqL_eq _ _ he]; exact h0
  ·cases hr
def F_46Sum : List AV → Option AV := F_or (F_tab K46Sum0A K46Sum0R) (F_tab K46Sum1A K46Sum1R)
theorem K46Sum_ok {P : Program} {gv : Gv} {f : FuncId} (h : PureOK P gv f F_dSum) : PureOK P gv f F_46Sum := or_pure (tab_mono h K46Sum0_run) (tab_mono h K46Sum1_run)
end Go.Proofs.YtopiadllkglamaaGreatDoor
