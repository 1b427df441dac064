/- recipe.Parse at the arguments that awake hands it: run. object.Encode at the arguments that awake hands it: run. digest.Sum at the arguments that awake hands it. -/
import Derived.Test.YtopiadllkglamaaGreatDoorWKa1
import Derived.KernelRfl
import Derived.Test.YtopiadllkglamaaGreatDoorWRmJ
import Derived.Test.YtopiadllkglamaaGreatDoorWRmH
namespace Go.Proofs.YtopiadllkglamaaGreatDoor
open Go.RowKit
def yi0 : List AV := [.str [99,111,109,112,105,108,101,32,102,46,115,114,99,32,116,111,32,102,46,111,10,105,110,115,116,97,108,108,32,102,46,111,32,97,115,32,111,47,108,105,98]]
def yh9 : AV := .tup [.sl [[.int .i64 0,.int .i64 1,.sl [[.str [102,46,115,114,99]]],.sl [],.sl [],.str [102,46,111]],[.int .i64 1,.int .i64 8,.sl [[.str [102,46,111]]],.sl [],.sl [],.str [111,47,108,105,98]]],.int .i64 (-1),.int .i64 0]
theorem yq0 (m : GvP) : at1 (genS Tryz.prog (gv1 m) fe46 2000 (B46 m) 40) Fn.q79 yi0 = some yh9 := by kernel_rfl
def yh8 : List AV := [.str []]
def yh7 : AV := .tup [.sl [],.int .i64 (-1),.int .i64 0]
theorem yp9 (m : GvP) : at1 (genS Tryz.prog (gv1 m) fe46 2000 (B46 m) 40) Fn.q79 yh8 = some yh7 := by kernel_rfl
def yC8 : List AV → Option AV := F_or (zR0 yi0 yh9) (zR0 yh8 yh7)
theorem yJ4 (H : ∀ m,GamOK Tryz.prog (gv1 m) (B46 m)) (m : GvP) : zd0 Tryz.prog (gv1 m) Fn.q79 yC8 := yF5 (zS0 (zq9 (by kernel_rfl) (H m) 40) (yq0 m)) (zS0 (zq9 (by kernel_rfl) (H m) 40) (yp9 m))
end Go.Proofs.YtopiadllkglamaaGreatDoor
namespace Go.Proofs.YtopiadllkglamaaGreatDoor
open Go.RowKit
def yQ9 : List AV := [.agg [.sl [[.str [120],.int .i64 1,.int .i64 0]],.sl [[.int .i64 2,.str [7,0,0,0],.sl []]]]]
def yQ8 : AV := .tup [.str [54,58,111,98,106,101,99,116,44,49,59,49,58,120,44,49,59,49,59,49,59,50,59,52,58,7,0,0,0,44,48,59],.int .i64 0]
theorem yJ5 (m : GvP) : at1 (genS Tryz.prog (gv1 m) fe46 2000 (B46 m) 40) Fn.q72 yQ9 = some yQ8 := by kernel_rfl
def xs2 : List AV → Option AV := zR0 yQ9 yQ8
theorem xr7 (H : ∀ m,GamOK Tryz.prog (gv1 m) (B46 m)) (m : GvP) : zd0 Tryz.prog (gv1 m) Fn.q72 xs2 := zS0 (zq9 (by kernel_rfl) (H m) 40) (yJ5 m)
end Go.Proofs.YtopiadllkglamaaGreatDoor
namespace Go.Proofs.YtopiadllkglamaaGreatDoor
open Go.RowKit
def yQ7 : List AV := [.str [101,120,112,111,114,116,32,100,97,116,97,32,120,32,49,10,55]]
def yQ6 : AV := .str [236,83,164,27,73,128,126,229,40,204,110,83,231,148,2,9,42,48,200,241,229,117,45,65,154,61,212,202,137,221,87,112]
theorem yJ3 : zz3 yQ7 = some yQ6 := by kernel_rfl
def yQ5 : List AV := [.str [54,58,111,98,106,101,99,116,44,49,59,49,58,120,44,49,59,49,59,49,59,50,59,52,58,7,0,0,0,44,48,59]]
def yQ4 : AV := .str [23,212,108,81,44,77,118,250,82,155,182,233,134,178,110,110,181,247,36,98,48,6,178,228,150,116,10,67,5,165,177,48]
theorem yJ2 : zz3 yQ5 = some yQ4 := by kernel_rfl
theorem yK2 {P : Program} {gv : Gv} {f : FuncId} {F : List AV → Option AV} (h : zd0 P gv f F) {args0 : List AV} {r0 : AV} (h0 : F args0 = some r0) : zd0 P gv f (zR0 args0 r0) :=
 zX8 h fun args r hr => by
  unfold zR0 at hr
  split at hr
  ·rename_i he
   injection hr with hr; subst hr
   rw [zr4 _ _ he]; exact h0
  ·cases hr
def xs1 : List AV → Option AV := F_or (zR0 yQ7 yQ6) (zR0 yQ5 yQ4)
theorem xr6 {P : Program} {gv : Gv} {f : FuncId} (h : zd0 P gv f zz3) : zd0 P gv f xs1 := yF5 (yK2 h yJ3) (yK2 h yJ2)
end Go.Proofs.YtopiadllkglamaaGreatDoor
