/- build.Sandbox.all,visible: the resolved functions are the functions of the program. -/
import Derived.Test.YtopiadllkglamaaGreatDoorZRecOk
import Derived.Test.YtopiadllkglamaaGreatDoorZRmK
namespace Go.Proofs.YtopiadllkglamaaGreatDoor
open Go.RowKit
theorem Ok.q36 (gv : Gv) : (compC Tryz.prog gv Ks.q36 Tryz.f157.ntmps [] (Tryz.f157.body.getD .skip) Dl.q36).1 = Mc.q36 := by kernel_rfl
theorem Ok.q25 (gv : Gv) : (compC Tryz.prog gv Ks.q25 Tryz.f183.ntmps [] (Tryz.f183.body.getD .skip) Dl.q25).1 = Mc.q25 := by kernel_rfl
theorem Ok.q24 (gv : Gv) : (compC Tryz.prog gv Ks.q24 Tryz.f158.ntmps [] (Tryz.f158.body.getD .skip) Dl.q24).1 = Mc.q24 := by kernel_rfl
theorem GenZ.q36 {gv : Gv} {G : Gam} (hG : GamOK Tryz.prog gv G) {F : List AV → Heap → Option (AV × Heap)} (hF : ∀ args h r h',lowL h.length args = true → lowH h.length h = true → F args h = some (r,h') → wpM G Mc.q36 (genZLQ h.length Rs.q36 r h') [] (frInit Ks.q36 args) h) : GenOK Tryz.prog gv Fn.q36 F :=
 genZL_of (by kernel_rfl) hG Tryz.func157 rfl (ks := Ks.q36) (rs := Rs.q36) (by kernel_rfl) (by kernel_rfl) (Ok.q36 gv) hF
theorem LookB.q25 {gv : Gv} {G : Gam} (hG : GamOK Tryz.prog gv G) {F : List AV → Heap → Option AV} (hF : ∀ args h r,F args h = some r → wpM G Mc.q25 (lookQ Rs.q25 r h) [] (frInit Ks.q25 args) h) : GenOK Tryz.prog gv Fn.q25 (lookF F) :=
 look_of (by kernel_rfl) hG Tryz.func183 rfl (ks := Ks.q25) (rs := Rs.q25) (by kernel_rfl) (by kernel_rfl) (Ok.q25 gv) hF
theorem PureB.q24 {gv : Gv} {G : Gam} (hG : GamOK Tryz.prog gv G) {F : List AV → Option AV} (hF : ∀ args r,F args = some r → wpM G Mc.q24 (pureQ Rs.q24 r) [] (frInit Ks.q24 args) []) : PureOK Tryz.prog gv Fn.q24 F :=
 pure_of (by kernel_rfl) hG Tryz.func158 rfl (ks := Ks.q24) (rs := Rs.q24) (by kernel_rfl) (by kernel_rfl) (Ok.q24 gv) hF
end Go.Proofs.YtopiadllkglamaaGreatDoor
