/- build.Sandbox.all,visible: the resolved functions are the functions of the program. -/
import Derived.Test.YtopiadllkglamaaGreatDoorWRecOk
import Derived.Test.YtopiadllkglamaaGreatDoorWRmK
namespace Go.Proofs.YtopiadllkglamaaGreatDoor
open Go.RowKit
theorem Ok.q34 (gv : Gv) : (ze5 Tryz.prog gv Ks.q34 Tryz.f157.ntmps [] (Tryz.f157.body.getD .skip) Dl.q34).1 = Mc.q34 := by kernel_rfl
theorem Ok.q23 (gv : Gv) : (ze5 Tryz.prog gv Ks.q23 Tryz.f183.ntmps [] (Tryz.f183.body.getD .skip) Dl.q23).1 = Mc.q23 := by kernel_rfl
theorem Ok.q22 (gv : Gv) : (ze5 Tryz.prog gv Ks.q22 Tryz.f158.ntmps [] (Tryz.f158.body.getD .skip) Dl.q22).1 = Mc.q22 := by kernel_rfl
theorem GenZ.q34 {gv : Gv} {G : Gam} (hG : GamOK Tryz.prog gv G) {F : List AV → Heap → Option (AV × Heap)} (hF : ∀ args h r h',lowL h.length args = true → lowH h.length h = true → F args h = some (r,h') → wpM G Mc.q34 (yg5 h.length Rs.q34 r h') [] (za2 Ks.q34 args) h) : zl3 Tryz.prog gv Fn.q34 F :=
 yO2 (by kernel_rfl) hG Tryz.func157 rfl (ks := Ks.q34) (rs := Rs.q34) (by kernel_rfl) (by kernel_rfl) (Ok.q34 gv) hF
theorem LookB.q23 {gv : Gv} {G : Gam} (hG : GamOK Tryz.prog gv G) {F : List AV → Heap → Option AV} (hF : ∀ args h r,F args h = some r → wpM G Mc.q23 (zq8 Rs.q23 r h) [] (za2 Ks.q23 args) h) : zl3 Tryz.prog gv Fn.q23 (zm2 F) :=
 zA5 (by kernel_rfl) hG Tryz.func183 rfl (ks := Ks.q23) (rs := Rs.q23) (by kernel_rfl) (by kernel_rfl) (Ok.q23 gv) hF
theorem PureB.q22 {gv : Gv} {G : Gam} (hG : GamOK Tryz.prog gv G) {F : List AV → Option AV} (hF : ∀ args r,F args = some r → wpM G Mc.q22 (zb0 Rs.q22 r) [] (za2 Ks.q22 args) []) : zd0 Tryz.prog gv Fn.q22 F :=
 zc5 (by kernel_rfl) hG Tryz.func158 rfl (ks := Ks.q22) (rs := Rs.q22) (by kernel_rfl) (by kernel_rfl) (Ok.q22 gv) hF
end Go.Proofs.YtopiadllkglamaaGreatDoor
