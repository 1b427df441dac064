/- The functions that forget their own blocks. build.Sandbox.all,visible: the resolved functions are the functions of the program. -/
import Derived.Test.YtaadifodgahnjaaGreatDoorZRecOk
import Derived.Test.YtaadifodgahnjaaGreatDoorZAm8
import Derived.Test.YtaadifodgahnjaaGreatDoorZRmK
namespace Go.Proofs.YtaadifodgahnjaaGreatDoor
open Go.RowKit
theorem GenL.q68 {m : GvP} {G : Gam} (hG : GamOK Tryz.prog (gv1 m) G) {F : List AV → Heap → Option (AV × Heap)} (hF : ∀ args h r h',lowL h.length args = true → lowH h.length h = true → F args h = some (r,h') → wpM G Mc.q68 (genLQ h.length Rs.q68 r h') [] (frInit Ks.q68 args) h) : GenOK Tryz.prog (gv1 m) Fn.q68 F :=
 genL_of (by kernel_rfl) hG Tryz.func27 rfl (ks := Ks.q68) (rs := Rs.q68) (by kernel_rfl) (by kernel_rfl) (Ok.q68 m) hF
theorem GenL.q39 {m : GvP} {G : Gam} (hG : GamOK Tryz.prog (gv1 m) G) {F : List AV → Heap → Option (AV × Heap)} (hF : ∀ args h r h',lowL h.length args = true → lowH h.length h = true → F args h = some (r,h') → wpM G Mc.q39 (genLQ h.length Rs.q39 r h') [] (frInit Ks.q39 args) h) : GenOK Tryz.prog (gv1 m) Fn.q39 F :=
 genL_of (by kernel_rfl) hG Tryz.func31 rfl (ks := Ks.q39) (rs := Rs.q39) (by kernel_rfl) (by kernel_rfl) (Ok.q39 m) hF
end Go.Proofs.YtaadifodgahnjaaGreatDoor
namespace Go.Proofs.YtaadifodgahnjaaGreatDoor
open Go.RowKit
theorem Ok.q36 (gv : Gv) : (compC Tryz.prog gv Ks.q36 Tryz.f137.ntmps [] (Tryz.f137.body.getD .skip) Dl.q36).1 = Mc.q36 := by kernel_rfl
theorem Ok.q22 (gv : Gv) : (compC Tryz.prog gv Ks.q22 Tryz.f164.ntmps [] (Tryz.f164.body.getD .skip) Dl.q22).1 = Mc.q22 := by kernel_rfl
theorem Ok.q21 (gv : Gv) : (compC Tryz.prog gv Ks.q21 Tryz.f138.ntmps [] (Tryz.f138.body.getD .skip) Dl.q21).1 = Mc.q21 := by kernel_rfl
theorem GenZ.q36 {gv : Gv} {G : Gam} (hG : GamOK Tryz.prog gv G) {F : List AV → Heap → Option (AV × Heap)} (hF : ∀ args h r h',lowL h.length args = true → lowH h.length h = true → F args h = some (r,h') → wpM G Mc.q36 (genZLQ h.length Rs.q36 r h') [] (frInit Ks.q36 args) h) : GenOK Tryz.prog gv Fn.q36 F :=
 genZL_of (by kernel_rfl) hG Tryz.func137 rfl (ks := Ks.q36) (rs := Rs.q36) (by kernel_rfl) (by kernel_rfl) (Ok.q36 gv) hF
theorem LookB.q22 {gv : Gv} {G : Gam} (hG : GamOK Tryz.prog gv G) {F : List AV → Heap → Option AV} (hF : ∀ args h r,F args h = some r → wpM G Mc.q22 (lookQ Rs.q22 r h) [] (frInit Ks.q22 args) h) : GenOK Tryz.prog gv Fn.q22 (lookF F) :=
 look_of (by kernel_rfl) hG Tryz.func164 rfl (ks := Ks.q22) (rs := Rs.q22) (by kernel_rfl) (by kernel_rfl) (Ok.q22 gv) hF
theorem PureB.q21 {gv : Gv} {G : Gam} (hG : GamOK Tryz.prog gv G) {F : List AV → Option AV} (hF : ∀ args r,F args = some r → wpM G Mc.q21 (pureQ Rs.q21 r) [] (frInit Ks.q21 args) []) : PureOK Tryz.prog gv Fn.q21 F :=
 pure_of (by kernel_rfl) hG Tryz.func138 rfl (ks := Ks.q21) (rs := Rs.q21) (by kernel_rfl) (by kernel_rfl) (Ok.q21 gv) hF
end Go.Proofs.YtaadifodgahnjaaGreatDoor
