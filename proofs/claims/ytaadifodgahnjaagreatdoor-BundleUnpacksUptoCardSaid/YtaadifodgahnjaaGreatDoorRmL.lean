/- The functions that forget their own blocks. build.Sandbox.all,visible: the resolved functions are the functions of the program. -/
import Derived.Test.YtaadifodgahnjaaGreatDoorRecOk
import Derived.Test.YtaadifodgahnjaaGreatDoorAm8
import Derived.Test.YtaadifodgahnjaaGreatDoorRmK
namespace Go.Proofs.YtaadifodgahnjaaGreatDoor
open Go.RowKit
theorem GenL.q82 {m : GvP} {G : Gam} (hG : GamOK Tryz.prog (gv1 m) G) {F : List AV → Heap → Option (AV × Heap)} (hF : ∀ args h r h',lowL h.length args = true → lowH h.length h = true → F args h = some (r,h') → wpM G Mc.q82 (genLQ h.length Rs.q82 r h') [] (frInit Ks.q82 args) h) : GenOK Tryz.prog (gv1 m) Fn.q82 F :=
 genL_of (by kernel_rfl) hG Tryz.func27 rfl (ks := Ks.q82) (rs := Rs.q82) (by kernel_rfl) (by kernel_rfl) (Ok.q82 m) hF
theorem GenL.q47 {m : GvP} {G : Gam} (hG : GamOK Tryz.prog (gv1 m) G) {F : List AV → Heap → Option (AV × Heap)} (hF : ∀ args h r h',lowL h.length args = true → lowH h.length h = true → F args h = some (r,h') → wpM G Mc.q47 (genLQ h.length Rs.q47 r h') [] (frInit Ks.q47 args) h) : GenOK Tryz.prog (gv1 m) Fn.q47 F :=
 genL_of (by kernel_rfl) hG Tryz.func31 rfl (ks := Ks.q47) (rs := Rs.q47) (by kernel_rfl) (by kernel_rfl) (Ok.q47 m) hF
end Go.Proofs.YtaadifodgahnjaaGreatDoor
namespace Go.Proofs.YtaadifodgahnjaaGreatDoor
open Go.RowKit
theorem Ok.q43 (gv : Gv) : (compC Tryz.prog gv Ks.q43 Tryz.f137.ntmps [] (Tryz.f137.body.getD .skip) Dl.q43).1 = Mc.q43 := by kernel_rfl
theorem Ok.q27 (gv : Gv) : (compC Tryz.prog gv Ks.q27 Tryz.f164.ntmps [] (Tryz.f164.body.getD .skip) Dl.q27).1 = Mc.q27 := by kernel_rfl
theorem Ok.q25 (gv : Gv) : (compC Tryz.prog gv Ks.q25 Tryz.f138.ntmps [] (Tryz.f138.body.getD .skip) Dl.q25).1 = Mc.q25 := by kernel_rfl
theorem GenZ.q43 {gv : Gv} {G : Gam} (hG : GamOK Tryz.prog gv G) {F : List AV → Heap → Option (AV × Heap)} (hF : ∀ args h r h',lowL h.length args = true → lowH h.length h = true → F args h = some (r,h') → wpM G Mc.q43 (genZLQ h.length Rs.q43 r h') [] (frInit Ks.q43 args) h) : GenOK Tryz.prog gv Fn.q43 F :=
 genZL_of (by kernel_rfl) hG Tryz.func137 rfl (ks := Ks.q43) (rs := Rs.q43) (by kernel_rfl) (by kernel_rfl) (Ok.q43 gv) hF
theorem LookB.q27 {gv : Gv} {G : Gam} (hG : GamOK Tryz.prog gv G) {F : List AV → Heap → Option AV} (hF : ∀ args h r,F args h = some r → wpM G Mc.q27 (lookQ Rs.q27 r h) [] (frInit Ks.q27 args) h) : GenOK Tryz.prog gv Fn.q27 (lookF F) :=
 look_of (by kernel_rfl) hG Tryz.func164 rfl (ks := Ks.q27) (rs := Rs.q27) (by kernel_rfl) (by kernel_rfl) (Ok.q27 gv) hF
theorem PureB.q25 {gv : Gv} {G : Gam} (hG : GamOK Tryz.prog gv G) {F : List AV → Option AV} (hF : ∀ args r,F args = some r → wpM G Mc.q25 (pureQ Rs.q25 r) [] (frInit Ks.q25 args) []) : PureOK Tryz.prog gv Fn.q25 F :=
 pure_of (by kernel_rfl) hG Tryz.func138 rfl (ks := Ks.q25) (rs := Rs.q25) (by kernel_rfl) (by kernel_rfl) (Ok.q25 gv) hF
end Go.Proofs.YtaadifodgahnjaaGreatDoor
