/- build.Sandbox.all,visible: the resolved functions are the functions of the program. -/
import Derived.Test.YtbfcbkjemlgnpaaGreatDoorRecOk
import Derived.Test.YtbfcbkjemlgnpaaGreatDoorRmK
namespace Go.Proofs.YtbfcbkjemlgnpaaGreatDoor
open Go.RowKit
theorem Ok.q55(gv:Gv):(compC Tryz.prog gv Ks.q55 Tryz.f153.ntmps [] (Tryz.f153.body.getD .skip) Dl.q55).1=Mc.q55:=by kernel_rfl
theorem Ok.q36(gv:Gv):(compC Tryz.prog gv Ks.q36 Tryz.f226.ntmps [] (Tryz.f226.body.getD .skip) Dl.q36).1=Mc.q36:=by kernel_rfl
theorem Ok.q34(gv:Gv):(compC Tryz.prog gv Ks.q34 Tryz.f154.ntmps [] (Tryz.f154.body.getD .skip) Dl.q34).1=Mc.q34:=by kernel_rfl
theorem GenZ.q55{gv:Gv}{G:Gam}(hG:GamOK Tryz.prog gv G){F:List AV→Heap→Option (AV×Heap)}(hF:∀ args h r h',lowL h.length args=true→lowH h.length h=true→F args h=some (r,h')→wpM G Mc.q55 (genZLQ h.length Rs.q55 r h') [] (frInit Ks.q55 args) h):GenOK Tryz.prog gv Fn.q55 F:=
 genZL_of (by kernel_rfl) hG Tryz.func153 rfl (ks:=Ks.q55) (rs:=Rs.q55) (by kernel_rfl) (by kernel_rfl) (Ok.q55 gv) hF
theorem LookB.q36{gv:Gv}{G:Gam}(hG:GamOK Tryz.prog gv G){F:List AV→Heap→Option AV}(hF:∀ args h r,F args h=some r→wpM G Mc.q36 (lookQ Rs.q36 r h) [] (frInit Ks.q36 args) h):GenOK Tryz.prog gv Fn.q36 (lookF F):=
 look_of (by kernel_rfl) hG Tryz.func226 rfl (ks:=Ks.q36) (rs:=Rs.q36) (by kernel_rfl) (by kernel_rfl) (Ok.q36 gv) hF
theorem PureB.q34{gv:Gv}{G:Gam}(hG:GamOK Tryz.prog gv G){F:List AV→Option AV}(hF:∀ args r,F args=some r→wpM G Mc.q34 (pureQ Rs.q34 r) [] (frInit Ks.q34 args) []):PureOK Tryz.prog gv Fn.q34 F:=
 pure_of (by kernel_rfl) hG Tryz.func154 rfl (ks:=Ks.q34) (rs:=Rs.q34) (by kernel_rfl) (by kernel_rfl) (Ok.q34 gv) hF
end Go.Proofs.YtbfcbkjemlgnpaaGreatDoor
