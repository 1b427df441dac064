/- build.Sandbox.all,visible: the resolved functions are the functions of the program. -/
import Derived.Test.YtpefhfiehfkocaaGreatDoorRecOk
import Derived.Test.YtpefhfiehfkocaaGreatDoorRmK
namespace Go.Proofs.YtpefhfiehfkocaaGreatDoor
open Go.RowKit
theorem Ok.q47(gv:Gv):(compC Tryz.prog gv Ks.q47 Tryz.f74.ntmps [] (Tryz.f74.body.getD .skip) Dl.q47).1=Mc.q47:=by kernel_rfl
theorem Ok.q38(gv:Gv):(compC Tryz.prog gv Ks.q38 Tryz.f112.ntmps [] (Tryz.f112.body.getD .skip) Dl.q38).1=Mc.q38:=by kernel_rfl
theorem Ok.q37(gv:Gv):(compC Tryz.prog gv Ks.q37 Tryz.f75.ntmps [] (Tryz.f75.body.getD .skip) Dl.q37).1=Mc.q37:=by kernel_rfl
theorem GenZ.q47{gv:Gv}{G:Gam}(hG:GamOK Tryz.prog gv G){F:List AV→Heap→Option (AV×Heap)}(hF:∀ args h r h',lowL h.length args=true→lowH h.length h=true→F args h=some (r,h')→wpM G Mc.q47 (genZLQ h.length Rs.q47 r h') [] (frInit Ks.q47 args) h):GenOK Tryz.prog gv Fn.q47 F:=
 genZL_of (by kernel_rfl) hG Tryz.func74 rfl (ks:=Ks.q47) (rs:=Rs.q47) (by kernel_rfl) (by kernel_rfl) (Ok.q47 gv) hF
theorem LookB.q38{gv:Gv}{G:Gam}(hG:GamOK Tryz.prog gv G){F:List AV→Heap→Option AV}(hF:∀ args h r,F args h=some r→wpM G Mc.q38 (lookQ Rs.q38 r h) [] (frInit Ks.q38 args) h):GenOK Tryz.prog gv Fn.q38 (lookF F):=
 look_of (by kernel_rfl) hG Tryz.func112 rfl (ks:=Ks.q38) (rs:=Rs.q38) (by kernel_rfl) (by kernel_rfl) (Ok.q38 gv) hF
theorem PureB.q37{gv:Gv}{G:Gam}(hG:GamOK Tryz.prog gv G){F:List AV→Option AV}(hF:∀ args r,F args=some r→wpM G Mc.q37 (pureQ Rs.q37 r) [] (frInit Ks.q37 args) []):PureOK Tryz.prog gv Fn.q37 F:=
 pure_of (by kernel_rfl) hG Tryz.func75 rfl (ks:=Ks.q37) (rs:=Rs.q37) (by kernel_rfl) (by kernel_rfl) (Ok.q37 gv) hF
end Go.Proofs.YtpefhfiehfkocaaGreatDoor
