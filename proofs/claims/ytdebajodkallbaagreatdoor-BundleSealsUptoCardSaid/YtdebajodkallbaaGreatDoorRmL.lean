/- build -/
import Derived.Test.YtdebajodkallbaaGreatDoorRecOk
import Derived.Test.YtdebajodkallbaaGreatDoorRmK
namespace Go.Proofs.YtdebajodkallbaaGreatDoor
open Go.RowKit
theorem Ok.ay(a:Gv):(nH Tryz.prog a Ks.ay Tryz.f189.ntmps [] (Tryz.f189.body.getD .skip) Dl.ay).1=Mc.ay:=by kernel_rfl
theorem Ok.bb(a:Gv):(nH Tryz.prog a Ks.bb Tryz.f226.ntmps [] (Tryz.f226.body.getD .skip) Dl.bb).1=Mc.bb:=by kernel_rfl
theorem Ok.bj(a:Gv):(nH Tryz.prog a Ks.bj Tryz.f190.ntmps [] (Tryz.f190.body.getD .skip) Dl.bj).1=Mc.bj:=by kernel_rfl
theorem GenZ.ay{b:Gv}{G:Gam}(e:GamOK Tryz.prog b G){F:List AV->aA->Option (AV×aA)}(d:∀a h r c,bN h.length a=true->cV h.length h=true->F a h=some (r,c)->wpM G Mc.ay (EI h.length Rs.ay r c) [] (aC Ks.ay a) h):fA Tryz.prog b Fn.ay F:=zu0 (by kernel_rfl) e Tryz.func189 rfl (ks:=Ks.ay) (rs:=Rs.ay) (by kernel_rfl) (by kernel_rfl) (Ok.ay b) d
theorem LookB.bb{a:Gv}{G:Gam}(c:GamOK Tryz.prog a G){F:List AV->aA->Option AV}(b:LW G Mc.bb Rs.bb Ks.bb F):fA Tryz.prog a Fn.bb (cJ F):=zz4 (by kernel_rfl) c Tryz.func226 rfl (ks:=Ks.bb) (rs:=Rs.bb) (by kernel_rfl) (by kernel_rfl) (Ok.bb a) b
theorem PureB.bj{a:Gv}{G:Gam}(c:GamOK Tryz.prog a G){F:List AV->Option AV}(b:PW G Mc.bj Rs.bj Ks.bj F):dW Tryz.prog a Fn.bj F:=XR (by kernel_rfl) c Tryz.func190 rfl (ks:=Ks.bj) (rs:=Rs.bj) (by kernel_rfl) (by kernel_rfl) (Ok.bj a) b
end Go.Proofs.YtdebajodkallbaaGreatDoor
