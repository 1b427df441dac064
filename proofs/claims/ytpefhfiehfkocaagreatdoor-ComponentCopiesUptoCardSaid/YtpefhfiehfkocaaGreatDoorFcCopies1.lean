/- The closed facts of the row of Compone -/
import Derived.Test.YtpefhfiehfkocaaGreatDoorFcCopies2
import Derived.Test.YtpefhfiehfkocaaGreatDoorLaO
namespace Go.Proofs.YtpefhfiehfkocaaGreatDoor
section
namespace copies
open Go
set_option maxRecDepth 100000
theorem k0:Rows.componentCopiesUptoRow.wf (OpenSpec.ofChange (Rows.OpenSpec.upto Rows.componentCopiesSpec).bare)=true:=by kernel_rfl
theorem k1:laidOutB Tryz.prog=true:=yW6
theorem k2:mapsRowed Tryz.prog=true:=by kernel_rfl
theorem k3:Tryz.f4.params.all (Tryz.prog.readableRec ·)=true:=by kernel_rfl
theorem k4:namedTie Tryz.prog Rows.componentCopiesUptoRow.named (Rows.OpenSpec.upto Rows.componentCopiesSpec).bare.vars=true:=by kernel_rfl
theorem k5:(Rows.componentCopiesUptoRow.stops==[])=true:=by kernel_rfl
theorem k6:(Tryz.prog.stops==[])=true:=by kernel_rfl
theorem k7:(Rows.componentCopiesUptoRow.knobs==[])=true:=by kernel_rfl
theorem k8:(Tryz.prog.stopKnobs==[])=true:=by kernel_rfl
theorem k9:(Rows.componentCopiesUptoRow.inPlace==Tryz.prog.inPlace 4)=true:=by
 unfold Program.inPlace;rw[TA];kernel_rfl
theorem k10:(Rows.componentCopiesUptoRow.unfollowed==Tryz.prog.unfollowed 4)=true:=by
 unfold Program.unfollowed;rw[TA];kernel_rfl
theorem k11:(Rows.componentCopiesUptoRow.recurses==Tryz.prog.recurses 4)=true:=by
 unfold Program.recurses Program.unfollowed;rw[TA];kernel_rfl
theorem k12:(Rows.componentCopiesUptoRow.named==Tryz.prog.varsNamed 4)=true:=by
 unfold Program.varsNamed;rw[TA];kernel_rfl
end copies
end
end Go.Proofs.YtpefhfiehfkocaaGreatDoor
