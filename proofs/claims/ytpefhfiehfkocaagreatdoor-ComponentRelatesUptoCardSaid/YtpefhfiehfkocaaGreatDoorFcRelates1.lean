/- The closed facts of the row of ComponentRelates,each by itself. -/
import Derived.Test.YtpefhfiehfkocaaGreatDoorChecked
import Derived.Test.YtpefhfiehfkocaaGreatDoorRows
import Derived.Test.YtpefhfiehfkocaaGreatDoorFcRelates2
import Derived.Test.YtpefhfiehfkocaaGreatDoorLaO
import Derived.JoinedCond
import Derived.SevenTiedAt
import Derived.KernelRfl
namespace Go.Proofs.YtpefhfiehfkocaaGreatDoor
namespace relates
open Go
set_option maxRecDepth 100000
theorem k0:Rows.componentRelatesUptoRow.wf (OpenSpec.ofChange (Rows.OpenSpec.upto Rows.componentRelatesSpec).bare)=true:=by kernel_rfl
theorem k1:laidOutB Tryz.prog=true:=laidOutT
theorem k2:mapsRowed Tryz.prog=true:=by kernel_rfl
theorem k3:Tryz.f3.params.all (Tryz.prog.readableRec ·)=true:=by kernel_rfl
theorem k4:namedTie Tryz.prog Rows.componentRelatesUptoRow.named (Rows.OpenSpec.upto Rows.componentRelatesSpec).bare.vars=true:=by kernel_rfl
theorem k5:(Rows.componentRelatesUptoRow.stops == [])=true:=by kernel_rfl
theorem k6:(Tryz.prog.stops == [])=true:=by kernel_rfl
theorem k7:(Rows.componentRelatesUptoRow.knobs == [])=true:=by kernel_rfl
theorem k8:(Tryz.prog.stopKnobs == [])=true:=by kernel_rfl
theorem k9:(Rows.componentRelatesUptoRow.inPlace == Tryz.prog.inPlace 3)=true:=by
  unfold Program.inPlace;rw [reached];kernel_rfl
theorem k10:(Rows.componentRelatesUptoRow.unfollowed == Tryz.prog.unfollowed 3)=true:=by
  unfold Program.unfollowed;rw [reached];kernel_rfl
theorem k11:(Rows.componentRelatesUptoRow.recurses == Tryz.prog.recurses 3)=true:=by
  unfold Program.recurses Program.unfollowed;rw [reached];kernel_rfl
theorem k12:(Rows.componentRelatesUptoRow.named == Tryz.prog.varsNamed 3)=true:=by
  unfold Program.varsNamed;rw [reached];kernel_rfl
end relates
end Go.Proofs.YtpefhfiehfkocaaGreatDoor
