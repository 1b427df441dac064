/- The closed facts of the row of OriginUnions,each by itself. -/
import Derived.Test.YtbfcbkjemlgnpaaGreatDoorChecked
import Derived.Test.YtbfcbkjemlgnpaaGreatDoorRows
import Derived.Test.YtbfcbkjemlgnpaaGreatDoorFcUnions2
import Derived.Test.YtbfcbkjemlgnpaaGreatDoorLaO
import Derived.JoinedCond
import Derived.SevenTiedAt
import Derived.KernelRfl
namespace Go.Proofs.YtbfcbkjemlgnpaaGreatDoor
namespace unions
open Go
set_option maxRecDepth 100000
theorem k0:Rows.originUnionsUptoRow.wf (OpenSpec.ofChange (Rows.OpenSpec.upto Rows.originUnionsSpec).bare)=true:=by kernel_rfl
theorem k1:laidOutB Tryz.prog=true:=laidOutT
theorem k2:mapsRowed Tryz.prog=true:=by kernel_rfl
theorem k3:Tryz.f4.params.all (Tryz.prog.readableRec ·)=true:=by kernel_rfl
theorem k4:namedTie Tryz.prog Rows.originUnionsUptoRow.named (Rows.OpenSpec.upto Rows.originUnionsSpec).bare.vars=true:=by kernel_rfl
theorem k5:(Rows.originUnionsUptoRow.stops == [])=true:=by kernel_rfl
theorem k6:(Tryz.prog.stops == [])=true:=by kernel_rfl
theorem k7:(Rows.originUnionsUptoRow.knobs == [])=true:=by kernel_rfl
theorem k8:(Tryz.prog.stopKnobs == [])=true:=by kernel_rfl
theorem k9:(Rows.originUnionsUptoRow.inPlace == Tryz.prog.inPlace 4)=true:=by
  unfold Program.inPlace;rw [reached];kernel_rfl
theorem k10:(Rows.originUnionsUptoRow.unfollowed == Tryz.prog.unfollowed 4)=true:=by
  unfold Program.unfollowed;rw [reached];kernel_rfl
theorem k11:(Rows.originUnionsUptoRow.recurses == Tryz.prog.recurses 4)=true:=by
  unfold Program.recurses Program.unfollowed;rw [reached];kernel_rfl
theorem k12:(Rows.originUnionsUptoRow.named == Tryz.prog.varsNamed 4)=true:=by
  unfold Program.varsNamed;rw [reached];kernel_rfl
end unions
end Go.Proofs.YtbfcbkjemlgnpaaGreatDoor
