/- The closed facts of the row of OriginSets,each by itself. -/
import Derived.Test.YtbfcbkjemlgnpaaGreatDoorChecked
import Derived.Test.YtbfcbkjemlgnpaaGreatDoorRows
import Derived.Test.YtbfcbkjemlgnpaaGreatDoorFcSets2
import Derived.Test.YtbfcbkjemlgnpaaGreatDoorLaO
import Derived.JoinedCond
import Derived.SevenTiedAt
import Derived.KernelRfl
namespace Go.Proofs.YtbfcbkjemlgnpaaGreatDoor
namespace sets
open Go
set_option maxRecDepth 100000
theorem k0:Rows.originSetsUptoRow.wf (OpenSpec.ofChange (Rows.OpenSpec.upto Rows.originSetsSpec).bare)=true:=by kernel_rfl
theorem k1:laidOutB Tryz.prog=true:=laidOutT
theorem k2:mapsRowed Tryz.prog=true:=by kernel_rfl
theorem k3:Tryz.f3.params.all (Tryz.prog.readableRec ·)=true:=by kernel_rfl
theorem k4:namedTie Tryz.prog Rows.originSetsUptoRow.named (Rows.OpenSpec.upto Rows.originSetsSpec).bare.vars=true:=by kernel_rfl
theorem k5:(Rows.originSetsUptoRow.stops == [])=true:=by kernel_rfl
theorem k6:(Tryz.prog.stops == [])=true:=by kernel_rfl
theorem k7:(Rows.originSetsUptoRow.knobs == [])=true:=by kernel_rfl
theorem k8:(Tryz.prog.stopKnobs == [])=true:=by kernel_rfl
theorem k9:(Rows.originSetsUptoRow.inPlace == Tryz.prog.inPlace 3)=true:=by
  unfold Program.inPlace;rw [reached];kernel_rfl
theorem k10:(Rows.originSetsUptoRow.unfollowed == Tryz.prog.unfollowed 3)=true:=by
  unfold Program.unfollowed;rw [reached];kernel_rfl
theorem k11:(Rows.originSetsUptoRow.recurses == Tryz.prog.recurses 3)=true:=by
  unfold Program.recurses Program.unfollowed;rw [reached];kernel_rfl
theorem k12:(Rows.originSetsUptoRow.named == Tryz.prog.varsNamed 3)=true:=by
  unfold Program.varsNamed;rw [reached];kernel_rfl
end sets
end Go.Proofs.YtbfcbkjemlgnpaaGreatDoor
