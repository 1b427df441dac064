/- The types are laid out as the model lays them: a part. -/
import Derived.Test.YtbfcbkjemlgnpaaGreatDoorChecked
import Derived.Test.YtbfcbkjemlgnpaaGreatDoorRows
import Derived.JoinedCond
import Derived.SevenTiedAt
import GoSem.ClaimFollow
import Derived.KernelRfl
namespace Go.Proofs.YtbfcbkjemlgnpaaGreatDoor
open Go
set_option maxRecDepth 100000
theorem types270:(List.range' 270 90).all (rowFine Tryz.prog)=true:=by kernel_rfl
theorem types360:(List.range' 360 90).all (rowFine Tryz.prog)=true:=by kernel_rfl
theorem types450:(List.range' 450 90).all (rowFine Tryz.prog)=true:=by kernel_rfl
end Go.Proofs.YtbfcbkjemlgnpaaGreatDoor
