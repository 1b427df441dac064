/- The types are laid out as the model lays them. -/
import Derived.Test.YtbfcbkjemlgnpaaGreatDoorChecked
import Derived.Test.YtbfcbkjemlgnpaaGreatDoorRows
import Derived.JoinedCond
import Derived.SevenTiedAt
import GoSem.ClaimFollow
import Derived.KernelRfl
import Derived.Test.YtbfcbkjemlgnpaaGreatDoorLaA
import Derived.Test.YtbfcbkjemlgnpaaGreatDoorLaB
import Derived.Test.YtbfcbkjemlgnpaaGreatDoorLaC
namespace Go.Proofs.YtbfcbkjemlgnpaaGreatDoor
open Go
set_option maxRecDepth 100000
theorem typesN:Tryz.prog.types.size=747:=by kernel_rfl
theorem of_range'{f:Nat→Bool}{a n:Nat}(h:(List.range' a n).all f=true){i:Nat}(h1:a≤i)(h2:i<a+n):f i=true:=by
 have:=List.all_eq_true.1 h i (List.mem_range'.2 ⟨i-a,by omega,by omega⟩)
 exact this
theorem glFine:Tryz.prog.globals.all (fun g=>decide (g.type<Tryz.prog.types.size))=true:=by kernel_rfl
theorem fnFine:Tryz.prog.funcs.all (fun f=>f.params.all fun t=>decide (t<Tryz.prog.types.size))=true:=by kernel_rfl
theorem laidOutT:laidOutB Tryz.prog=true:=by
 unfold laidOutB
 rw [glFine,fnFine,Bool.and_true,Bool.and_true,List.all_eq_true]
 intro i hi
 have hi:i<747:=by have:=List.mem_range.1 hi; rwa [typesN]at this
 by_cases c1:i<90
 ·exact of_range' types0 (by omega) (by omega)
 by_cases c2:i<180
 ·exact of_range' types90 (by omega) (by omega)
 by_cases c3:i<270
 ·exact of_range' types180 (by omega) (by omega)
 by_cases c4:i<360
 ·exact of_range' types270 (by omega) (by omega)
 by_cases c5:i<450
 ·exact of_range' types360 (by omega) (by omega)
 by_cases c6:i<540
 ·exact of_range' types450 (by omega) (by omega)
 by_cases c7:i<610
 ·exact of_range' types540 (by omega) (by omega)
 by_cases c8:i<680
 ·exact of_range' types610 (by omega) (by omega)
 ·exact of_range' types680 (by omega) (by omega)
end Go.Proofs.YtbfcbkjemlgnpaaGreatDoor
