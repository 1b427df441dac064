/- The types are laid out as the model lays them. -/
import Derived.Test.YtpefhfiehfkocaaGreatDoorChecked
import Derived.Test.YtpefhfiehfkocaaGreatDoorRows
import Derived.JoinedCond
import Derived.SevenTiedAt
import GoSem.ClaimFollow
import Derived.KernelRfl
import Derived.Test.YtpefhfiehfkocaaGreatDoorLaA
import Derived.Test.YtpefhfiehfkocaaGreatDoorLaB
import Derived.Test.YtpefhfiehfkocaaGreatDoorLaC
namespace Go.Proofs.YtpefhfiehfkocaaGreatDoor
open Go
set_option maxRecDepth 100000
theorem typesN:Tryz.prog.types.size=791:=by kernel_rfl
theorem of_range'{f:Nat→Bool}{a n:Nat}(h:(List.range' a n).all f=true){i:Nat}(h1:a≤i)(h2:i<a+n):f i=true:=by
 have:=List.all_eq_true.1 h i (List.mem_range'.2 ⟨i-a,by omega,by omega⟩)
 exact this
theorem glFine:Tryz.prog.globals.all (fun g=>decide (g.type<Tryz.prog.types.size))=true:=by kernel_rfl
theorem fnFine:Tryz.prog.funcs.all (fun f=>f.params.all fun t=>decide (t<Tryz.prog.types.size))=true:=by kernel_rfl
theorem laidOutT:laidOutB Tryz.prog=true:=by
 unfold laidOutB
 rw [glFine,fnFine,Bool.and_true,Bool.and_true,List.all_eq_true]
 intro i hi
 have hi:i<791:=by have:=List.mem_range.1 hi; rwa [typesN]at this
 by_cases c1:i<88
 ·exact of_range' types0 (by omega) (by omega)
 by_cases c2:i<176
 ·exact of_range' types88 (by omega) (by omega)
 by_cases c3:i<264
 ·exact of_range' types176 (by omega) (by omega)
 by_cases c4:i<352
 ·exact of_range' types264 (by omega) (by omega)
 by_cases c5:i<440
 ·exact of_range' types352 (by omega) (by omega)
 by_cases c6:i<528
 ·exact of_range' types440 (by omega) (by omega)
 by_cases c7:i<616
 ·exact of_range' types528 (by omega) (by omega)
 by_cases c8:i<704
 ·exact of_range' types616 (by omega) (by omega)
 ·exact of_range' types704 (by omega) (by omega)
end Go.Proofs.YtpefhfiehfkocaaGreatDoor
