/- The types are laid out as the model la -/
import Derived.Test.YtpefhfiehfkocaaGreatDoorLaA
import Derived.Test.YtpefhfiehfkocaaGreatDoorLaB
import Derived.Test.YtpefhfiehfkocaaGreatDoorLaC
namespace Go.Proofs.YtpefhfiehfkocaaGreatDoor
section
open Go
set_option maxRecDepth 100000
theorem xB1:Tryz.prog.types.size=791:=by kernel_rfl
theorem vF{f:Nat->Bool}{a n:Nat}(h:(List.range' a n).all f=true){i:Nat}(b:a<=i)(c:i<a+n):f i=true:=by
 have:=List.all_eq_true.1 h i (List.mem_range'.2 ⟨i-a,by omega,by omega⟩);exact this
theorem yL2:Tryz.prog.globals.all (fun g=>decide (g.type<Tryz.prog.types.size))=true:=by kernel_rfl
theorem yK5:Tryz.prog.funcs.all (fun f=>f.params.all fun t=>decide (t<Tryz.prog.types.size))=true:=by kernel_rfl
theorem yW6:laidOutB Tryz.prog=true:=by
 unfold laidOutB;rw[yL2,yK5,Bool.and_true,Bool.and_true,List.all_eq_true];intro i a;have a:i<791:=by have:=List.mem_range.1 a;rwa[xB1]at this
 by_cases b:i<88;·exact vF xA2 (by omega) (by omega)
 by_cases c:i<176;·exact vF xB0 (by omega) (by omega)
 by_cases d:i<264;·exact vF xA3 (by omega) (by omega)
 by_cases e:i<352;·exact vF xA4 (by omega) (by omega)
 by_cases f:i<440;·exact vF xA5 (by omega) (by omega)
 by_cases g:i<528;·exact vF xA6 (by omega) (by omega)
 by_cases h:i<616;·exact vF xA7 (by omega) (by omega)
 by_cases j:i<704;·exact vF xA8 (by omega) (by omega)
 ·exact vF xA9 (by omega) (by omega)
end
end Go.Proofs.YtpefhfiehfkocaaGreatDoor
