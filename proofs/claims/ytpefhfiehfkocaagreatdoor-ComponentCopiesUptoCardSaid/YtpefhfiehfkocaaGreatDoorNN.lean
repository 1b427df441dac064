/- The law ComponentCopies -/
import Derived.Test.YtpefhfiehfkocaaGreatDoorNL
import Derived.Test.YtpefhfiehfkocaaGreatDoorNM
import Derived.Test.YtpefhfiehfkocaaGreatDoorOS
namespace Go.Proofs.YtpefhfiehfkocaaGreatDoor
open Go.RowKit
theorem yX5(m:GvP):Lib44 m where
 idx:=yT3 (fun s c w=>Tryz.strings_IndexByte s c w)
 cut:=yA4 (g:=0) rfl (fun s d w b a=>Tryz.strings_Cut s d m.m w b a)
def VE:List AV->Option AV
 |[.str _]=>some (.T)|_=>none
theorem VX(m:GvP):GamOK Tryz.prog (gv1 m) (tX m):=VY (fun m=>zo8 m (RH m)) m
theorem xC7{m:GvP}{a:Bs}(b:a.length<=1000):GamOK Tryz.prog (gv1 m) (V0 m a):=bD (bD (VX m) (by kernel_rfl) ((pX m (RH m)).ok Fn.c4 (.pure qT) (by rfl))) (by kernel_rfl) ((xE1 b (xE0 b (VX m))).ok Fn.dn (.pure (eU (WV a) (WW a))) (by rfl))
theorem yf1{m:GvP}{b:Bs}(a:b.length<=1000):GamOK Tryz.prog (gv1 m) (V11 m b):=xC9 a (xC8 a (xE9 a (xE8 a (xE7 a (xE6 a (xE5 a (xE4 a (xE3 a (xE2 a (xD9 a (xC7 a)))))))))))
theorem xD5{m:GvP}{b:Bs}(a:b.length<=1000):GamOK Tryz.prog (gv1 m) (V17 m b):=xD6 a (xD4 (zo7 m) (xD3 a (xD2 a (xD1 a (xD0 (yU5 (RH m) (yX5 m) a (yf1 a)) (yf1 a))))))
theorem xD7{m:GvP}{a:Bs}(b:1000<a.length):GamOK Tryz.prog (gv1 m) (V18 m a):=xD8 b (bD (VX m) (by kernel_rfl) (zo7 m))
theorem yz7(m:GvP):dP Tryz.prog (gv1 m) Fn.dv VE:=by
 intro I w h r g c d e b;unfold VE at b;split at b
 ·rename_i a;injection b with b;subst b;by_cases f:a.length<=1000;·exact(xD5 (m:=m) f).ok Fn.dv (.pure (eU (ZI a) (ZJ a))) (by rfl) I w [.str a] (.T) g c d e nS
  ·exact(xD7 (m:=m) (Nat.lt_of_not_le f)).ok Fn.dv (.pure (eU (ZD a) (ZE a))) (by rfl) I w [.str a] (.T) g c d e nS
 ·cases b
end Go.Proofs.YtpefhfiehfkocaaGreatDoor
