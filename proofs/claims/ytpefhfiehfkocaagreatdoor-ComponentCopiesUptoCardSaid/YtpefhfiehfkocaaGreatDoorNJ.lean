/- (*licit/build -/
import Derived.Test.YtpefhfiehfkocaaGreatDoorNI
namespace Go.Proofs.YtpefhfiehfkocaaGreatDoor
open Go.RowKit
noncomputable section
noncomputable def ers(m:GvP):Ent:=kP Tryz.prog (gv1 m) cJ 41
theorem yH9(m:GvP):entry Tryz.prog (gv1 m) cJ 41=some (ers m):=by kernel_rfl
theorem yF1(m:GvP):(ers m).df=none:=by kernel_rfl
def TE(_:Bs):List AV:=[.ptr 3 0]
def FZ(a:Bs):aA:=LJ a++[rb0]
def TG(a:Bs):AV:=ra1 a
def TF(a:Bs):aA:=FZ a
theorem xo3(m:GvP)(a:Bs):CV xP m (V3 m a) (ers m) (TE a) (FZ a) (pZL (FZ a).length) (TG a) (TF a):=⟨by kernel_rfl,by kernel_rfl⟩
def V4(m:GvP)(a:Bs):Gam:=(V3 m a).add Fn.d5 (.gen (fC (TE a) (FZ a) (TG a) (TF a)))
theorem xE4{m:GvP}{a:Bs}(_:a.length<=1000)(H:GamOK Tryz.prog (gv1 m) (V3 m a)):GamOK Tryz.prog (gv1 m) (V4 m a):=bD H (by kernel_rfl) (zW9 (by kernel_rfl) (yH9 m) (yF1 m) (fZ (by kernel_rfl) H 40) FL (xo3 m a))
noncomputable def enw(m:GvP):Ent:=kP Tryz.prog (gv1 m) cJ 39
theorem yH4(m:GvP):entry Tryz.prog (gv1 m) cJ 39=some (enw m):=by kernel_rfl
def onw(a:Bs):Orc:=(mD Fn.dn (fun _=>some (dPl a,.n 0)))
theorem yE8(m:GvP):(enw m).df=none:=by kernel_rfl
theorem xf6(m:GvP)(a:Bs)(_hd:a.length<=1000):fP (fF Tryz.prog (gv1 m) cJ 2000 (V4 m a) 40) (onw a):=(nO (F:=eU (dPl a) (.n 0)) rfl (fun _ A R h=>by injection h with h;injection h with b c;subst b c;exact nS))
def SC(a:Bs):List AV:=[ra2 a]
def SD(_:Bs):aA:=[AX,rb0]
def SF(_:Bs):AV:=.tup [.ptr 3 0,.n 0]
def SE(a:Bs):aA:=AQ a
theorem xb5(m:GvP)(a:Bs):CV (onw a) m (V4 m a) (enw m) (SC a) (SD a) pG (SF a) (SE a):=⟨by kernel_rfl,by kernel_rfl⟩
def V5(m:GvP)(a:Bs):Gam:=(V4 m a).add Fn.d0 (.gen (fC (SC a) (SD a) (SF a) (SE a)))
theorem xE5{m:GvP}{a:Bs}(b:a.length<=1000)(H:GamOK Tryz.prog (gv1 m) (V4 m a)):GamOK Tryz.prog (gv1 m) (V5 m a):=bD H (by kernel_rfl) (zd0 (by kernel_rfl) (yH4 m) (yE8 m) (fZ (by kernel_rfl) H 40) (xf6 m a b) (xb5 m a))
noncomputable def ebd(m:GvP):Ent:=kP Tryz.prog (gv1 m) cJ 21
theorem yG2(m:GvP):entry Tryz.prog (gv1 m) cJ 21=some (ebd m):=by kernel_rfl
def obd(a:Bs):Orc:=(oU (oU (xO Fn.d0 (fun _ _=>some (SC a,SD a,SF a,SE a))) (xO Fn.d7 (fun _ h=>if Nat.beq h.length 7 then some (EV a,AQ a,SG a,LI a)else some (EW a,EX a,SH a,LJ a)))) (xO Fn.d5 (fun _ _=>some (TE a,FZ a,TG a,TF a))))
theorem yB2(m:GvP):(ebd m).df=none:=by kernel_rfl
theorem xc5(m:GvP)(a:Bs)(_hd:a.length<=1000):fP (fF Tryz.prog (gv1 m) cJ 2000 (V5 m a) 40) (obd a):=(rM (rM (FK (F:=(fC (SC a) (SD a) (SF a) (SE a))) rfl (fun _ _ A H R f h=>by injection h with h;injection h with b h;injection h with c h;injection h with d h4;subst b c d h4;exact qH)) (FK (F:=(sF (fC (EV a) (AQ a) (SG a) (LI a)) (fC (EW a) (EX a) (SH a) (LJ a)))) rfl (fun _ g A H R f h=>by
 split at h;·injection h with h;injection h with b h;injection h with c h;injection h with d h4;subst b c d h4;exact zQ4 qH
 ·injection h with h;injection h with b h;injection h with c h;injection h with d h4;subst b c d h4;exact zQ6 (zW6 fun e=>absurd (show(26:Nat)=7 from congrArg List.length e) (by decide)) qH))) (FK (F:=(fC (TE a) (FZ a) (TG a) (TF a))) rfl (fun _ _ A H R f h=>by injection h with h;injection h with b h;injection h with c h;injection h with d h4;subst b c d h4;exact qH)))
def DJ(a:Bs):List AV:=[ra2 a]
def DK(a:Bs):AV:=.tup [ra1 a,ra6]
theorem yq0(m:GvP)(a:Bs):CV (obd a) m (V5 m a) (ebd m) (DJ a) [] pK (DK a) []:=⟨by kernel_rfl,by kernel_rfl⟩
def V6(m:GvP)(a:Bs):Gam:=(V5 m a).add Fn.de (.pure (eU (DJ a) (DK a)))
theorem xE6{m:GvP}{a:Bs}(b:a.length<=1000)(H:GamOK Tryz.prog (gv1 m) (V5 m a)):GamOK Tryz.prog (gv1 m) (V6 m a):=bD H (by kernel_rfl) (rR (by kernel_rfl) (yG2 m) (yB2 m) (fZ (by kernel_rfl) H 40) (xc5 m a b) (yq0 m a))
noncomputable def est(m:GvP):Ent:=kP Tryz.prog (gv1 m) cJ 199
theorem yI1(m:GvP):entry Tryz.prog (gv1 m) cJ 199=some (est m):=by kernel_rfl
theorem yF3(m:GvP):(est m).df=none:=by kernel_rfl
def UA(a:Bs):List AV:=[.ptr 8 0,.agg [.n 0,.n 0,.n 8,MD a,ra4,.str (nJ a)]]
def NB(a:Bs):aA:=[zb9,rb0,rb0,rb0,rb5 a,rb0,.map [(ra5,.str a),(ra4,.str a),(ra3,ra0)],.map [(ra5,.n 1),(ra4,.n 1),(ra3,.n 1)],xk4 a,rb8 a]
def UC(_:Bs):AV:=.agg [.n 0,.n 8,.sl [[ra5]],.sl [],.sl [],ra4]
def UB(a:Bs):aA:=NB a++[rb8 a,SX,rb1 a,rb3,SX,.arrX false none 1 0 [] true,rb9,.arrX false none 1 0 [] true,.arrX false none 1 0 [] false]
theorem xv3(m:GvP)(a:Bs):CV xP m (V6 m a) (est m) (UA a) (NB a) pZ (UC a) (UB a):=⟨by kernel_rfl,by kernel_rfl⟩
def V7(m:GvP)(a:Bs):Gam:=(V6 m a).add Fn.d8 (.gen (fC (UA a) (NB a) (UC a) (UB a)))
theorem xE7{m:GvP}{a:Bs}(_:a.length<=1000)(H:GamOK Tryz.prog (gv1 m) (V6 m a)):GamOK Tryz.prog (gv1 m) (V7 m a):=bD H (by kernel_rfl) (zd1 (by kernel_rfl) (yI1 m) (yF3 m) (fZ (by kernel_rfl) H 40) FL (xv3 m a))
end
end Go.Proofs.YtpefhfiehfkocaaGreatDoor
