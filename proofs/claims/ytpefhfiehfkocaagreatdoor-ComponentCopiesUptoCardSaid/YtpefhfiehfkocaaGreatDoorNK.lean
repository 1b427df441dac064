/- licit/origin -/
import Derived.Test.YtpefhfiehfkocaaGreatDoorNJ
namespace Go.Proofs.YtpefhfiehfkocaaGreatDoor
open Go.RowKit
noncomputable section
noncomputable def eon(m:GvP):Ent:=kP Tryz.prog (gv1 m) cJ 126
theorem yH5(m:GvP):entry Tryz.prog (gv1 m) cJ 126=some (eon m):=by kernel_rfl
def oon(a:Bs):Orc:=(oU (mD Fn.de (fun _=>some (DJ a,DK a))) (xO Fn.d8 (fun _ _=>some (UA a,NB a,UC a,UB a))))
theorem yE9(m:GvP):(eon m).df=none:=by kernel_rfl
theorem xf7(m:GvP)(a:Bs)(_hd:a.length<=1000):fP (fF Tryz.prog (gv1 m) cJ 2000 (V7 m a) 40) (oon a):=(rM (nO (F:=(eU (DJ a) (DK a))) rfl (fun _ A R h=>by injection h with h;injection h with b c;subst b c;exact nS)) (FK (F:=(fC (UA a) (NB a) (UC a) (UB a))) rfl (fun _ _ A H R e h=>by injection h with h;injection h with b h;injection h with c h;injection h with d h4;subst b c d h4;exact qH)))
def LP(a:Bs):List AV:=[ra2 a]
def LQ(_:Bs):aA:=[zb9,rb0,rb0]
def LR(_:Bs):AV:=.tup [.ptr 8 0,ra6]
def vG(a:Bs):aA:=[zb9,rb0,rb0,rb0,rb5 a,rb0,.map [(ra5,.str a),(ra4,.str a),(ra3,ra0)],.map [(ra5,.n 1),(ra4,.n 1),(ra3,.n 1)],rb7 a,rb8 a,rb8 a,SX,rb1 a,rb3,SX,.arrX false none 1 0 [] true,rb9,.arrX false none 1 0 [] true,.arrX false none 1 0 [] false,xk6,xk7]
theorem xe9(m:GvP)(a:Bs):CV (oon a) m (V7 m a) (eon m) (LP a) (LQ a) pG (LR a) (vG a):=⟨by kernel_rfl,by kernel_rfl⟩
def V8(m:GvP)(a:Bs):Gam:=(V7 m a).add Fn.dg (.gen (fC (LP a) (LQ a) (LR a) (vG a)))
theorem xE8{m:GvP}{a:Bs}(b:a.length<=1000)(H:GamOK Tryz.prog (gv1 m) (V7 m a)):GamOK Tryz.prog (gv1 m) (V8 m a):=bD H (by kernel_rfl) (zd0 (by kernel_rfl) (yH5 m) (yE9 m) (fZ (by kernel_rfl) H 40) (xf7 m a b) (xe9 m a))
noncomputable def ebt(m:GvP):Ent:=kP Tryz.prog (gv1 m) cJ 127
theorem yG4(m:GvP):entry Tryz.prog (gv1 m) cJ 127=some (ebt m):=by kernel_rfl
theorem yB4(m:GvP):(ebt m).df=none:=by kernel_rfl
def JE(_:Bs):List AV:=[.ptr 8 0]
def zQ(a:Bs):aA:=vG a++[rb0]
def JG(a:Bs):AV:=ra1 a
def JF(a:Bs):aA:=zQ a
theorem yu1(m:GvP)(a:Bs):CV xP m (V8 m a) (ebt m) (JE a) (zQ a) (pZL (zQ a).length) (JG a) (JF a):=⟨by kernel_rfl,by kernel_rfl⟩
def V9(m:GvP)(a:Bs):Gam:=(V8 m a).add Fn.dk (.gen (fC (JE a) (zQ a) (JG a) (JF a)))
theorem xE9{m:GvP}{a:Bs}(_:a.length<=1000)(H:GamOK Tryz.prog (gv1 m) (V8 m a)):GamOK Tryz.prog (gv1 m) (V9 m a):=bD H (by kernel_rfl) (zW9 (by kernel_rfl) (yG4 m) (yB4 m) (fZ (by kernel_rfl) H 40) FL (yu1 m a))
noncomputable def elk(m:GvP):Ent:=kP Tryz.prog (gv1 m) cJ 81
theorem yG8(m:GvP):entry Tryz.prog (gv1 m) cJ 81=some (elk m):=by kernel_rfl
theorem yE5(m:GvP):(elk m).df=none:=by kernel_rfl
def RJ(a:Bs):List AV:=[ra1 a,ra4]
def RK(_:Bs):AV:=.F
theorem yX6(m:GvP)(a:Bs):CV xP m (V9 m a) (elk m) (RJ a) [] pK (RK a) []:=⟨by kernel_rfl,by kernel_rfl⟩
def V10(m:GvP)(a:Bs):Gam:=(V9 m a).add Fn.d1 (.pure (eU (RJ a) (RK a)))
theorem xC8{m:GvP}{a:Bs}(_:a.length<=1000)(H:GamOK Tryz.prog (gv1 m) (V9 m a)):GamOK Tryz.prog (gv1 m) (V10 m a):=bD H (by kernel_rfl) (rR (by kernel_rfl) (yG8 m) (yE5 m) (fZ (by kernel_rfl) H 40) FL (yX6 m a))
noncomputable def elb(m:GvP):Ent:=kP Tryz.prog (gv1 m) cJ 44
theorem yG7(m:GvP):entry Tryz.prog (gv1 m) cJ 44=some (elb m):=by kernel_rfl
def olb(a:Bs):Orc:=(mD Fn.d1 (fun _=>some (RJ a,RK a)))
theorem yE4(m:GvP):(elb m).df=none:=by kernel_rfl
theorem xe6(m:GvP)(a:Bs)(_hd:a.length<=1000):fP (fF Tryz.prog (gv1 m) cJ 2000 (V10 m a) 40) (olb a):=(nO (F:=(eU (RJ a) (RK a))) rfl (fun _ A R h=>by injection h with h;injection h with b c;subst b c;exact nS))
def RC(a:Bs):List AV:=[ra1 a,ra4]
def RD(_:Bs):AV:=.sl []
theorem yX0(m:GvP)(a:Bs):CV (olb a) m (V10 m a) (elb m) (RC a) [] pK (RD a) []:=⟨by kernel_rfl,by kernel_rfl⟩
def V11(m:GvP)(a:Bs):Gam:=(V10 m a).add Fn.d9 (.pure (eU (RC a) (RD a)))
theorem xC9{m:GvP}{a:Bs}(b:a.length<=1000)(H:GamOK Tryz.prog (gv1 m) (V10 m a)):GamOK Tryz.prog (gv1 m) (V11 m a):=bD H (by kernel_rfl) (rR (by kernel_rfl) (yG7 m) (yE4 m) (fZ (by kernel_rfl) H 40) (xe6 m a b) (yX0 m a))
def LK(a:Bs):List AV:=[ra2 a,ra4]
def LL(a:Bs):AV:=.tup [.agg [ra4,.sl [[ra5,.n 0,.n (nlE a)]],.sl [],.sl [],.sl [[ra3,.n 0,.n 1]],.sl []],ra6]
def V12(m:GvP)(a:Bs):Gam:=(V11 m a).add Fn.b2 (.pure (eU (LK a) (LL a)))
theorem xD0{m:GvP}{a:Bs}(K:dP Tryz.prog (gv1 m) Fn.b2 (eU (LK a) (LL a)))(H:GamOK Tryz.prog (gv1 m) (V11 m a)):GamOK Tryz.prog (gv1 m) (V12 m a):=bD H (by kernel_rfl) K
noncomputable def etf(m:GvP):Ent:=kP Tryz.prog (gv1 m) cJ 54
theorem yI3(m:GvP):entry Tryz.prog (gv1 m) cJ 54=some (etf m):=by kernel_rfl
theorem yF5(m:GvP):(etf m).df=none:=by kernel_rfl
theorem xh3(m:GvP)(a:Bs)(_hd:a.length<=1000):fP (fF Tryz.prog (gv1 m) cJ 2000 (V11 m a) 40) xP:=FL
def GI(a:Bs):List AV:=[MB a,ra7]
def BP:AV:=.tup [ra0,.T]
theorem xx3(m:GvP)(a:Bs):CV xP m (V11 m a) (etf m) (GI a) [] pK BP []:=⟨by kernel_rfl,by kernel_rfl⟩
theorem find_ok{m:GvP}{a:Bs}(b:a.length<=1000)(H:GamOK Tryz.prog (gv1 m) (V11 m a)):dP Tryz.prog (gv1 m) Fn.dm (eU (GI a) BP):=rR (by kernel_rfl) (yI3 m) (yF5 m) (fZ (by kernel_rfl) H 40) (xh3 m a b) (xx3 m a)
end
end Go.Proofs.YtpefhfiehfkocaaGreatDoor
