/- licit/component -/
import Derived.Test.YtpefhfiehfkocaaGreatDoorNK
namespace Go.Proofs.YtpefhfiehfkocaaGreatDoor
open Go.RowKit
noncomputable section
noncomputable def eso(m:GvP):Ent:=kP Tryz.prog (gv1 m) cJ 14
theorem yI0(m:GvP):entry Tryz.prog (gv1 m) cJ 14=some (eso m):=by kernel_rfl
def oso(a:Bs):Orc:=(mD Fn.dn (fun _=>some (dPl a,.n 0)))
theorem yF2(m:GvP):(eso m).df=none:=by kernel_rfl
theorem xh2(m:GvP)(a:Bs)(_hd:a.length<=1000):fP (fF Tryz.prog (gv1 m) cJ 2000 (V12 m a) 40) (oso a):=(nO (F:=eU (dPl a) (.n 0)) rfl (fun _ A R h=>by injection h with h;injection h with b c;subst b c;exact nS))
def TY(a:Bs):List AV:=[ra2 a]
def TZ(a:Bs):AV:=.tup [.sl [[ra5,.str a],[ra3,ra0]],ra6]
theorem xt3(m:GvP)(a:Bs):CV (oso a) m (V12 m a) (eso m) (TY a) [] pK (TZ a) []:=⟨by kernel_rfl,by kernel_rfl⟩
def V13(m:GvP)(a:Bs):Gam:=(V12 m a).add Fn.dl (.pure (eU (TY a) (TZ a)))
theorem xD1{m:GvP}{a:Bs}(b:a.length<=1000)(H:GamOK Tryz.prog (gv1 m) (V12 m a)):GamOK Tryz.prog (gv1 m) (V13 m a):=bD H (by kernel_rfl) (rR (by kernel_rfl) (yI0 m) (yF2 m) (fZ (by kernel_rfl) H 40) (xh2 m a b) (xt3 m a))
noncomputable def eus(m:GvP):Ent:=kP Tryz.prog (gv1 m) cJ 22
theorem yI6(m:GvP):entry Tryz.prog (gv1 m) cJ 22=some (eus m):=by kernel_rfl
def ous(a:Bs):Orc:=(oU (oU (mD Fn.b2 (fun _=>some (LK a,LL a))) (mD Fn.dl (fun _=>some (TY a,TZ a)))) (mD Fn.d9 (fun _=>some (RC a,RD a))))
theorem yF8(m:GvP):(eus m).df=none:=by kernel_rfl
theorem xh6(m:GvP)(a:Bs)(_hd:a.length<=1000):fP (fF Tryz.prog (gv1 m) cJ 2000 (V13 m a) 40) (ous a):=(rM (rM (nO (F:=eU (LK a) (LL a)) rfl (fun _ A R h=>by injection h with h;injection h with b c;subst b c;exact nS)) (nO (F:=(eU (TY a) (TZ a))) rfl (fun _ A R h=>by injection h with h;injection h with b c;subst b c;exact nS))) (nO (F:=(eU (RC a) (RD a))) rfl (fun _ A R h=>by injection h with h;injection h with b c;subst b c;exact nS)))
def UR(a:Bs):List AV:=[ra2 a,ra1 a,ra4]
def US(_:Bs):AV:=ra9
theorem xC4(m:GvP)(a:Bs):CV (ous a) m (V13 m a) (eus m) (UR a) [] pK (US a) []:=⟨by kernel_rfl,by kernel_rfl⟩
def V14(m:GvP)(a:Bs):Gam:=(V13 m a).add Fn.d2 (.pure (eU (UR a) (US a)))
theorem xD2{m:GvP}{a:Bs}(b:a.length<=1000)(H:GamOK Tryz.prog (gv1 m) (V13 m a)):GamOK Tryz.prog (gv1 m) (V14 m a):=bD H (by kernel_rfl) (rR (by kernel_rfl) (yI6 m) (yF8 m) (fZ (by kernel_rfl) H 40) (xh6 m a b) (xC4 m a))
noncomputable def eue(m:GvP):Ent:=kP Tryz.prog (gv1 m) cJ 11
theorem yI5(m:GvP):entry Tryz.prog (gv1 m) cJ 11=some (eue m):=by kernel_rfl
def oue(a:Bs):Orc:=(oU (mD Fn.de (fun _=>some (DJ a,DK a))) (mD Fn.d2 (fun _=>some (UR a,US a))))
theorem yF7(m:GvP):(eue m).df=none:=by kernel_rfl
theorem xh5(m:GvP)(a:Bs)(_hd:a.length<=1000):fP (fF Tryz.prog (gv1 m) cJ 2000 (V14 m a) 40) (oue a):=(rM (nO (F:=(eU (DJ a) (DK a))) rfl (fun _ A R h=>by injection h with h;injection h with b c;subst b c;exact nS)) (nO (F:=(eU (UR a) (US a))) rfl (fun _ A R h=>by injection h with h;injection h with b c;subst b c;exact nS)))
def UP(a:Bs):List AV:=[ra2 a,ra4]
def UQ(_:Bs):AV:=ra9
theorem xC0(m:GvP)(a:Bs):CV (oue a) m (V14 m a) (eue m) (UP a) [] pK (UQ a) []:=⟨by kernel_rfl,by kernel_rfl⟩
def V15(m:GvP)(a:Bs):Gam:=(V14 m a).add Fn.di (.pure (eU (UP a) (UQ a)))
theorem xD3{m:GvP}{a:Bs}(b:a.length<=1000)(H:GamOK Tryz.prog (gv1 m) (V14 m a)):GamOK Tryz.prog (gv1 m) (V15 m a):=bD H (by kernel_rfl) (rR (by kernel_rfl) (yI5 m) (yF7 m) (fZ (by kernel_rfl) H 40) (xh5 m a b) (xC0 m a))
def V16(m:GvP)(a:Bs):Gam:=(V15 m a).add Fn.dc (.pure wB)
theorem xD4{m:GvP}{a:Bs}(K:dP Tryz.prog (gv1 m) Fn.dc wB)(H:GamOK Tryz.prog (gv1 m) (V15 m a)):GamOK Tryz.prog (gv1 m) (V16 m a):=bD H (by kernel_rfl) K
def VL(m:GvP)(_:Bs):Gam:=(tX m).add Fn.dc (.pure wB)
noncomputable def elw(m:GvP):Ent:=kP Tryz.prog (gv1 m) cJ 4
theorem yH0(m:GvP):entry Tryz.prog (gv1 m) cJ 4=some (elw m):=by kernel_rfl
def olw(a:Bs):Orc:=(oU (oU (mD Fn.dc (fun _=>some (([]:List AV),.T))) (FJ .gtr 1000 ([.n a.length,.n 1000],.F))) (mD Fn.di (fun _=>some (UP a,UQ a))))
theorem yE7(m:GvP):(elw m).df=none:=by kernel_rfl
theorem xe8(m:GvP)(a:Bs)(_hd:a.length<=1000):fP (fF Tryz.prog (gv1 m) cJ 2000 (V16 m a) 40) (olw a):=(rM (rM (nO (F:=wB) rfl (fun _ A R h=>by injection h with h;injection h with b c;subst b c;exact rfl)) (SM (by exact YB (by omega)))) (nO (F:=(eU (UP a) (UQ a))) rfl (fun _ A R h=>by injection h with h;injection h with b c;subst b c;exact nS)))
def ZI(a:Bs):List AV:=[.str a]
def ZJ(_:Bs):AV:=.T
theorem yY5(m:GvP)(a:Bs):CV (olw a) m (V16 m a) (elw m) (ZI a) [] pK (ZJ a) []:=⟨by kernel_rfl,by kernel_rfl⟩
def V17(m:GvP)(a:Bs):Gam:=(V16 m a).add Fn.dv (.pure (eU (ZI a) (ZJ a)))
theorem xD6{m:GvP}{a:Bs}(b:a.length<=1000)(H:GamOK Tryz.prog (gv1 m) (V16 m a)):GamOK Tryz.prog (gv1 m) (V17 m a):=bD H (by kernel_rfl) (rR (by kernel_rfl) (yH0 m) (yE7 m) (fZ (by kernel_rfl) H 40) (xe8 m a b) (yY5 m a))
noncomputable def ell(m:GvP):Ent:=kP Tryz.prog (gv1 m) cJ 4
theorem yG9(m:GvP):entry Tryz.prog (gv1 m) cJ 4=some (ell m):=by kernel_rfl
def oll(a:Bs):Orc:=(oU (mD Fn.dc (fun _=>some (([]:List AV),.T))) (FJ .gtr 1000 ([.n a.length,.n 1000],.T)))
theorem yE6(m:GvP):(ell m).df=none:=by kernel_rfl
theorem xe7(m:GvP)(a:Bs)(_hd:1000<a.length):fP (fF Tryz.prog (gv1 m) cJ 2000 (VL m a) 40) (oll a):=(rM (nO (F:=wB) rfl (fun _ A R h=>by injection h with h;injection h with b c;subst b c;exact rfl)) (SM (by exact yR5 (by omega))))
def ZD(a:Bs):List AV:=[.str a]
def ZE(_:Bs):AV:=.T
theorem yX7(m:GvP)(a:Bs):CV (oll a) m (VL m a) (ell m) (ZD a) [] pK (ZE a) []:=⟨by kernel_rfl,by kernel_rfl⟩
def V18(m:GvP)(a:Bs):Gam:=(VL m a).add Fn.dv (.pure (eU (ZD a) (ZE a)))
theorem xD8{m:GvP}{a:Bs}(b:1000<a.length)(H:GamOK Tryz.prog (gv1 m) (VL m a)):GamOK Tryz.prog (gv1 m) (V18 m a):=bD H (by kernel_rfl) (rR (by kernel_rfl) (yG9 m) (yE6 m) (fZ (by kernel_rfl) H 40) (xe7 m a b) (yX7 m a))
def za4(c:aA->Bool)(O:Orc):Orc:=fun s o a h=>if c h then O s o a h else none
theorem xh0{G:Gam}{c:aA->Bool}{O:Orc}(h:fP G O):fP G (za4 c O):=fun s o g e f R d a b=>by
 unfold za4 at a;split at a;·exact h _ _ _ _ _ _ _ a b
 ·cases a
def atF:aA->Bool
 |.cellsT _ (.str p::_)::_=>decide (p=[102])|_=>false
def T0(m:GvP)(_:Bs):Gam:=tX m
noncomputable def etk(m:GvP):Ent:=kP Tryz.prog (gv1 m) cJ 50
theorem yI4(m:GvP):entry Tryz.prog (gv1 m) cJ 50=some (etk m):=by kernel_rfl
def otk(a:Bs):Orc:=(za4 atF (FJ .gtr 65536 ([.n a.length,.n 65536],.F)))
theorem yF6(m:GvP):(etk m).df=none:=by kernel_rfl
theorem xh4(m:GvP)(a:Bs)(_hd:a.length<=1000):fP (fF Tryz.prog (gv1 m) cJ 2000 (T0 m a) 40) (otk a):=(xh0 (SM (by exact YB (by omega))))
def UL(a:Bs):List AV:=[MB a]
def UM(_:Bs):AV:=.n 0
theorem xy0(m:GvP)(a:Bs):CV (otk a) m (T0 m a) (etk m) (UL a) [] pK (UM a) []:=⟨by kernel_rfl,by kernel_rfl⟩
def V20(m:GvP)(a:Bs):Gam:=(T0 m a).add Fn.ea (.pure (eU (UL a) (UM a)))
theorem xE0{m:GvP}{a:Bs}(b:a.length<=1000)(H:GamOK Tryz.prog (gv1 m) (T0 m a)):GamOK Tryz.prog (gv1 m) (V20 m a):=bD H (by kernel_rfl) (rR (by kernel_rfl) (yI4 m) (yF6 m) (fZ (by kernel_rfl) H 40) (xh4 m a b) (xy0 m a))
noncomputable def eck(m:GvP):Ent:=kP Tryz.prog (gv1 m) cJ 24
theorem yG5(m:GvP):entry Tryz.prog (gv1 m) cJ 24=some (eck m):=by kernel_rfl
def ock(a:Bs):Orc:=(mD Fn.ea (fun _=>some (UL a,UM a)))
theorem yB5(m:GvP):(eck m).df=none:=by kernel_rfl
theorem xc6(m:GvP)(a:Bs)(_hd:a.length<=1000):fP (fF Tryz.prog (gv1 m) cJ 2000 (V20 m a) 40) (ock a):=(nO (F:=(eU (UL a) (UM a))) rfl (fun _ A R h=>by injection h with h;injection h with b c;subst b c;exact nS))
def WV(a:Bs):List AV:=[ra2 a]
def WW(_:Bs):AV:=.n 0
theorem yv3(m:GvP)(a:Bs):CV (ock a) m (V20 m a) (eck m) (WV a) [] pK (WW a) []:=⟨by kernel_rfl,by kernel_rfl⟩
def V21(m:GvP)(a:Bs):Gam:=(V20 m a).add Fn.dn (.pure (eU (WV a) (WW a)))
theorem xE1{m:GvP}{a:Bs}(b:a.length<=1000)(H:GamOK Tryz.prog (gv1 m) (V20 m a)):GamOK Tryz.prog (gv1 m) (V21 m a):=bD H (by kernel_rfl) (rR (by kernel_rfl) (yG5 m) (yB5 m) (fZ (by kernel_rfl) H 40) (xc6 m a b) (yv3 m a))
end
end Go.Proofs.YtpefhfiehfkocaaGreatDoor
