/- What is known ahead of a build of plai -/
import Derived.Test.YtpefhfiehfkocaaGreatDoorOM
import Derived.Test.YtpefhfiehfkocaaGreatDoorNF
namespace Go.Proofs.YtpefhfiehfkocaaGreatDoor
open Go.RowKit
noncomputable section
abbrev CV(O:Orc)(m:GvP)(V:Gam)(x:Ent)(A:List AV)(H:aA)(p:AV->aA->Option (AV×aA))(R:AV)(Q:aA):Prop:=ComesV O (fF Tryz.prog (gv1 m) cJ 2000 V 40) 2000 x.mc x.ks x.rs A H p (R,Q)
def rb0:Blk:=.cellsT none [.n 0,.n 0,.n 0,.str [],.n 0]
def ra7:AV:=.str [114,101,99,105,112,101]
def ra0:AV:=.str [105,110,115,116,97,108,108,32,102,32,97,115,32,111]
def MB(a:Bs):AV:=.sl [[.str [102],.str a],[ra7,ra0]]
def rb1(a:Bs):Blk:=.cellsT none [.str [97,112,112],.str [49],ra7,MB a]
def rb2(a:Bs):Blk:=.arrX false none 4 0 [[.str [97,112,112],.str [49],ra7,MB a]] true
def rb3:Blk:=.cellsT none [.n 0,.n 8,.sl [[.str [102]]],.sl [],.sl [],.str [111]]
def rb4(a:Bs):Blk:=.arrX false none 2 0 [[.str [102],.str a],[ra7,ra0]] false
def ra5:AV:=.str [97,112,112,47,102]
def ra4:AV:=.str [97,112,112,47,111]
def ra3:AV:=.str [97,112,112,47,114,101,99,105,112,101]
def SW(a:Bs):AV:=.sl [[ra5,.str a],[ra4,.str a],[ra3,ra0]]
def MD(a:Bs):AV:=.sl [[ra5,.str (nJ a)]]
def ra8(a:Bs):AV:=.sl [[.n 0,.n 0,.n 8,MD a,ra4,.str (nJ a)]]
def rb5(a:Bs):Blk:=.cellsT none [SW a,.sl [[ra4]],ra8 a]
def rb6:Blk:=.cellsT none [.n 0,.n 8,.sl [[.str [102]]],.sl [],.sl [],.str [111],.sl [[ra5]],.sl [],ra4,.nils]
def ra2(a:Bs):AV:=.sl [[.str [97,112,112],.str [49],ra7,MB a]]
def rb7(a:Bs):Blk:=.cellsT none [ra2 a,SW a,.sl [[ra4]],ra8 a,.map 6,.map 7,.own 19 0 1]
def rb8(a:Bs):Blk:=.cellsT none [.n 0,.n 0,.n 8,MD a,ra4,.str (nJ a)]
def rb9:Blk:=.arrX false none 1 1 [[ra5]] false
def SX:Blk:=.cellsT none [.n 0,.n 8,.own 16 1 1,.own 18 0 0,.sl [],ra4]
def zT7:AV:=.sl [[.n 0,.n 8,.sl [[.str [102]]],.sl [],.sl [],.str [111]]]
def zT9:Blk:=.cellsT none [.own 6 0 1,.map 2,.own 19 0 1,.nils,.n 0,zT7,.T,.n 0,.n 0,.n 0,.str [],.n 0]
def xk4(a:Bs):Blk:=.cellsT none [ra2 a,SW a,.sl [[ra4]],ra8 a,.map 6,.map 7,.nils]
def zU0(a:Bs):Blk:=.arrX false none 6 0 [[.n 0,.n 0,.n 8,MD a,ra4,.str (nJ a)]] true
def MF:Blk:=.arrX false none 1 1 [[ra4]] false
def SY(a:Bs):Blk:=.arrX false none 2 1 [[ra5,.str (nJ a)]] false
def SZ:Blk:=.arrX false none 1 0 [[ra4]] true
def AX:Blk:=.cellsT none [.nils,.nils,.nils]
def zb8(a:Bs):Blk:=.arrX false none 2 1 [[ra4,.str (nJ a)]] false
def xk5:Blk:=.cellsT none [.own 6 0 1,.map 2,.own 19 0 1,.own 24 0 1,.n 1,.sl [],.F,.n 0,.n 0,.n 0,.str [],.n 0]
def xk6:Blk:=.arrX false none 6 0 [[.n 0,.n 8,.sl [[ra5]],.sl [],.sl [],ra4]] true
def zb9:Blk:=.cellsT none [.str [],.nils,.nils,.nils,.nils,.nils]
def xk7:Blk:=.cellsT none [.n 0,.n 8,.sl [[ra5]],.sl [],.sl [],ra4]
def xk8:Blk:=.cellsT none [.own 6 0 1,.map 2,.nils,.nils,.n 0,zT7,.T,.n 0,.n 0,.n 0,.str [],.n 0]
def xk9:Blk:=.cellsT none [.own 6 0 1,.map 2,.own 19 0 1,.own 24 0 1,.n 0,.sl [],.T,.n 0,.n 0,.n 0,.str [],.n 0]
def xl0:Blk:=.cellsT none [.own 6 0 1,.map 2,.nils,.nils,.n 0,.nils,.F,.n 0,.n 0,.n 0,.str [],.n 0]
def ra1(a:Bs):AV:=.agg [SW a,.sl [[ra4]],ra8 a]
def ra6:AV:=.agg [.n 0,.n 0,.n 0,.str [],.n 0]
def ra9:AV:=.tup [.sl [[.n 0,ra5,ra4,.n 0,.n 0,.n 0,.F,.n 0,.str [],.str [],.sl [],.sl []]],ra6]
def kP(P:Program)(a:Gv)(T:FuncId->Option FE)(f:FuncId):Ent:=(entry P a T f).getD ⟨.bad,[],[],0,none⟩
def nlE(a:Bs):Int:=((Lib.countByte a 10:Nat):Int)+1
def dPl(a:Bs):List AV:=[ra2 a]
theorem yF4{a:Bs}(h:a.length<=1000):qT [.str a]=some (.str (nJ a)):=by
 have:a.length<=big:=by unfold big;omega
 simp[qT,F1,eStr,this]
theorem yR5{x b:Int}(h:b<x):bY .gtr (.n x) (.n b)=some (.T):=by simp[bY,jJ,h]
theorem YB{x b:Int}(h:x<=b):bY .gtr (.n x) (.n b)=some (.F):=by
 have:¬b<x:=by omega
 simp[bY,jJ,this]
theorem zQ4{F a:List AV->aA->Option (AV×aA)}{A:List AV}{H:aA}{r:AV×aA}(h:F A H=some r):sF F a A H=some r:=by unfold sF;rw[h]
theorem zQ6{F a:List AV->aA->Option (AV×aA)}{A:List AV}{H:aA}{r:AV×aA}(h:F A H=none)(b:a A H=some r):sF F a A H=some r:=by unfold sF;rw[h];exact b
theorem zW6{A a:List AV}{H h:aA}{R:AV}{b:aA}(c:h≠H):fC A H R b a h=none:=by unfold fC;rw[if_neg fun k=>c k.2]
def V0(m:GvP)(a:Bs):Gam:=((tX m).add Fn.c4 (.pure qT)).add Fn.dn (.pure (eU (dPl a) (.n 0)))
noncomputable def ebg(m:GvP):Ent:=kP Tryz.prog (gv1 m) cJ 69
theorem yG3(m:GvP):entry Tryz.prog (gv1 m) cJ 69=some (ebg m):=by kernel_rfl
theorem yB3(m:GvP):(ebg m).df=none:=by kernel_rfl
def OO(_:Bs):List AV:=[.ptr 3 0,.agg [.n 0,.n 8,.sl [[.str [102]]],.sl [],.sl [],.str [111]]]
def IY(a:Bs):aA:=[AX,rb0,.map [(ra5,.str a),(ra3,ra0)],xk8,rb1 a,rb4 a,rb2 a,.cellsT none [.ptr 3 0],rb0,rb3]
def OQ(_:Bs):AV:=.tup [.ptr 11 0,.n 0]
def OP(a:Bs):aA:=IY a++[rb3,rb6,.arrX false none 1 0 [] true,rb9,.arrX false none 1 0 [] true,.arrX false none 1 0 [] false,.arrX false none 1 0 [] true,MF,.dead]
theorem yq3(m:GvP)(a:Bs):CV xP m (V0 m a) (ebg m) (OO a) (IY a) pG (OQ a) (OP a):=⟨by kernel_rfl,by kernel_rfl⟩
def V1(m:GvP)(a:Bs):Gam:=(V0 m a).add Fn.d6 (.gen (fC (OO a) (IY a) (OQ a) (OP a)))
theorem xD9{m:GvP}{a:Bs}(_:a.length<=1000)(H:GamOK Tryz.prog (gv1 m) (V0 m a)):GamOK Tryz.prog (gv1 m) (V1 m a):=bD H (by kernel_rfl) (zd0 (by kernel_rfl) (yG3 m) (yB3 m) (fZ (by kernel_rfl) H 40) FL (yq3 m a))
noncomputable def etc(m:GvP):Ent:=kP Tryz.prog (gv1 m) cJ 72
theorem zv7(m:GvP):entry Tryz.prog (gv1 m) cJ 72=some (etc m):=by kernel_rfl
def otc(a:Bs):Orc:=(mD Fn.c4 (fun _=>some ([.str a],.str (nJ a))))
theorem zu4(m:GvP):(etc m).df=none:=by kernel_rfl
theorem zR0(m:GvP)(a:Bs)(_hd:a.length<=1000):fP (fF Tryz.prog (gv1 m) cJ 2000 (V1 m a) 40) (otc a):=(nO (F:=qT) rfl (fun _ A R h=>by injection h with h;injection h with b c;subst b c;exact yF4 (by omega)))
def UE(_:Bs):List AV:=[.ptr 3 0,.sl [[ra5]]]
def NF(a:Bs):aA:=[AX,rb0,.map [(ra5,.str a),(ra3,ra0)],zT9,rb1 a,rb4 a,rb2 a,.cellsT none [.ptr 3 0],rb0,rb3,rb3,rb6,.arrX false none 1 0 [] true,rb9,.arrX false none 1 0 [] true,.arrX false none 1 0 [] false,.arrX false none 1 0 [] true,MF,.dead,SZ]
def UG(a:Bs):AV:=MD a
def UF(a:Bs):aA:=NF a++[.arrX false none 2 0 [] true,SY a]
theorem xx0(m:GvP)(a:Bs):CV (otc a) m (V1 m a) (etc m) (UE a) (NF a) pZ (UG a) (UF a):=⟨by kernel_rfl,by kernel_rfl⟩
def UH(_:Bs):List AV:=[.ptr 3 0,.tsl [[ra4]]]
def NG(a:Bs):aA:=[AX,rb0,.map [(ra5,.str a),(ra3,ra0),(ra4,.str a)],zT9,rb1 a,rb4 a,rb2 a,.cellsT none [.ptr 3 0],rb0,rb3,rb3,rb6,.arrX false none 1 0 [] true,rb9,.arrX false none 1 0 [] true,.arrX false none 1 0 [] false,.arrX false none 1 0 [] true,MF,.dead,SZ,.arrX false none 2 0 [] true,SY a]
def UJ(a:Bs):AV:=.sl [[ra4,.str (nJ a)]]
def UI(a:Bs):aA:=NG a++[.arrX false none 2 0 [] true,zb8 a]
theorem xx1(m:GvP)(a:Bs):CV (otc a) m (V1 m a) (etc m) (UH a) (NG a) pZ (UJ a) (UI a):=⟨by kernel_rfl,by kernel_rfl⟩
def V2(m:GvP)(a:Bs):Gam:=(V1 m a).add Fn.d4 (.gen (sF (fC (UE a) (NF a) (UG a) (UF a)) (fC (UH a) (NG a) (UJ a) (UI a))))
theorem xE2{m:GvP}{a:Bs}(b:a.length<=1000)(H:GamOK Tryz.prog (gv1 m) (V1 m a)):GamOK Tryz.prog (gv1 m) (V2 m a):=bD H (by kernel_rfl) (zQ5 (zd1 (by kernel_rfl) (zv7 m) (zu4 m) (fZ (by kernel_rfl) H 40) (zR0 m a b) (xx0 m a)) (zd1 (by kernel_rfl) (zv7 m) (zu4 m) (fZ (by kernel_rfl) H 40) (zR0 m a b) (xx1 m a)))
noncomputable def enx(m:GvP):Ent:=kP Tryz.prog (gv1 m) cJ 40
theorem zu9(m:GvP):entry Tryz.prog (gv1 m) cJ 40=some (enx m):=by kernel_rfl
def onx(a:Bs):Orc:=(oU (oU (xO Fn.d6 (fun _ _=>some (OO a,IY a,OQ a,OP a))) (xO Fn.d4 (fun _ h=>if Nat.beq h.length 20 then some (UE a,NF a,UG a,UF a)else some (UH a,NG a,UJ a,UI a)))) (FJ .gtr 65536 ([.n a.length,.n 65536],.F)))
def dnx(m:GvP):DfE:=(enx m).df.getD ⟨[],nz .mv [],0,[],[]⟩
theorem zt9(m:GvP):(enx m).df=some (dnx m):=by kernel_rfl
theorem zP8(m:GvP)(a:Bs)(_hd:a.length<=1000):fP (fF Tryz.prog (gv1 m) cJ 2000 (V2 m a) 40) (onx a):=(rM (rM (FK (F:=(fC (OO a) (IY a) (OQ a) (OP a))) rfl (fun _ _ A H R f h=>by injection h with h;injection h with b h;injection h with c h;injection h with d h4;subst b c d h4;exact qH)) (FK (F:=(sF (fC (UE a) (NF a) (UG a) (UF a)) (fC (UH a) (NG a) (UJ a) (UI a)))) rfl (fun _ g A H R f h=>by
 split at h;·injection h with h;injection h with b h;injection h with c h;injection h with d h4;subst b c d h4;exact zQ4 qH
 ·injection h with h;injection h with b h;injection h with c h;injection h with d h4;subst b c d h4;exact zQ6 (zW6 fun e=>absurd (show(22:Nat)=20 from congrArg List.length e) (by decide)) qH))) (SM (by exact YB (by omega))))
def EV(_:Bs):List AV:=[.ptr 3 0]
def AQ(a:Bs):aA:=[AX,rb0,.map [(ra5,.str a),(ra3,ra0)],xl0,rb1 a,rb4 a,rb2 a]
def SG(_:Bs):AV:=.tup [.T,ra6]
def LI(a:Bs):aA:=[AX,rb0,.map [(ra5,.str a),(ra3,ra0),(ra4,.str a)],xk9,rb1 a,rb4 a,rb2 a,.cellsT none [.ptr 3 0],rb0,rb3,rb3,rb6,.arrX false none 1 0 [] true,rb9,.arrX false none 1 0 [] true,.arrX false none 1 0 [] false,.arrX false none 1 0 [] true,MF,.dead,SZ,.arrX false none 2 0 [] true,SY a,.arrX false none 2 0 [] true,zb8 a,zU0 a]
theorem xb7(m:GvP)(a:Bs):(tO (onx a) (fF Tryz.prog (gv1 m) cJ 2000 (V2 m a) 40) 2000 (enx m) (dnx m) (EV a) (AQ a)).isSome=true:=by kernel_rfl
theorem xb6(m:GvP)(a:Bs):RG (tO (onx a) (fF Tryz.prog (gv1 m) cJ 2000 (V2 m a) 40) 2000 (enx m) (dnx m) (EV a) (AQ a))=TC (SG a,LI a) (tO (onx a) (fF Tryz.prog (gv1 m) cJ 2000 (V2 m a) 40) 2000 (enx m) (dnx m) (EV a) (AQ a)):=by kernel_rfl
def EW(_:Bs):List AV:=[.ptr 3 0]
def EX(a:Bs):aA:=LI a++[rb0]
def SH(_:Bs):AV:=.tup [.F,ra6]
def LJ(a:Bs):aA:=[AX,rb0,.map [(ra5,.str a),(ra3,ra0),(ra4,.str a)],xk5,rb1 a,rb4 a,rb2 a,.cellsT none [.ptr 3 0],rb0,rb3,rb3,rb6,.arrX false none 1 0 [] true,rb9,.arrX false none 1 0 [] true,.arrX false none 1 0 [] false,.arrX false none 1 0 [] true,MF,.dead,SZ,.arrX false none 2 0 [] true,SY a,.arrX false none 2 0 [] true,zb8 a,zU0 a,rb0]
theorem xb9(m:GvP)(a:Bs):(tO (onx a) (fF Tryz.prog (gv1 m) cJ 2000 (V2 m a) 40) 2000 (enx m) (dnx m) (EW a) (EX a)).isSome=true:=by kernel_rfl
theorem xb8(m:GvP)(a:Bs):RG (tO (onx a) (fF Tryz.prog (gv1 m) cJ 2000 (V2 m a) 40) 2000 (enx m) (dnx m) (EW a) (EX a))=TC (SH a,LJ a) (tO (onx a) (fF Tryz.prog (gv1 m) cJ 2000 (V2 m a) 40) 2000 (enx m) (dnx m) (EW a) (EX a)):=by kernel_rfl
def V3(m:GvP)(a:Bs):Gam:=(V2 m a).add Fn.d7 (.gen (sF (fC (EV a) (AQ a) (SG a) (LI a)) (fC (EW a) (EX a) (SH a) (LJ a))))
theorem xE3{m:GvP}{a:Bs}(b:a.length<=1000)(H:GamOK Tryz.prog (gv1 m) (V2 m a)):GamOK Tryz.prog (gv1 m) (V3 m a):=bD H (by kernel_rfl) (zQ5 (zW8 (by kernel_rfl) (zu9 m) (zt9 m) (fZ (by kernel_rfl) H 40) (zP8 m a b) (xb7 m a) (xb6 m a)) (zW8 (by kernel_rfl) (zu9 m) (zt9 m) (fZ (by kernel_rfl) H 40) (zP8 m a b) (xb9 m a) (xb8 m a)))
end
end Go.Proofs.YtpefhfiehfkocaaGreatDoor
