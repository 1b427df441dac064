/- The iterators component -/
import Derived.Test.YtpefhfiehfkocaaGreatDoorOF
import Derived.Test.YtpefhfiehfkocaaGreatDoorChecked
namespace Go.Proofs.YtpefhfiehfkocaaGreatDoor
open Go.RowKit Go.IntWalk
def Ks.ch:List Nat:=[0,1,4,6,7,8,9,14,15,16]
def Rs.ch:List RV:=[]
def Dl.ch:List (List Nat):=[[4,6,14,15,16,999999],[6,999999]]
def Mc.ch_L1:MC:=.s [zb 17 .lss 16 15] (.seq (.ite (.t 17) .skip (.exit 2)) (.b 3 (.s [zi 18 2 14 16,zL 19 2 18,Ka 6 (.alloc [.str [],.str []]),zs 2 6 19] (.s [zm 20 0,zf 21 0 4,zl 22 21,iz 23 (.bin .add) [.t 22,.c (.str [47])],zf 24 0 6,zl 25 24,zb 26 .add 23 25,zf 27 1 6,zl 28 27,iz 29 (.bld [.str [],.str []] [(0,1),(1,1)]) [.t 26,.t 28],Zv 30 [.t 20,.t 29],Zu 31 30] (.ite (.t 31) .ret .skip))) (.reg [zc 32 .add 16 1,zM 16 32])))
def Mc.ch_L0:MC:=.s [zb 10 .lss 9 8] (.seq (.ite (.t 10) .skip (.exit 0)) (.b 1 (.s [zi 11 4 7 9,zL 12 4 11,Ka 4 (.alloc [.str [],.str [],.str [],.nils]),zs 4 4 12] (.s [zf 13 3 4,Kl 14 13,Kn 15 1 14,Kc 16 0] (.blk 2 (.loop [6,999999] Mc.ch_L1)))) (.reg [zc 33 .add 9 1,zM 9 33])))
def Mc.ch:MC:=.s [Kl 7 1,Kn 8 1 7,Kc 9 0] (.blk 0 (.loop [4,6,14,15,16,999999] Mc.ch_L0))
def Ks.cq:List Nat:=[0,1,3,5]
def Rs.cq:List RV:=[]
def Dl.cq:List (List Nat):=[[3,999999]]
def Mc.cq_L0:MC:=.seq (.rgn (.t 5) (some 6) false [ze 7 0 6]) (.seq (.ite (.t 7) .skip (.exit 0)) (.blk 1 (.s [iz 8 .ent [.t 5],ze 9 0 8,zM 3 9] (.s [zm 10 0,zm 11 3,Zv 12 [.t 10,.t 11],Zu 13 12] (.ite (.t 13) .ret .skip)))))
def Mc.cq:MC:=.s [zl 4 1,kz 5 .rngm [.t 4]] (.blk 0 (.loop [3,999999] Mc.cq_L0))
theorem QP{G:Gam}{e:List MK}{Q:aS}{c:List (Nat×AV)}{h:aA}{d:List Nat}{a:MC}{n:Nat}(g:cY G d a n e Q (aY d c) h)(f:d.contains 999999=true:=by rfl):cY G d a n e Q c h:=by
 obtain⟨N,b⟩:=g;refine⟨N,?_⟩;cases N with
 |zero=>exact b|succ N=>
  simp only[gS]at b⊢;simp only[nU,f,aM]at b⊢;rw[YS]at b;exact b
def iV(nm v b:Bs)(a:List PD):List AV:=[.str nm,.str v,.str b,.sl (a.map dZ)]
def BK(j:Nat)(g:aA)(a:List AV):aA:=if j=0 then g++[.cells a]else g
def BJ(nm:Bs)(b:List AV)(a:List PD)(j:Nat)(h:aA):Option (List AV)×aA:=match a[j]? with
 |some f=>(some [.agg [.str (nm++[47]++f.1),.str f.2]],BK j h b++[.cells (dZ f)])|none=>(none,h)
def ckP(h:aA)(n:Nat)(nm:Bs):Bool:=match h[n]? with
 |some (.cellsT none (.str a::_))=>decide (a=nm)|_=>false
def CS:ItF:=fun c b j h=>match c with
 |[.ptr l 0]=>match b[l]? with
  |some (.cellsT _ [.sl [[.str nm,.str v,.str d,.sl T]]])=>match wU T with
   |some (f::a)=>if a.length<=1000/\((f::a).all fun f=>decide (nm.length+f.1.length<=100000))=true/\(j=0\/ckP h b.length nm=true)then some (BJ nm [.str nm,.str v,.str d,.sl T] (f::a) j h)else none|_=>none
  |_=>none
 |_=>none
theorem zf0{k:List AV}{g h:aA}{j:Nat}{r:Option (List AV)×aA}(b:CS k g j h=some r):∃l tg nm v e c,k=[.ptr l 0]/\g[l]?=some (.cellsT tg [.sl [iV nm v e c]])/\c≠[]/\c.length<=1001/\(∀f∈c,nm.length+f.1.length<=100000)/\(j=0\/∃i,h[g.length]?=some (.cells (.str nm::i)))/\r=BJ nm (iV nm v e c) c j h:=by
 unfold CS at b;split at b
 ·rename_i l;split at b
  ·rename_i tg nm v e T n;split at b
   ·rename_i f c q;split at b
    ·rename_i m;injection b with b;have o:=XF q;subst o;refine⟨l,tg,nm,v,e,f::c,rfl,n,by simp,by simp;omega,fun x s=>by simpa using fK.1 m.2.1 x s,?_,b.symm⟩;rcases m.2.2 with d|d;·exact .inl d
     ·right;unfold ckP at d;split at d
      ·rename_i a i p;obtain rfl:=of_decide_eq_true d;exact⟨i,p⟩
      ·cases d
    ·cases b
   ·cases b
  ·cases b
 ·cases b
theorem yb3{k h:aA}{l j:Nat}{tg:Option TypeId}{nm v m:Bs}{b:List PD}{r:Option (List AV)×aA}(x:k[l]?=some (.cellsT tg [.sl [iV nm v m b]]))(y:CS [.ptr l 0] k j h=some r):b≠[]/\b.length<=1001/\(∀f∈b,nm.length+f.1.length<=100000)/\(j=0\/∃z,h[k.length]?=some (.cells (.str nm::z)))/\r=BJ nm (iV nm v m b) b j h:=by
 obtain⟨A,D,B,E,C,w,c,a,o,p,u,s,t⟩:=zf0 y;injection c with c _;injection c with c _;subst c;rw[x]at a;injection a with a;injection a with _ a;injection a with a _;injection a with a;injection a with a _;unfold iV at a;injection a with d a;injection a with e a;injection a with g a;injection a with i _;injection d with d;injection e with e;injection g with g;injection i with i;subst d e g;have n:b=w:=by
  have q:=PM b;rw[i,PM]at q;injection q with q;exact q.symm
 subst n;exact⟨o,p,u,s,t⟩
abbrev sfr(k l _:Nat)(f _:AV)(nm v b:Bs)(a:List PD)(c d e:AV)(i:Int):List (Nat×AV):=[(0,.yld k),(1,.ptr l 0),(4,f),(6,.junk),(7,.sl [iV nm v b a]),(8,.n 1),(9,.n i),(14,c),(15,d),(16,e)]
theorem xv4{h:aA}{f:PD}:bB 2 (h++[.cells [.str [],.str []]]) (.ptr h.length 0) (.agg (dZ f))=some (h++[.cells (dZ f)]):=by
 have:=qM (h:=h++[Blk.cells [.str [],.str []]]) (l:=h.length) (n:=2) (vs:=[.str [],.str []]) (us:=dZ f) (by simp) rfl rfl (by omega) rfl;simpa[-aQ]using this
theorem xv5{h:aA}{nm v rc:Bs}{fs:List PD}:bB 4 (h++[.cells [.str [],.str [],.str [],.nils]]) (.ptr h.length 0) (.agg (iV nm v rc fs))=some (h++[.cells (iV nm v rc fs)]):=by
 have:=qM (h:=h++[Blk.cells [.str [],.str [],.str [],.nils]]) (l:=h.length) (n:=4) (vs:=[.str [],.str [],.str [],.nils]) (us:=iV nm v rc fs) (by simp) rfl rfl (by omega) rfl;simpa[-aQ]using this
theorem yb2(G:Gam)(Y:Nat->List AV->aA->Option (AV×aA))(k l:Nat)(tg:Option TypeId)(nm v o:Bs)(c:List PD)(e p:aA)(x:e[l]?=some (.cellsT tg [.sl [iV nm v o c]]))(n:Nat)(E:List MK)(Q:aS)(T:∀z fr,Q .ret z fr p)(V:∀z,exM {G with y:=Y} .normal E Q z (sfr k l e.length (.ptr e.length 0) .junk nm v o c (.sl (c.map dZ)) (.n c.length) (.n c.length) 0) p):∀(N j:Nat)(r g:aA),j<=c.length->g=BK j r (iV nm v o c)->(j=0->r=e)->mF (CS [.ptr l 0] e) (Y k) N j r p->cY {G with y:=Y} [6,999999] Mc.ch_L1 n (.blk 2::E) Q (sfr k l e.length (.ptr e.length 0) .junk nm v o c (.sl (c.map dZ)) (.n c.length) (.n j) 0) g
 |0,_,_,_,_,_,_,d=>d.elim|N+1,j,r,g,hj,D,hz,d=>by
  simp only[mF]at d;split at d;·exact d.elim
  ·rename_i h1 B;obtain⟨M,c2,P,O,m⟩:=yb3 x B;subst d;cases i:c[j]? with
   |some f=>simp[BJ,i]at m|none=>
    simp only[BJ,i,aR]at m;have U:j=c.length:=by have:=uM.1 i;omega
    have a3:j≠0:=by rw[U];intro h;exact M (List.length_eq_zero_iff.1 h)
    have a1:g=p:=by rw[D];unfold BK;rw[if_neg a3,m.2]
    have q:ltB (j:Int) (c.length:Int)=false:=dQ.2 (by omega);subst a1;subst U;refine xD (Mc.ch_L1.eq_1) ?_;simp;simpa using V _
  ·rename_i e3 h1 B;obtain⟨M,c2,P,O,m⟩:=yb3 x B;cases i:c[j]? with
   |none=>simp[BJ,i]at m|some f=>
    simp only[BJ,i,aR,aE]at m;obtain⟨rfl,rfl⟩:=m;have d3:j<c.length:=(aF.1 i).1;have t:∃d2,g[e.length]?=some (.cells (.str nm::d2)):=by
     rw[D];unfold BK;by_cases h:j=0;·rw[if_pos h,hz h];exact⟨_,by simp[iV];rfl⟩
     ·rw[if_neg h];exact O.resolve_left h
    obtain⟨d1,t⟩:=t;rw[<-D]at d;have b2:e.length<g.length:=(aF.1 t).1;have b1:(g++[Blk.cells (dZ f)])[e.length]?=some (.cells (.str nm::d1)):=by rw[aX b2];exact t
    have q:ltB (j:Int) (c.length:Int)=true:=cH.2 (by omega);have hw:=iJ (i:=j) (by unfold big;omega);have r1:(c.map dZ)[j]?=some (dZ f):=by simp[i]
    have W:∀h,bN 2 h (.sl (c.map dZ)) (.n (j:Int))=some (.fptr (dZ f) 0):=fun h=>by
     have:(dZ f).length=2:=rfl;simp[bN,r1,this]
    have X:∀h,aB 2 true h (.fptr (dZ f) 0)=some (.agg (dZ f)):=fun h=>by simp[aB,cut,aD,dZ]
    have K:=xv4 (h:=g) (f:=f);have cf:=P f (gJ i);have J:bY .add (.str nm) (.str [47])=some (.str (nm++[47])):=yc1 (by unfold rZ;simp;omega);have w:bY .add (.str (nm++[47])) (.str f.1)=some (.str (nm++[47]++f.1)):=yc1 (by unfold rZ;simp;omega);generalize nm++[47]=b3 at J w d;generalize e2:b3++f.1=Z at w d;have H:aB 1 false (g++[Blk.cells (dZ f)]) (.ptr e.length 0)=some (.str nm):=bT b1 rfl;have I:aB 1 false (g++[Blk.cells (dZ f)]) (.ptr g.length 0)=some (.str f.1):=bT (l:=g.length) (vs:=dZ f) (by simp) rfl;have F:aB 1 false (g++[Blk.cells (dZ f)]) (.ptr g.length 1)=some (.str f.2):=bT (l:=g.length) (vs:=dZ f) (by simp) rfl;have L:∀st h(a b:Bs),opV {G with y:=Y} st h (.bld [.str [],.str []] [(0,1),(1,1)]) (some [.str a,.str b])=some (.agg [.str a,.str b],h):=fun st h a b=>by rw[bW rfl];rfl
    have a2:∀A:aA,A=BK (j+1) A (iV nm v o c):=fun A=>by unfold BK;rw[if_neg (by omega)]
    generalize g++[Blk.cells (dZ f)]=S at d K H I F;have u:opV {G with y:=Y} false S .callv (some [.yld k,.agg [.str Z,.str f.2]])=Y k [.agg [.str Z,.str f.2]] S:=zQ3;refine xD (Mc.ch_L1.eq_1) ?_;generalize dZ f=rf at*;split at d
    ·rename_i s C;rw[C]at u;have ih:=yb2 G Y k l tg nm v o c e p x n E Q T V N (j+1) s s (by omega) (a2 s) (fun h=>by omega) d;simp[q,W,X,K,H,I,F,u,hw,J,w,L,-aB,-aQ];refine QP ?_;simpa using ih
    ·rename_i s C;rw[C]at u;subst d;simp[q,W,X,K,H,I,F,u,J,w,L,-aB,-aQ];exact T _ _
    ·exact d.elim
theorem src_ok(G:Gam):∀(Y:Nat->List AV->aA->Option (AV×aA))(d:List AV)(k N:Nat)(h e:aA),mF (CS d h) (Y k) N 0 h e->wpM {G with y:=Y} Mc.ch (itQ e) [] (aC Ks.ch (.yld k::d)) h:=by
 intro Y d k N h e c;obtain⟨l,tg,nm,v,b,a,rfl,j⟩:∃l tg nm v b a,d=[.ptr l 0]/\h[l]?=some (.cellsT tg [.sl [iV nm v b a]]):=by cases N with
  |zero=>exact c.elim|succ N=>
   simp only[mF]at c;split at c;·exact c.elim
   ·rename_i p i;obtain⟨l,tg,nm,v,b,a,f,g,_⟩:=zf0 i;exact⟨l,tg,nm,v,b,a,f,g⟩
   ·rename_i x p i;obtain⟨l,tg,nm,v,b,a,f,g,_⟩:=zf0 i;exact⟨l,tg,nm,v,b,a,f,g⟩
 have w:aB 1 false h (.ptr l 0)=some (.sl [iV nm v b a]):=by simp[aB,j,cut,aD]
 have s:∀h,bN 4 h (.sl [iV nm v b a]) (.n 0)=some (.fptr (iV nm v b a) 0):=fun h=>by
  have:(iV nm v b a).length=4:=rfl;simp[bN,this]
 have u:∀h,aB 4 true h (.fptr (iV nm v b a) 0)=some (.agg (iV nm v b a)):=fun h=>by simp[aB,cut,aD,iV]
 have D:=xv5 (h:=h) (nm:=nm) (v:=v) (rc:=b) (fs:=a);have A:aB 1 false (h++[Blk.cells (iV nm v b a)]) (.ptr h.length 3)=some (.sl (a.map dZ)):=bT (l:=h.length) (vs:=iV nm v b a) (by simp) rfl;have z:aW (h++[Blk.cells (iV nm v b a)]) 1 (.sl (a.map dZ))=some (.n (a.length:Int)):=by simp[aW]
 have m:=fun n t Q q r=>yb2 G Y k l tg nm v b a h e j n t Q q r N 0 h (h++[Blk.cells (iV nm v b a)]) (lD _) (by simp[BK]) (fun _=>rfl) c;rw[aT];simp[Mc.ch,aC,Ks.ch,w,-aB];refine xD (Mc.ch_L0.eq_1) ?_;have B:ltB 0 1=true:=rfl;have C:ltB 1 1=false:=rfl;simp[B,s,u,D,A,z,-aB,-aQ,-aW];refine m _ _ _ (fun o F=>⟨trivial,rfl⟩) (fun o=>?_);simp;refine QP ?_;refine xD (Mc.ch_L0.eq_1) ?_;have E:IntKind.i64.wrap 1=1:=by decide
 simp[E,itQ]
def ckM(h:aA)(n m:Nat):Bool:=match h[n]?,h[m]? with
 |some (.mit (some c) d seen b),some (.map a)=>decide (c=m/\d=1/\seen=[0]/\b=1/\a.length=1)|_,_=>false
def CO:ItF:=fun c b j h=>match c with
 |[.ptr q 0]=>match b[q]? with
  |some (.cellsT _ [.map m])=>match b[m]? with
   |some (.map [(a,_)])=>match j with
    |0=>some (some [a],h++[.mit (some m) 1 [0] 1])|1=>if ckM h b.length m=true then some (none,h.set b.length .dead)else none|_=>none
   |_=>none
  |_=>none
 |_=>none
theorem yv4{h:aA}{n m:Nat}(a:ckM h n m=true):h[n]?=some (.mit (some m) 1 [0] 1)/\∃b:List (AV×AV),h[m]?=some (.map b)/\b.length=1:=by
 unfold ckM at a;split at a
 ·rename_i g i seen f b c d;simp only[fD]at a;obtain⟨rfl,rfl,rfl,rfl,e⟩:=a;exact⟨c,b,d,e⟩
 ·cases a
theorem yW3(G:Gam):∀(Y:Nat->List AV->aA->Option (AV×aA))(i:List AV)(k N:Nat)(h s:aA),mF (CO i h) (Y k) N 0 h s->wpM {G with y:=Y} Mc.cq (itQ s) [] (aC Ks.cq (.yld k::i)) h:=by
 intro Y i k N h s c;obtain⟨q,tg,m,a,f,rfl,w,o⟩:∃q tg m a f,i=[.ptr q 0]/\h[q]?=some (.cellsT tg [.map m])/\h[m]?=some (.map [(a,f)]):=by cases N with
  |zero=>exact c.elim|succ N=>
   simp only[mF]at c;have C:∀r,CO i h 0 h=some r->∃q tg m a f,i=[.ptr q 0]/\h[q]?=some (.cellsT tg [.map m])/\h[m]?=some (.map [(a,f)]):=fun r d=>by
    unfold CO at d;split at d
    ·split at d
     ·split at d
      ·rename_i q _ tg m l _ a b n;exact⟨q,tg,m,a,b,rfl,l,n⟩
      ·cases d
     ·cases d
    ·cases d
   split at c;·exact c.elim
   ·rename_i l d;exact C _ d
   ·rename_i x l d;exact C _ d
 have J:m<h.length:=(aF.1 o).1;have d:∀j g,CO [.ptr q 0] h j g=match j with
   |0=>some (some [a],g++[.mit (some m) 1 [0] 1])|1=>if ckM g h.length m=true then some (none,g.set h.length .dead)else none|_=>none:=fun j g=>by simp only[CO,w,o]
 have K:aB 1 false h (.ptr q 0)=some (.map m):=by simp[aB,w,cut,aD]
 have B:=zQ2 (G:={G with y:=Y}) o;have z:∀b:Blk,(h++[b])[h.length]?=some b:=fun b=>by simp
 have A:∀b:Blk,(h++[b])[m]?=some (.map [(a,f)]):=fun b=>by rw[aX J];exact o
 have L:iG (h++[.mit (some m) 1 [] 1]) h.length=some [(.tup [.T,a,f],h++[.mit (some m) 1 [0] 1])]:=by
  unfold iG;rw[z];simp only[A];simp
 have v:rG (h++[.mit (some m) 1 [0] 1]) h.length=some (.tup [a,f]):=by
  unfold rG;rw[z];simp only[A];simp
 cases N with
 |zero=>exact c.elim|succ N=>
 simp only[mF,d]at c;rw[aT];simp only[jA,kN,eT]at B;simp[Mc.cq,aC,Ks.cq,K,B,-aB];refine xD (Mc.cq_L0.eq_1) ?_;rw[EM,EL];show uP _ (some 6) false _ _ _ _ (iG _ h.length);rw[L];intro r u;rcases gU.1 u with rfl;generalize h++[Blk.mit (some m) 1 [0] 1]=l at c v;have p:opV {G with y:=Y} false l .callv (some [.yld k,a])=Y k [a] l:=zQ3;split at c
 ·rename_i n t;rw[t]at p;cases N with
  |zero=>exact c.elim|succ N=>
  simp only[mF,d]at c;split at c;·exact c.elim
  ·rename_i H e;split at e
   ·rename_i I;simp only[aE,aR,true_and]at e;subst e;obtain⟨D,O,E,F⟩:=yv4 I;have M:iG n h.length=some [(.tup [.F],n.set h.length .dead)]:=by
     unfold iG;rw[D];simp only[E,F];simp
    simp[v,p];refine QP ?_;refine xD (Mc.cq_L0.eq_1) ?_;rw[EM,EL];show uP _ (some 6) false _ _ _ _ (iG _ h.length);rw[M];intro r u;rcases gU.1 u with rfl;simp[itQ,c]
   ·cases e
  ·rename_i x H e;split at e;·simp at e
   ·cases e
 ·rename_i n t;rw[t]at p;subst c;simp[v,p,itQ]
 ·exact c.elim
def za9(l:List Org):List (List AV):=l.map Org.cells
@[simp]theorem xV0{l:List Org}:(za9 l).length=l.length:=by simp[za9]
@[simp]theorem xL2(l:List Org):dW uV (za9 l)=some l:=mQ zt2 l
section
open Go.Lib
theorem qB:Tryz.prog.follows .mixedOrders=true:=by kernel_rfl
theorem YH:Tryz.prog.underlying 48=some (.slice 9):=by kernel_rfl
theorem yU0:∃(a:TypeInfo)(z:Value),Tryz.prog.info? 9=some a/\a.zero=some z/\a.size=1/\a.bytes=16/\z.cells.size=1:=⟨(Tryz.prog.info? 9).getD default,(((Tryz.prog.info? 9).getD default).zero).getD (.bool false),by kernel_rfl,by kernel_rfl,by kernel_rfl,by kernel_rfl,by kernel_rfl⟩
theorem zr4(w:World)(a:Option Addr)(n c d b:Nat):(binOp .eql 48 (.slice a n c) (.slice none d b)).run Tryz.prog w=.ok (.bool a.isNone) w:=Lib.run_eql_slice_nil w _ _ a n c d b YH
set_option maxHeartbeats 2000000 in set_option maxRecDepth 100000 in theorem yw2(a:Addr)(n c:Nat)(news:List Value)(w:World)(hl:news.length=n*1)(hn:n<=maxLen)(hbig:n*16<=140737488355328)(hc:∀j u,news[j]?=some u->w.cell? (a.add j)=some u)(h1:∀u∈news,u.oneCell'=true):Calls Tryz.prog 36 #[.slice (some a) n c] w fun o w'=>(∃v',o=.returned v'/\w'.ownsRow w.heap.size 9 1 v' n news)/\Below w.heap.size w w':=by
 obtain⟨i0,z,hi,hz0,hz1,hz2,hzs⟩:=yU0;have mixed:=qB;have q:=zr4;have u:∀w,Sem.run Tryz.prog (underlying 48) w=.ok (TypeDesc.slice 9) w:=run_underlying YH;have A:Aside (∀j u,news[j]?=some u->w.cell? (a.add j)=some u):=hc;clear hc;go_enter Tryz.func36,Tryz.ntmps36;go_wp2_with(at_builtin;refine wpList_append_own _ rfl _ _ 48 rfl w.heap.size 9 i0 z 1 16 YH hi hz0 hz1 hz2 hzs (by decide) _ _ _ rfl (World.ownsRow_made w #[] 0 (bP _) (lD _) (by simp)) a n c news rfl ?q1 ?q2 ?q3 ?q4 ?q5 ?q6 ?_);case q1=>exact hl
 case q2=>intro j u hj;exact Lib.cell?_alloc_some _ (A.out j u hj)
 case q3=>exact h1
 case q4=>rw[eT];exact hn
 case q5=>rw[eT];exact hbig
 case q6=>simp
 intro v' w1 hown hgrow hnil;go_wp2;go_ret;refine⟨⟨v',rfl,by simpa using hown⟩,?_⟩;exact((Below.refl _ w).alloc (bP _) _).grown hgrow (by simp) (by intro k hk;simp[Value.ownBlock]at hk;omega)
set_option maxHeartbeats 2000000 in set_option maxRecDepth 100000 in theorem yw7(n c:Nat)(w:World):Calls Tryz.prog 36 #[.slice none n c] w fun o w'=>o=.returned (.slice none 0 0)/\w'=w:=by
 have mixed:=qB;have q:=zr4;go_enter Tryz.func36,Tryz.ntmps36;go_wp2;go_ret;exact⟨rfl,rfl⟩
theorem yv6(a:Gv):gG Tryz.prog a 36 (pC 1 16):=JK yw2 yw7
theorem YI:Tryz.prog.underlying 54=some (.slice 66):=by kernel_rfl
theorem yT9:∃(a:TypeInfo)(z:Value),Tryz.prog.info? 66=some a/\a.zero=some z/\a.size=2/\a.bytes=32/\z.cells.size=2:=⟨(Tryz.prog.info? 66).getD default,(((Tryz.prog.info? 66).getD default).zero).getD (.bool false),by kernel_rfl,by kernel_rfl,by kernel_rfl,by kernel_rfl,by kernel_rfl⟩
theorem zr5(w:World)(a:Option Addr)(n c d b:Nat):(binOp .eql 54 (.slice a n c) (.slice none d b)).run Tryz.prog w=.ok (.bool a.isNone) w:=Lib.run_eql_slice_nil w _ _ a n c d b YI
set_option maxHeartbeats 2000000 in set_option maxRecDepth 100000 in theorem yw4(a:Addr)(n c:Nat)(news:List Value)(w:World)(hl:news.length=n*2)(hn:n<=maxLen)(hbig:n*32<=140737488355328)(hc:∀j u,news[j]?=some u->w.cell? (a.add j)=some u)(h1:∀u∈news,u.oneCell'=true):Calls Tryz.prog 66 #[.slice (some a) n c] w fun o w'=>(∃v',o=.returned v'/\w'.ownsRow w.heap.size 66 2 v' n news)/\Below w.heap.size w w':=by
 obtain⟨i0,z,hi,hz0,hz1,hz2,hzs⟩:=yT9;have mixed:=qB;have q:=zr5;have u:∀w,Sem.run Tryz.prog (underlying 54) w=.ok (TypeDesc.slice 66) w:=run_underlying YI;have A:Aside (∀j u,news[j]?=some u->w.cell? (a.add j)=some u):=hc;clear hc;go_enter Tryz.func66,Tryz.ntmps66;go_wp2_with(at_builtin;refine wpList_append_own _ rfl _ _ 54 rfl w.heap.size 66 i0 z 2 32 YI hi hz0 hz1 hz2 hzs (by decide) _ _ _ rfl (World.ownsRow_made w #[] 0 (bP _) (lD _) (by simp)) a n c news rfl ?q1 ?q2 ?q3 ?q4 ?q5 ?q6 ?_);case q1=>exact hl
 case q2=>intro j u hj;exact Lib.cell?_alloc_some _ (A.out j u hj)
 case q3=>exact h1
 case q4=>rw[eT];exact hn
 case q5=>rw[eT];exact hbig
 case q6=>simp
 intro v' w1 hown hgrow hnil;go_wp2;go_ret;refine⟨⟨v',rfl,by simpa using hown⟩,?_⟩;exact((Below.refl _ w).alloc (bP _) _).grown hgrow (by simp) (by intro k hk;simp[Value.ownBlock]at hk;omega)
set_option maxHeartbeats 2000000 in set_option maxRecDepth 100000 in theorem yw9(n c:Nat)(w:World):Calls Tryz.prog 66 #[.slice none n c] w fun o w'=>o=.returned (.slice none 0 0)/\w'=w:=by
 have mixed:=qB;have q:=zr5;go_enter Tryz.func66,Tryz.ntmps66;go_wp2;go_ret;exact⟨rfl,rfl⟩
theorem yv8(a:Gv):gG Tryz.prog a 66 (pC 2 32):=JK yw4 yw9
theorem YF:Tryz.prog.underlying 151=some (.slice 157):=by kernel_rfl
theorem yT6:∃(a:TypeInfo)(z:Value),Tryz.prog.info? 157=some a/\a.zero=some z/\a.size=2/\a.bytes=32/\z.cells.size=2:=⟨(Tryz.prog.info? 157).getD default,(((Tryz.prog.info? 157).getD default).zero).getD (.bool false),by kernel_rfl,by kernel_rfl,by kernel_rfl,by kernel_rfl,by kernel_rfl⟩
theorem zr2(w:World)(a:Option Addr)(n c d b:Nat):(binOp .eql 151 (.slice a n c) (.slice none d b)).run Tryz.prog w=.ok (.bool a.isNone) w:=Lib.run_eql_slice_nil w _ _ a n c d b YF
set_option maxHeartbeats 2000000 in set_option maxRecDepth 100000 in theorem yw5(a:Addr)(n c:Nat)(news:List Value)(w:World)(hl:news.length=n*2)(hn:n<=maxLen)(hbig:n*32<=140737488355328)(hc:∀j u,news[j]?=some u->w.cell? (a.add j)=some u)(h1:∀u∈news,u.oneCell'=true):Calls Tryz.prog 76 #[.slice (some a) n c] w fun o w'=>(∃v',o=.returned v'/\w'.ownsRow w.heap.size 157 2 v' n news)/\Below w.heap.size w w':=by
 obtain⟨i0,z,hi,hz0,hz1,hz2,hzs⟩:=yT6;have mixed:=qB;have q:=zr2;have u:∀w,Sem.run Tryz.prog (underlying 151) w=.ok (TypeDesc.slice 157) w:=run_underlying YF;have A:Aside (∀j u,news[j]?=some u->w.cell? (a.add j)=some u):=hc;clear hc;go_enter Tryz.func76,Tryz.ntmps76;go_wp2_with(at_builtin;refine wpList_append_own _ rfl _ _ 151 rfl w.heap.size 157 i0 z 2 32 YF hi hz0 hz1 hz2 hzs (by decide) _ _ _ rfl (World.ownsRow_made w #[] 0 (bP _) (lD _) (by simp)) a n c news rfl ?q1 ?q2 ?q3 ?q4 ?q5 ?q6 ?_);case q1=>exact hl
 case q2=>intro j u hj;exact Lib.cell?_alloc_some _ (A.out j u hj)
 case q3=>exact h1
 case q4=>rw[eT];exact hn
 case q5=>rw[eT];exact hbig
 case q6=>simp
 intro v' w1 hown hgrow hnil;go_wp2;go_ret;refine⟨⟨v',rfl,by simpa using hown⟩,?_⟩;exact((Below.refl _ w).alloc (bP _) _).grown hgrow (by simp) (by intro k hk;simp[Value.ownBlock]at hk;omega)
set_option maxHeartbeats 2000000 in set_option maxRecDepth 100000 in theorem yx0(n c:Nat)(w:World):Calls Tryz.prog 76 #[.slice none n c] w fun o w'=>o=.returned (.slice none 0 0)/\w'=w:=by
 have mixed:=qB;have q:=zr2;go_enter Tryz.func76,Tryz.ntmps76;go_wp2;go_ret;exact⟨rfl,rfl⟩
theorem yv9(a:Gv):gG Tryz.prog a 76 (pC 2 32):=JK yw5 yx0
theorem YJ:Tryz.prog.underlying 71=some (.slice 159):=by kernel_rfl
theorem yT7:∃(a:TypeInfo)(z:Value),Tryz.prog.info? 159=some a/\a.zero=some z/\a.size=6/\a.bytes=80/\z.cells.size=6:=⟨(Tryz.prog.info? 159).getD default,(((Tryz.prog.info? 159).getD default).zero).getD (.bool false),by kernel_rfl,by kernel_rfl,by kernel_rfl,by kernel_rfl,by kernel_rfl⟩
theorem zr6(w:World)(a:Option Addr)(n c d b:Nat):(binOp .eql 71 (.slice a n c) (.slice none d b)).run Tryz.prog w=.ok (.bool a.isNone) w:=Lib.run_eql_slice_nil w _ _ a n c d b YJ
set_option maxHeartbeats 2000000 in set_option maxRecDepth 100000 in theorem yw1(a:Addr)(n c:Nat)(news:List Value)(w:World)(hl:news.length=n*6)(hn:n<=maxLen)(hbig:n*80<=140737488355328)(hc:∀j u,news[j]?=some u->w.cell? (a.add j)=some u)(h1:∀u∈news,u.oneCell'=true):Calls Tryz.prog 201 #[.slice (some a) n c] w fun o w'=>(∃v',o=.returned v'/\w'.ownsRow w.heap.size 159 6 v' n news)/\Below w.heap.size w w':=by
 obtain⟨i0,z,hi,hz0,hz1,hz2,hzs⟩:=yT7;have mixed:=qB;have q:=zr6;have u:∀w,Sem.run Tryz.prog (underlying 71) w=.ok (TypeDesc.slice 159) w:=run_underlying YJ;have A:Aside (∀j u,news[j]?=some u->w.cell? (a.add j)=some u):=hc;clear hc;go_enter Tryz.func201,Tryz.ntmps201;go_wp2_with(at_builtin;refine wpList_append_own _ rfl _ _ 71 rfl w.heap.size 159 i0 z 6 80 YJ hi hz0 hz1 hz2 hzs (by decide) _ _ _ rfl (World.ownsRow_made w #[] 0 (bP _) (lD _) (by simp)) a n c news rfl ?q1 ?q2 ?q3 ?q4 ?q5 ?q6 ?_);case q1=>exact hl
 case q2=>intro j u hj;exact Lib.cell?_alloc_some _ (A.out j u hj)
 case q3=>exact h1
 case q4=>rw[eT];exact hn
 case q5=>rw[eT];exact hbig
 case q6=>simp
 intro v' w1 hown hgrow hnil;go_wp2;go_ret;refine⟨⟨v',rfl,by simpa using hown⟩,?_⟩;exact((Below.refl _ w).alloc (bP _) _).grown hgrow (by simp) (by intro k hk;simp[Value.ownBlock]at hk;omega)
set_option maxHeartbeats 2000000 in set_option maxRecDepth 100000 in theorem yw6(n c:Nat)(w:World):Calls Tryz.prog 201 #[.slice none n c] w fun o w'=>o=.returned (.slice none 0 0)/\w'=w:=by
 have mixed:=qB;have q:=zr6;go_enter Tryz.func201,Tryz.ntmps201;go_wp2;go_ret;exact⟨rfl,rfl⟩
theorem yv5(a:Gv):gG Tryz.prog a 201 (pC 6 80):=JK yw1 yw6
theorem YG:Tryz.prog.underlying 45=some (.slice 47):=by kernel_rfl
theorem yT8:∃(a:TypeInfo)(z:Value),Tryz.prog.info? 47=some a/\a.zero=some z/\a.size=4/\a.bytes=64/\z.cells.size=4:=⟨(Tryz.prog.info? 47).getD default,(((Tryz.prog.info? 47).getD default).zero).getD (.bool false),by kernel_rfl,by kernel_rfl,by kernel_rfl,by kernel_rfl,by kernel_rfl⟩
theorem zr3(w:World)(a:Option Addr)(n c d b:Nat):(binOp .eql 45 (.slice a n c) (.slice none d b)).run Tryz.prog w=.ok (.bool a.isNone) w:=Lib.run_eql_slice_nil w _ _ a n c d b YG
set_option maxHeartbeats 2000000 in set_option maxRecDepth 100000 in theorem yw3(a:Addr)(n c:Nat)(news:List Value)(w:World)(hl:news.length=n*4)(hn:n<=maxLen)(hbig:n*64<=140737488355328)(hc:∀j u,news[j]?=some u->w.cell? (a.add j)=some u)(h1:∀u∈news,u.oneCell'=true):Calls Tryz.prog 64 #[.slice (some a) n c] w fun o w'=>(∃v',o=.returned v'/\w'.ownsRow w.heap.size 47 4 v' n news)/\Below w.heap.size w w':=by
 obtain⟨i0,z,hi,hz0,hz1,hz2,hzs⟩:=yT8;have mixed:=qB;have q:=zr3;have u:∀w,Sem.run Tryz.prog (underlying 45) w=.ok (TypeDesc.slice 47) w:=run_underlying YG;have A:Aside (∀j u,news[j]?=some u->w.cell? (a.add j)=some u):=hc;clear hc;go_enter Tryz.func64,Tryz.ntmps64;go_wp2_with(at_builtin;refine wpList_append_own _ rfl _ _ 45 rfl w.heap.size 47 i0 z 4 64 YG hi hz0 hz1 hz2 hzs (by decide) _ _ _ rfl (World.ownsRow_made w #[] 0 (bP _) (lD _) (by simp)) a n c news rfl ?q1 ?q2 ?q3 ?q4 ?q5 ?q6 ?_);case q1=>exact hl
 case q2=>intro j u hj;exact Lib.cell?_alloc_some _ (A.out j u hj)
 case q3=>exact h1
 case q4=>rw[eT];exact hn
 case q5=>rw[eT];exact hbig
 case q6=>simp
 intro v' w1 hown hgrow hnil;go_wp2;go_ret;refine⟨⟨v',rfl,by simpa using hown⟩,?_⟩;exact((Below.refl _ w).alloc (bP _) _).grown hgrow (by simp) (by intro k hk;simp[Value.ownBlock]at hk;omega)
set_option maxHeartbeats 2000000 in set_option maxRecDepth 100000 in theorem yw8(n c:Nat)(w:World):Calls Tryz.prog 64 #[.slice none n c] w fun o w'=>o=.returned (.slice none 0 0)/\w'=w:=by
 have mixed:=qB;have q:=zr3;go_enter Tryz.func64,Tryz.ntmps64;go_wp2;go_ret;exact⟨rfl,rfl⟩
theorem yv7(a:Gv):gG Tryz.prog a 64 (pC 4 64):=JK yw3 yw8
end
section
open Go.Lib Go.Sort Go.Shelf
theorem xw3(a b:Bs)(w:World):Calls Tryz.prog 125 #[.string ⟨a.toArray⟩,.string ⟨b.toArray⟩] w fun e c=>e=.returned (.int .i64 (Lib.compareBytes a b))/\c=w:=by
 have h:Calls Tryz.prog 125 #[.string ⟨a.toArray⟩,.string ⟨b.toArray⟩] w fun e c=>e=.returned (.int .i64 (Lib.compareBytes (ByteArray.mk a.toArray).data.toList (ByteArray.mk b.toArray).data.toList))/\c=w:=Tryz.strings_Compare ⟨a.toArray⟩ ⟨b.toArray⟩ w;simpa using h
set_option maxHeartbeats 1000000 in set_option maxRecDepth 100000 in theorem yy3(x y:PD)(W:World):Calls Tryz.prog 124 #[.agg (gW x).toArray,.agg (gW y).toArray] W fun e w'=>e=.returned (.int .i64 (cfP x y))/\∃q os',w'=Go.Sort.grow (W.drewN q) os':=by
 obtain⟨p,d⟩:=x;obtain⟨p',d'⟩:=y;have hcon:∀W',Calls Tryz.prog 125 #[.string ⟨p.toArray⟩,.string ⟨p'.toArray⟩] W' fun e w'=>e=.returned (.int .i64 (cfP (p,d) (p',d')))/\w'=W':=fun W'=>xw3 p p' W';generalize cfP (p,d) (p',d')=r at hcon⊢;show Calls Tryz.prog 124 #[.agg #[.string ⟨p.toArray⟩,.string ⟨d.toArray⟩],.agg #[.string ⟨p'.toArray⟩,.string ⟨d'.toArray⟩]] W _;go_enter Tryz.func124,Tryz.ntmps124;go_wp2_with(go_at_call 125;refine(hcon _).mono ?_;rintro e w'⟨rfl,rfl⟩);go_ret;exact⟨rfl,0,_,by rw[alloc_eq_grow,alloc_eq_grow,grow_grow];rfl⟩
theorem yo2:∀w,(isAgg 66).run Tryz.prog w=.ok true w:=qI (by kernel_rfl)
theorem xs3:∀w,(Go.sizeOf 66).run Tryz.prog w=.ok 2 w:=jC (by kernel_rfl)
set_option maxHeartbeats 2000000 in set_option maxRecDepth 100000 in theorem xt7(g:Nat)(hg:∀args w,(callFunc g args).run Tryz.prog w=.ok (.enter g args) w)(hc:∀x y W,Calls Tryz.prog g #[.agg (gW x).toArray,.agg (gW y).toArray] W fun e w'=>e=.returned (.int .i64 (cfP x y))/\∃q os',w'=Go.Sort.grow (W.drewN q) os')(blk off cap:Nat)(d:Array PD)(w:World)(hH:HoldsK gW 2 w blk off d)(hblk:blk<w.heap.size)(hsz:d.size<4611686018427387904):Calls Tryz.prog 27 #[.slice (some ⟨blk,off,none⟩) d.size cap,.func (.func g) #[] #[]] w fun e w'=>e=.returned (.tuple #[])/\∃d' n os,PermIn 0 d.size d d'/\SortedIn (ltOf cfP) 0 d.size d'/\w'=sortWorldK gW 2 w blk off n d' os:=by
 have mixed:=qB;have hlim:Lib.bitLen d.size<4611686018427387904:=Nat.lt_of_le_of_lt (Lib.bitLen_le d.size 62 (by omega) (by omega)) (by omega);have h1:∀x,∀v∈gW x,v.oneCell'=true:=fun x v hv=>by simp[gW]at hv;rcases hv with rfl|rfl<;>rfl
 have hs:=pdq_sorts (ltOf cfP) yc6 d 0 d.size (Lib.bitLen d.size) true true (lD _) (bP _) (Or.inl rfl);have hp:Calls Tryz.prog 56 #[.slice (some ⟨blk,off,none⟩) d.size cap,.int .i64 0,.int .i64 (d.size:Int),.int .i64 (Lib.bitLen d.size:Nat),.func (.func g) #[] #[]] w fun e w'=>e=.returned (.tuple #[])/\SWK gW 2 w blk off (pdq (ltOf cfP) d 0 d.size (Lib.bitLen d.size) true true) w':=AnyQ.pdqsortCmpFunc_all Tryz.pdqFile 2 yo2 xs3 gW cfP g #[] yc6 blk off cap d w hg (fun _ _ _ _ x y=>hc x y _) ⟨fun _=>rfl,h1,hH,hblk⟩ (d.size+1) 0 d.size (Lib.bitLen d.size) d w (by omega) rfl (SWK.start hH) (lD _) (bP _) hsz hlim (Or.inl rfl);have hl:Calls Tryz.prog 57 #[.int .u64 (d.size:Int)] w fun e w'=>e=.returned (.int .i64 (Lib.bitLen d.size:Nat))/\w'=w:=by
  have h:=Tryz.bits_Len (d.size:Int) w (by omega) (by omega);rwa[qV]at h
 have wr:IntKind.u64.wrap (d.size:Int)=d.size:=by simp[IntKind.wrap,IntKind.bits,IntKind.signed];omega
 generalize pdq (ltOf cfP) d 0 d.size (Lib.bitLen d.size) true true=d' at hp hs;generalize Lib.bitLen d.size=bl at hp hl;generalize d.size=n at hp hl wr hs⊢;clear hH hc h1 hlim hsz;go_enter Tryz.func27,Tryz.ntmps27;go_wp2_with(first|(go_at_call 57;refine hl.mono ?_;rintro e w'⟨rfl,rfl⟩)|(go_at_call 56;refine hp.mono ?_;rintro e w'⟨rfl,n,os,rfl⟩));go_end0;exact⟨rfl,d',n,os,hs.1,hs.2,rfl⟩
set_option maxHeartbeats 1000000 in set_option maxRecDepth 100000 in theorem xt6(fv:Value)(p:Option Addr)(cap:Nat)(w:World):Calls Tryz.prog 27 #[.slice p 0 cap,fv] w fun e w'=>e=.returned (.tuple #[])/\w'=w:=by
 have mixed:=qB;have hp:∀lim,Calls Tryz.prog 56 #[.slice p 0 cap,.int .i64 0,.int .i64 0,.int .i64 lim,fv] w fun e w'=>e=.returned (.tuple #[])/\w'=w:=fun lim=>AnyF.pdqsortCmpFunc_none Tryz.pdqFile p cap lim fv w;have hl:Calls Tryz.prog 57 #[.int .u64 0] w fun e w'=>e=.returned (.int .i64 (Lib.bitLen 0:Nat))/\w'=w:=Tryz.bits_Len 0 w (by omega) (by omega);go_enter Tryz.func27,Tryz.ntmps27;go_wp2_with(first|(go_at_call 57;refine hl.mono ?_;rintro e w'⟨rfl,rfl⟩)|(go_at_call 56;refine(hp _).mono ?_;rintro e w'⟨rfl,rfl⟩));go_end0;exact⟨rfl,rfl⟩
theorem xt8(c:Gv):gG Tryz.prog c 27 (vZ [124]):=xu0 (fun _ _ p a w=>xt6 _ p a w) fun g h b j a d w e f i=>by
 obtain rfl:=gU.1 h;exact xt7 124 (Go.Proofs.enters_of Tryz.func124 (by kernel_rfl) rfl) yy3 b j a d w e f i
end
theorem yU1:∃(a:TypeInfo)(z:Value),Tryz.prog.info? 9=some a/\a.zero=some z/\a.size=1/\a.bytes=16/\z.cells.size=1:=⟨(Tryz.prog.info? 9).getD default,(((Tryz.prog.info? 9).getD default).zero).getD (.bool false),by kernel_rfl,by kernel_rfl,by kernel_rfl,by kernel_rfl,by kernel_rfl⟩
theorem yL8(d:Gv):gG Tryz.prog d 123 (uC 1):=by
 obtain⟨l,z,h,j,r,f,k⟩:=yU1;refine zz4 (e:=9) (fun n w p q=>?_) fun w=>?_
 ·refine(Any8.slices_Grow_grow Tryz.grow123 l z h j (by omega) none 0 0 n [] w (bP _) (by omega) (by rw[f];omega) (by omega) (by simp) (fun _=>rfl) (fun a e=>by cases e)).mono fun o m b=>?_;obtain⟨rfl,rfl⟩:=b;have g:=grownCap_ge w (0+n) 0 9;have i:=grownCap_le_maxLen w (0+n) 0 9 (by unfold maxLen;omega);refine⟨_,_,rfl,oN _ _,?_,i,sR w _⟩;have c:Tryz.grow123_ren.t 25=9:=rfl;simp only[Array.size_append,size_zeroCells,k,c,eT]at g⊢;simp;omega
 ·refine(Any8.slices_Grow_room Tryz.grow123 none 0 0 0 w (bP _) (by omega) (by omega) (by omega)).mono fun o m b=>?_;obtain⟨rfl,rfl⟩:=b;exact⟨rfl,rfl⟩
theorem yU2:∃(a:TypeInfo)(z:Value),Tryz.prog.info? 58=some a/\a.zero=some z/\a.size=3/\a.bytes=32/\z.cells.size=3:=⟨(Tryz.prog.info? 58).getD default,(((Tryz.prog.info? 58).getD default).zero).getD (.bool false),by kernel_rfl,by kernel_rfl,by kernel_rfl,by kernel_rfl,by kernel_rfl⟩
theorem yL9(d:Gv):gG Tryz.prog d 396 (uC 3):=by
 obtain⟨l,z,h,j,r,f,k⟩:=yU2;refine zz4 (e:=58) (fun n w p q=>?_) fun w=>?_
 ·refine(Any8.slices_Grow_grow Tryz.grow396 l z h j (by omega) none 0 0 n [] w (bP _) (by omega) (by rw[f];omega) (by omega) (by simp) (fun _=>rfl) (fun a e=>by cases e)).mono fun o m b=>?_;obtain⟨rfl,rfl⟩:=b;have g:=grownCap_ge w (0+n) 0 58;have i:=grownCap_le_maxLen w (0+n) 0 58 (by unfold maxLen;omega);refine⟨_,_,rfl,oN _ _,?_,i,sR w _⟩;have c:Tryz.grow396_ren.t 25=58:=rfl;simp only[Array.size_append,size_zeroCells,k,c,eT]at g⊢;simp;omega
 ·refine(Any8.slices_Grow_room Tryz.grow396 none 0 0 0 w (bP _) (by omega) (by omega) (by omega)).mono fun o m b=>?_;obtain⟨rfl,rfl⟩:=b;exact⟨rfl,rfl⟩
end Go.Proofs.YtpefhfiehfkocaaGreatDoor
