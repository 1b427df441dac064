/- A function -/
import Derived.Test.YtdebajodkallbaaGreatDoorAm7
namespace Go.Proofs.YtdebajodkallbaaGreatDoor
open Go.RowKit
inductive RV where|tmp(t:Nat)|cell(a size:Nat)(agg:Bool)deriving Inhabited
def OX(P:Program):ResultVar->Option RV
 |.tmp t=>some (.tmp t)|.cell a t=>match eI P t,lS P t with
  |some n,some g=>some (.cell a n g)|_,_=>none
def mD(P:Program):List ResultVar->Option (List RV)
 |[]=>some []|x::b=>match OX P x,mD P b with
  |some y,some c=>some (y::c)|_,_=>none
def fK(e:Nat->Option AV)(h:aA):RV->Option AV
 |.tmp t=>e t|.cell a c b=>match e a with
  |some p=>aB c b h p|none=>none
def eZ(e:Nat->Option AV)(h:aA):List RV->Option (List AV)
 |[]=>some []|x::c=>match fK e h x,eZ e h c with
  |some v,some b=>some (v::b)|_,_=>none
def dS(e:Nat->Option AV)(h:aA)(b:List RV):Option AV:=match eZ e h b with
 |some [v]=>some v|some c=>some (.tup c)|none=>none
def aC:List Nat->List AV->List (Nat×AV)
 |[],_=>[]|k::ks,b=>(k,(b[k]?).getD .junk)::aC ks b
def aD(b:List RV)(r:AV):aY:=fun x env fr h=>(match x with|.exit _=>False|_=>True)/\∃v,dS (bV env fr) h b=some v/\view h v=some r
def xf6(b:List RV)(r:AV):aY:=fun x env fr h=>(match x with|.exit _=>False|_=>True)/\∃v,dS (bV env fr) h b=some v/\gB h v=some r
def dM(b:List RV)(r:AV)(h':aA):aY:=fun x env fr h=>(match x with|.exit _=>False|_=>True)/\dS (bV env fr) h b=some r/\h=h'
section
variable{P:Program}{B:Base}{C D:Cx}{h:aA}{w w':World}{G:Gam}{a:Act}
theorem xj0(m:Inv B C h w){e:Nat->Option AV}(k:RelT C e a){x:ResultVar}{y:RV}{v:AV}(c:OX P x=some y)(d:fK e h y=some v):∃u,Rel C v u/\(match x with|.tmp t=>(pure (a.tmps.getD t undef):Sem Value)|.cell b t=>do loadVar t (<-asAddr (a.tmps.getD b undef))).run P w=.ok u w:=by cases x with
 |tmp t=>
  simp only[OX,aT]at c;subst c;obtain⟨u,i,f⟩:=k t v d;exact⟨u,f,by simp[i]⟩|cell b t=>
  simp only[OX]at c;split at c
  ·rename_i n g o l;simp only[aT]at c;subst c;simp only[fK]at d;split at d
   ·rename_i p q;obtain⟨x,i,f⟩:=k b p q;obtain⟨u,k1,k2⟩:=zz2 m l o f d;have k3:=k2 w (Below.refl _ _);have r:∃j,x=.pointer (some j):=by cases f<;>simp[aB]at d<;>exact⟨_,rfl⟩
    obtain⟨j,rfl⟩:=r;refine⟨u,k1,?_⟩;simp only[Instr.loadAt,Instr.sureAddr,Sem.run_bind,Sem.run_pure,Result.andThen_ok]at k3;simp[i,asAddr,k3]
   ·cases d
  ·cases c
theorem YA(k:Inv B C h w){e:Nat->Option AV}(l:RelT C e a):∀{j:List ResultVar}{i:List RV}{g:List AV},mD P j=some i->eZ e h i=some g->∃f,RelL C g f/\(j.mapM (m:=Sem) fun|.tmp t=>(pure (a.tmps.getD t undef):Sem Value)|.cell b t=>do loadVar t (<-asAddr (a.tmps.getD b undef))).run P w=.ok f w
 |[],i,g,c,d=>by
  simp[mD]at c;subst c;simp[eZ]at d;subst d;exact⟨[],.nil,by simp⟩|x::j,i,g,c,d=>by
  simp only[mD]at c;split at c
  ·rename_i y r n o;injection c with c;subst c;simp only[eZ]at d;split at d
   ·rename_i v q p h4;injection d with d;subst d;obtain⟨u,k1,k2⟩:=xj0 k l n p;obtain⟨f,k3,k4⟩:=YA k l o h4;refine⟨u::f,.cons k1 k3,?_⟩;rw[List.mapM_cons,Sem.run_bind,k2,Result.andThen_ok,Sem.run_bind,k4];simp
   ·cases d
  ·cases c
theorem wF(n:Inv B C h w){e:Nat->Option AV}(p:RelT C e a){g:Func}{q:List RV}{v:AV}(j:mD P g.results.toList=some q)(d:dS e h q=some v):∃u,Rel C v u/\(results g a.tmps).run P w=.ok u w:=by
 unfold dS at d;have run:∀f:List Value,(g.results.toList.mapM (m:=Sem) fun|.tmp t=>(pure (a.tmps.getD t undef):Sem Value)|.cell b t=>do loadVar t (<-asAddr (a.tmps.getD b undef))).run P w=.ok f w->(results g a.tmps).run P w=.ok (if h:f.toArray.size=1 then f.toArray[0]else .tuple f.toArray) w:=fun f k=>by
  unfold results;rw[Array.mapM_eq_mapM_toList];simp only[bind_map_left,Sem.run_bind,Sem.run_pure];exact(congrArg (fun r=>Result.andThen r _) k).trans rfl
 split at d
 ·rename_i x l;injection d with d;subst d;obtain⟨f,k1,k2⟩:=YA n p j l;obtain⟨u,E,rfl,k3,k4⟩:=k1.inv_cons;have:=k4.inv_nil;subst this;exact⟨u,k3,by rw[run _ k2];simp⟩
 ·rename_i A z l;injection d with d;subst d;obtain⟨f,k1,k2⟩:=YA n p j l;refine⟨.tuple f.toArray,.tup _ _ (by simpa using k1.1) (fun i c u j k=>k1.2 i c u j (by simpa using k)),?_⟩;rw[run _ k2];have:f.length≠1:=fun e=>by
   have o:=k1.1;rw[e]at o;match A,o with|[y],_=>exact z y rfl
  rw[dif_neg (by simpa using this)]
 ·cases d
theorem WA(b:List AV):∀(ks:List Nat)(t:Nat)(x:AV),lkp t (aC ks b)=some x->t∈ks/\x=(b[t]?).getD .junk
 |[],t,x,h=>by simp[aC,lkp]at h|k::ks,t,x,h=>by
  simp only[aC,lkp]at h;split at h;·rename_i e;subst e;injection h with h;exact⟨by simp,h.symm⟩
  ·have:=WA b ks t x h;exact⟨by simp[this.1],this.2⟩
theorem uM(j:Inv B C h w){ks:List Nat}{n:Nat}(l:ks.all (fun k=>decide (k<n))=true){d:List AV}{b:Array Value}(m:RelL C d b.toList):StOK ks n B C [] (aC ks d) h {tmps:=b++Array.replicate (n-b.size) undef,defers:=[]} w:=by
 have o:n<=(b++Array.replicate (n-b.size) undef).size:=by simp;omega
 refine⟨j,fun t x e=>?_,fun t v e=>by simp[lkp]at e,fun t v e=>?_,o⟩
 ·have p:lkp t (aC ks d)=some x:=e;obtain⟨g,rfl⟩:=WA d ks t x p;have q:t<n:=by simpa using gV.1 l t g
  cases i:d[t]? with
  |some c=>
   obtain⟨u,k1,k2⟩:=m.get i;have f:t<b.size:=by have:=(aV.1 k1).1;simpa using this
   refine⟨u,?_,k2⟩;show(b++Array.replicate (n-b.size) undef)[t]?=some u;rw[Array.getElem?_append_left f];simpa using k1|none=>
   have f:t<(b++Array.replicate (n-b.size) undef).size:=by omega
   exact⟨(b++Array.replicate (n-b.size) undef)[t],by simp,.junk _⟩
 ·have:=(WA d ks t v e).1;simpa using this
theorem yj5{l b:Nat}{p:Blk}(j:BlkOK B C w l p)(d:bJ C l p=some b):∃o,w.heap[b]?=some o/\∀c,o≠.deferred c:=by cases p with
 |cellsT tg L=>
  obtain⟨k,q,e,f,i,g,_⟩:=j;simp only[bJ,f,aT]at d;subst d;exact⟨_,g,fun c=>by simp⟩|arrX F tg J K I wr=>
  rcases j with⟨f,i⟩|⟨r,q,f,i,_,_,_,t,_⟩;·simp[bJ,f]at d
  ·simp only[bJ,f,aT]at d;subst d;exact⟨_,t,fun c=>by simp⟩|map y=>
  obtain⟨k,E,v,f,i,g,_⟩:=j;simp only[bJ,f,aT]at d;subst d;exact⟨_,g,fun c=>by simp⟩|iter s H=>
  obtain⟨k,f,i,g⟩:=j;simp only[bJ,f,aT]at d;subst d;exact⟨_,g,fun c=>by simp⟩|lp u x=>
  obtain⟨k,r,f,i,_,g⟩:=j;simp only[bJ,f,aT]at d;subst d;exact⟨_,g,fun c=>by simp⟩|mit m n seen z=>
  obtain⟨k,A,f,i,g,_⟩:=j;simp only[bJ,f,aT]at d;subst d;exact⟨_,g,fun c=>by simp⟩|dead=>simp[bJ]at d
theorem zx0(d:Inv B C h w){k:Nat}{c:Option (List Deferred)}(m:w.heap[k]?=some (.deferred c))(o:Obj):Inv B C h (World.put w k o):=by
 refine⟨fun b i u z=>?_,d.one,fun l n p=>?_,d.inj,d.fr,d.fv,by rw[XS];exact d.hB,d.low,d.gl,fun g r y=>(by
  obtain⟨v,T,t,j⟩:=d.tb g r y;exact⟨v,T,t,by rw[FI (fun e=>by subst e;rw[m]at j;cases j)];exact j⟩),d.rcl,d.cle⟩
 ·have q:=d.im b i u z;refine zH4 (fun e=>?_) q;subst e;simp[World.cell?,m]at q
 ·refine(d.ok l n p).stay (.refl C) fun b x=>⟨FI fun e=>?_,fun _=>rfl⟩;subst e;obtain⟨E,f,A⟩:=yj5 (d.ok l n p) x;rw[m]at f;injection f with f;exact A c f.symm
theorem zy6{m:Func}{p:Array Value}{R:Ending->World->Prop}{i:World}(q:B.n<=i.heap.size)(fin:∀f,Inv B C h f->Keep B i f->∃v,(results m p).run P f=.ok v f/\R (.returned v) f):∀(g:List Nat)(w:World),Inv B C h w->Keep B i w->Marks i g w->LeavesInM Fence.wide 0 P m p R (g.map mark) .returning w
 |[],w,l,b,_=>fin w l b|D::g,w,l,b,d=>by
  obtain⟨r,n⟩:=d.there D (by simp);refine⟨by simp,.inl ⟨D,_,rfl,run_takeDeferred n,?_⟩⟩;refine zy6 q fin g _ (zx0 l n _) ⟨?_,fun k c o=>?_⟩ ⟨(List.nodup_cons.1 d.nodup).2,fun E j=>?_⟩;·exact b.below.trans ⟨rfl,rfl,rfl,by simp,fun k b=>World.putObj_heap_other (by omega)⟩
  ·have:k≠D:=fun e=>by subst e;have:=gY o;omega
   exact(World.putObj_heap_other this).trans (b.sys k c o)
  ·have:E≠D:=fun e=>by subst e;exact(List.nodup_cons.1 d.nodup).1 j
   exact⟨(d.there E (by simp[j])).1,(World.putObj_heap_other this).trans (d.there E (by simp[j])).2⟩
theorem xU{f:FuncId}{d:Func}{c:Code}(t:P.funcs[f]?=some d)(r:d.body=some c){ks:List Nat}{j:Cx}{Q:aY}{g:Array Value}{R:Ending->World->Prop}(o:B.n<=w.heap.size)(A:c.wpIn (fR none) 0 P (NJ ks d.ntmps B j w [] Q) {tmps:=g++Array.replicate (d.ntmps-g.size) undef,defers:=[]} w)(fin:∀x env fr h C a b,Q x env fr h->StOK ks d.ntmps B C env fr h a b->j.Le C->Keep B w b->(match x with|.exit _=>False|_=>True)/\∃v,(results d a.tmps).run P b=.ok v b/\R (.returned v) b):Calls P f g w R:=by
 refine(callsIn_wide (n:=0)).1 (callsIn_of_wp_marks (F:=Fence.wide) t r trivial (wpIn_mono A fun e a b z=>?_));obtain⟨x,env,fr,l,k,k1,k2,k3,k4⟩:=z;obtain⟨n,p,q⟩:=k4.ds;have m:LeavesInM Fence.wide 0 P d a.tmps R a.defers .returning b:=by
  rw[p,dY];exact zy6 o (fun E u y=>(fin x env fr l k a E k2 ⟨u,k3.rel,k3.sep,k3.keys,k3.size⟩ k4.le y).2) n b k3.inv k4.keep q
 cases x with
 |normal=>cases e<;>simp only[MX.is]at k1;exact m|ret=>cases e<;>simp only[MX.is]at k1;exact m|exit i=>exact(fin (.exit i) env fr l k a b k2 k3 k4.le k4.keep).1.elim
abbrev PW(G:Gam)(c:MC)(d:List RV)(ks:List Nat)(F:List AV->Option AV):Prop:=∀b r,F b=some r->wpM G c (aD d r) [] (aC ks b) []
theorem XR(W:P.follows .mixedOrders=true){i:Gv}(M:GamOK P i G){f:FuncId}{e:Func}{c:Code}(N:P.funcs[f]?=some e)(d:e.body=some c){ks ow:List Nat}{dl:List (List Nat)}{rs:List RV}{y:MC}(V:ks.all (fun a2=>decide (a2<e.ntmps))=true)(Z:mD P e.results.toList=some rs)(X:(nH P i ks e.ntmps ow c dl).1=y){F:List AV->Option AV}(K:∀k r,F k=some r->wpM G y (aD rs r) [] (aC ks k) []):dW P i f F:=by
 intro I w k r b2 p q Y L;have U:Inv ⟨w.heap.size,I,i,fun _=>none,Cx.pure fun _ _=>none⟩ (Cx.pure I) [] w:=⟨p.cell,p.one,fun l z d=>by simp at d,fun l l' z a3 b d=>by simp at d,fun l _=>⟨rfl,fun _=>rfl⟩,fun l ne tg sz b3 b1 wr d=>by simp at d,dA _,fun b o u _ j=>j,q.gl,(fun g A S=>(by obtain⟨T,J,n⟩:=q.tb g A S;exact⟨gY n,T,J,n⟩)),(fun l x hx=>by cases hx),⟨(fun _ _ _ x=>by cases x),(fun _ _ x=>by cases x),(fun _ _ _ x=>by cases x)⟩⟩;have a1:=uM (n:=e.ntmps) U V Y;have t:=K k r L;rw[<-X]at t;have hw:=lU W c true none (fun _=>rfl) ⟨w.heap.size,I,i,fun _=>none,Cx.pure fun _ _=>none⟩ (GamOK.b M) dl _ w [] _ [] _ [] _ _ w a1 (.start rfl) t;refine xU N d (dA _) hw fun x env fr h' C' a' w' k0 k5 k6 k7=>?_;obtain⟨k2,v,k3,k4⟩:=k0;refine⟨k2,?_⟩;obtain⟨u,r1,r2⟩:=wF k5.inv k5.rel Z k3;have O:frz h' v=some (r,eS h' (owns v)):=by simp[frz,k4]
 obtain⟨D,E,m,H,d4,d5⟩:=tZ k5.inv O r1;exact⟨u,r2,u,D.im,rfl,⟨fun b o u j=>E.im _ _ _ (k6.im _ _ _ j),fun b o u j d=>m.low b o u d j⟩,m.holds,H,k7.below⟩
theorem xf7(X:P.follows .mixedOrders=true){i:Gv}(N:GamOK P i G){f:FuncId}{e:Func}{c:Code}(O:P.funcs[f]?=some e)(d:e.body=some c){ks ow:List Nat}{dl:List (List Nat)}{z:List RV}{y:MC}(W:ks.all (fun a3=>decide (a3<e.ntmps))=true)(a1:mD P e.results.toList=some z)(Y:(nH P i ks e.ntmps ow c dl).1=y){F:List AV->Option AV}(L:∀k r,F k=some r->wpM G y (xf6 z r) [] (aC ks k) []):dW P i f F:=by
 intro I w k r b3 p q Z M;have V:Inv ⟨w.heap.size,I,i,fun _=>none,Cx.pure fun _ _=>none⟩ (Cx.pure I) [] w:=⟨p.cell,p.one,fun l A d=>by simp at d,fun l l' A b1 b d=>by simp at d,fun l _=>⟨rfl,fun _=>rfl⟩,fun l ne tg sz c1 b2 wr d=>by simp at d,dA _,fun b o u _ j=>j,q.gl,(fun g E U=>(by obtain⟨T,K,n⟩:=q.tb g E U;exact⟨gY n,T,K,n⟩)),(fun l x hx=>by cases hx),⟨(fun _ _ _ x=>by cases x),(fun _ _ x=>by cases x),(fun _ _ _ x=>by cases x)⟩⟩;have a2:=uM (n:=e.ntmps) V W Z;have t:=L k r M;rw[<-Y]at t;have hw:=lU X c true none (fun _=>rfl) ⟨w.heap.size,I,i,fun _=>none,Cx.pure fun _ _=>none⟩ (GamOK.b N) dl _ w [] _ [] _ [] _ _ w a2 (.start rfl) t;refine xU O d (dA _) hw fun x env fr h' C' a' w' k0 k5 k6 k7=>?_;obtain⟨k2,v,k3,k4⟩:=k0;refine⟨k2,?_⟩;obtain⟨u,r1,r2⟩:=wF k5.inv k5.rel a1 k3;have S:EF h' v=some (r,eS h' (owns v)):=by simp[EF,k4]
 obtain⟨D,H,m,J,d4,d5⟩:=zt0 k5.inv S r1;exact⟨u,r2,u,D.im,rfl,⟨fun b o u j=>H.im _ _ _ (k6.im _ _ _ j),fun b o u j d=>m.low b o u d j⟩,m.holds,J,k7.below⟩
def XJ:AV->List AV
 |.tup b=>b|v=>[v]
def xf8(c:List RV)(r:AV):aY:=fun x env fr h=>(match x with|.exit _=>False|_=>True)/\∃v b,dS (bV env fr) h c=some v/\yU h (XJ v)=some b/\gB b v=some r
theorem xf9(Z:P.follows .mixedOrders=true){i:Gv}(S:GamOK P i G){f:FuncId}{e:Func}{c:Code}(U:P.funcs[f]?=some e)(d:e.body=some c){ks ow:List Nat}{dl:List (List Nat)}{A:List RV}{z:MC}(Y:ks.all (fun b1=>decide (b1<e.ntmps))=true)(a2:mD P e.results.toList=some A)(a1:(nH P i ks e.ntmps ow c dl).1=z){F:List AV->Option AV}(N:∀k r,F k=some r->wpM G z (xf8 A r) [] (aC ks k) []):dW P i f F:=by
 intro I w k r c2 q t hr O;have X:Inv ⟨w.heap.size,I,i,fun _=>none,Cx.pure fun _ _=>none⟩ (Cx.pure I) [] w:=⟨q.cell,q.one,fun l H d=>by simp at d,fun l l' H b3 b d=>by simp at d,fun l _=>⟨rfl,fun _=>rfl⟩,fun l ne tg sz c3 c1 wr d=>by simp at d,dA _,fun b o u _ j=>j,t.gl,(fun g J W=>(by obtain⟨T,M,p⟩:=t.tb g J W;exact⟨gY p,T,M,p⟩)),(fun l x hx=>by cases hx),⟨(fun _ _ _ x=>by cases x),(fun _ _ x=>by cases x),(fun _ _ _ x=>by cases x)⟩⟩;have a3:=uM (n:=e.ntmps) X Y hr;have y:=N k r O;rw[<-a1]at y;have hw:=lU Z c true none (fun _=>rfl) ⟨w.heap.size,I,i,fun _=>none,Cx.pure fun _ _=>none⟩ (GamOK.b S) dl _ w [] _ [] _ [] _ _ w a3 (.start rfl) y;refine xU U d (dA _) hw fun x env fr h' C' a' w' k0 k5 k6 k7=>?_;obtain⟨k2,v,n,k3,b2,k4⟩:=k0;refine⟨k2,?_⟩;obtain⟨u,r1,r2⟩:=wF k5.inv k5.rel a2 k3;obtain⟨D0,E,z2⟩:=YM k5.inv b2;have V:EF n v=some (r,eS n (owns v)):=by simp[EF,k4]
 obtain⟨D,K,m,L,d4,d5⟩:=zt0 z2 V (r1.mono E);exact⟨u,r2,u,D.im,rfl,⟨fun b o u j=>K.im _ _ _ (E.im _ _ _ (k6.im _ _ _ j)),fun b o u j d=>m.low b o u d j⟩,m.holds,L,k7.below⟩
abbrev GW(G:Gam)(c:MC)(d:List RV)(ks:List Nat)(F:List AV->aA->Option (AV×aA)):Prop:=∀b h r h',F b h=some (r,h')->wpM G c (dM d r h') [] (aC ks b) h
theorem zu1(z:P.follows .mixedOrders=true){e:Gv}(p:GamOK P e G){f:FuncId}{b:Func}{c:Code}(t:P.funcs[f]?=some b)(q:b.body=some c){ks ow:List Nat}{dl:List (List Nat)}{l:List RV}{j:MC}(y:ks.all (fun k=>decide (k<b.ntmps))=true)(H:mD P b.results.toList=some l)(A:(nH P e ks b.ntmps ow c dl).1=j){F:List AV->aA->Option (AV×aA)}(n:∀d h r h',F d h=some (r,h')->wpM G j (dM l r h') [] (aC ks d) h):fA P e f F:=by
 intro B C h w d r h' O v g E o;subst v;have I:=uM (n:=b.ntmps) g y E;have i:=n d h r h' o;rw[<-A]at i;have J:=lU z c true none (fun _=>rfl) B (GamOK.b p) dl _ w [] _ [] _ h _ _ w I (.start rfl) i;refine xU t q g.hB J fun x env fr N m M w' k0 k5 k6 k7=>?_;obtain⟨k2,k3,k4⟩:=k0;subst k4;refine⟨k2,?_⟩;obtain⟨u,K,L⟩:=wF k5.inv k5.rel H k3;exact⟨u,L,u,m,rfl,k6,k5.inv,K,k7⟩
def yA2(b:List RV)(r:AV)(h':aA):aY:=fun x env fr h=>(match x with|.exit _=>False|_=>True)/\∃v,dS (bV env fr) h b=some v/\frz h v=some (r,h')
theorem yA3(H:P.follows .mixedOrders=true){e:Gv}(t:GamOK P e G){f:FuncId}{b:Func}{c:Code}(z:P.funcs[f]?=some b)(y:b.body=some c){ks ow:List Nat}{dl:List (List Nat)}{l:List RV}{j:MC}(E:ks.all (fun k=>decide (k<b.ntmps))=true)(K:mD P b.results.toList=some l)(I:(nH P e ks b.ntmps ow c dl).1=j){F:List AV->aA->Option (AV×aA)}(p:∀d h r h',F d h=some (r,h')->wpM G j (yA2 l r h') [] (aC ks d) h):fA P e f F:=by
 intro B C h w d r h' X A g J q;subst A;have L:=uM (n:=b.ntmps) g E J;have i:=p d h r h' q;rw[<-I]at i;have M:=lU H c true none (fun _=>rfl) B (GamOK.b t) dl _ w [] _ [] _ h _ _ w L (.start rfl) i;refine xU z y g.hB M fun x env fr W S T w' k0 k5 k6 k7=>?_;obtain⟨k2,v,k3,k4⟩:=k0;refine⟨k2,?_⟩;obtain⟨u,N,O⟩:=wF k5.inv k5.rel K k3;obtain⟨D,m,n,o,U,V⟩:=tZ k5.inv k4 N;exact⟨u,O,u,D,rfl,k6.trans m,n,o.mono (Cx.frozen_le D),k7⟩
def Gam.none:Gam:=⟨fun _=>Option.none,fun _ _ _=>Option.none⟩
def Gam.add(G:Gam)(f:FuncId)(c:CT):Gam:={G with fn:=fun g=>if g=f then some c else G g}
theorem UV(b:Gv):GamOK P b Gam.none:=⟨fun f c h=>by simp[Gam.none]at h,fun f c h=>by simp[Gam.none]at h,fun _ _ _=>rfl⟩
def AZ(P:Program)(f:FuncId):Bool:=match P.funcs[f]? with
 |some b=>b.name != "runtime.NumGoroutine"&&b.body.isSome|none=>false
theorem enters_of{f:FuncId}(h:AZ P f=true):Enters P f:=by
 intro i w;unfold AZ at h;split at h
 ·rename_i b g;simp only[bS]at h;have c:b.name≠ "runtime.NumGoroutine":=by simpa using h.1
  have d:b.body≠none:=fun e=>by have:=h.2;rw[e]at this;cases this
  simp[callFunc,program,Sem.run,g,c,d]
 ·cases h
theorem uA{d:Gv}(i:GamOK P d G){f:FuncId}{c:CT}(k:AZ P f=true)(j:c.OK P d f):GamOK P d (G.add f c):=by
 refine⟨fun g b h=>?_,fun g b h=>?_,i.noy⟩
 ·by_cases e:g=f;·subst e;exact enters_of k
  ·refine i.enters g b ?_;have h:(if g=f then some c else G g)=some b:=h;rwa[if_neg e]at h
 ·have h:(if g=f then some c else G g)=some b:=h;by_cases e:g=f
  ·subst e;rw[if_pos rfl]at h;injection h with h;subst h;exact j
  ·rw[if_neg e]at h;exact i.ok g b h
end
section
variable{P:Program}{B:Base}{C D:Cx}{h h':aA}{w w':World}{G:Gam}{a:Act}
theorem JZ{n:Nat}:∀{b:List AV},(∀(i:Nat)c,b[i]?=some c->low n c=true)->bN n b=true
 |[],_=>rfl|c::b,h=>by
  simp only[bN,bS];exact⟨h 0 c rfl,JZ fun i d e=>h (i+1) d (by simpa using e)⟩
theorem xh9{n:Nat}{v:AV}{u:Value}(E:Rel C v u)(d:∀l,n<=l->C.bl l=none/\∀k,C.ar l k=none):low n v=true:=by
 have y:∀{C:Cx}{l b:Nat},(∀l,n<=l->C.bl l=none/\∀k,C.ar l k=none)->C.bl l=some b->decide (l<n)=true:=fun{C l b}d o=>by
  rcases mA l n with m|m;·simpa using m
  ·rw[(d l m).1]at o;cases o
 have x:∀{C:Cx}{l k:Nat}{r},(∀l,n<=l->C.bl l=none/\∀k,C.ar l k=none)->C.ar l k=some r->decide (l<n)=true:=fun{C l k r}d o=>by
  rcases mA l n with m|m;·simpa using m
  ·rw[(d l m).2]at o;cases o
 induction E with
 |agg A j q h e=>
  simp only[low];refine JZ fun i c g=>?_;have p:i<j.size:=by rw[<-q];exact(aV.1 g).1
  exact e i c j[i] g (by simp[p]) d|tup A j q h e=>
  simp only[low];refine JZ fun i c g=>?_;have p:i<j.size:=by rw[<-q];exact(aV.1 g).1
  exact e i c j[i] g (by simp[p]) d|fn f A j q h e=>
  simp only[low];refine JZ fun i c g=>?_;have p:i<j.size:=by rw[<-q];exact(aV.1 g).1
  exact e i c j[i] g (by simp[p]) d|mth f a v _ e=>simp only[low];exact e d|iface t a v _ e=>simp only[low];exact e d|ownnil l z h=>simp only[low];exact x d h|own l z k r h _=>simp only[low];exact x d h|win l z H k r h _=>simp only[low];exact x d h|ptr l F b h=>simp only[low];exact y d h|eptr l z i F r h=>simp only[low];exact x d h|map l b h=>simp only[low];exact y d h|yld l b h=>simp only[low];exact y d h|_=>rfl
theorem KU{n:Nat}{d:List AV}{g:List Value}(b:RelL C d g)(f:∀l,n<=l->C.bl l=none/\∀k,C.ar l k=none):bN n d=true:=by
 refine JZ fun i c e=>?_;obtain⟨u,j,b⟩:=b.get e;exact xh9 b f
theorem zA2{n:Nat}:∀{e:List (List AV)},bN n e.flatten=true->uC n e=true
 |[],_=>rfl|r::j,h=>by
  have i:∀{b c:List AV},bN n (b++c)=true->bN n b=true/\bN n c=true:=by
   intro b;induction b with
   |nil=>exact fun h=>⟨rfl,h⟩|cons a b d=>
    intro c h;simp only[tL,bN,bS]at h⊢;exact⟨⟨h.1,(d h.2).1⟩,(d h.2).2⟩
  simp only[oY]at h;obtain⟨f,g⟩:=i h;simp only[uC,bS];exact⟨f,zA2 g⟩
theorem JY{n:Nat}:∀{h:aA},(∀(l:Nat)b,h[l]?=some b->gD n b=true)->cV n h=true
 |[],_=>rfl|b::h,k=>by
  simp only[cV,bS];exact⟨k 0 b rfl,JY fun l c d=>k (l+1) c (by simpa using d)⟩
theorem VL(c:Inv B C h w):cV h.length h=true:=by
 refine JY fun l b j=>?_;have f:=c.ok l b j;cases b with
 |cellsT tg A=>
  obtain⟨_,g,e,_,_,_,_,h5,_⟩:=f;exact KU h5 c.fr|arrX k tg y z v wr=>cases k with
  |false=>rfl|true=>
   rcases f with⟨_,rfl⟩|⟨r,g,_,_,_,_,_,_,_,i,_⟩;·rfl
   ·exact zA2 (KU i c.fr)
 |mit m n seen t=>cases m with
  |none=>rfl|some m=>
   obtain⟨b,u,_,_,_,o,h4,_⟩:=f;simp only[gD];rcases mA m h.length with d|d;·simpa using d
   ·rw[(c.fr m d).1]at h4;cases h4
 |map q=>rfl|iter s p=>rfl|lp b x=>rfl|dead=>rfl
def Leaves(h' h:aA):Prop:=h'.length<=h.length/\∀(l:Nat)b,h'[l]?=some b->b=.dead\/h[l]?=some b
def NI(b:Nat)(c:List RV)(e:Nat->Option AV)(h:aA)(r:AV)(h':aA):Prop:=dS e h c=some r/\b<=h'.length/\Leaves h' h/\low h'.length r=true/\cV h'.length h'=true
def jW(b:Nat)(c:List RV)(r:AV)(h':aA):aY:=fun x env fr h=>(match x with|.exit _=>False|_=>True)/\NI b c (bV env fr) h r h'
theorem VV{d:Cx}{i:aA}{y:World}(f:Inv B d i y)(p:Inv B C h w)(r:d.Le C)(z:i.length<=h'.length)(e:Leaves h' h)(t:cV h'.length h'=true):d.Le (C.cut h'.length)/\Inv B (C.cut h'.length) h' w:=by
 have n:(h'++h.drop h'.length).length=h.length:=by have:=e.1;simp;omega
 have o:Inv B C (h'++h.drop h'.length) w:=zw9 p n fun l m c=>by
  rcases mA l h'.length with g|g;·rw[gC g]at c;exact e.2 l m c
  ·rw[fT g,nW]at c;rw[show h'.length+(l-h'.length)=l by omega]at c;exact .inr c
 have k:(h'++h.drop h'.length).take h'.length=h':=by simp
 have j:∀l,h'.length<=l->d.bl l=none/\∀v,d.ar l v=none:=fun l e=>f.fr l (by omega);refine⟨VT r j,?_⟩;have:=zR5 o (n:=h'.length) (fun l x u=>by have:=f.rcl l x u;omega) (fun l e=>by
  have:=j l e;refine⟨?_,fun v=>?_⟩;·cases c:B.cx.bl l with
   |none=>rfl|some b=>have q:=f.cle.bl _ _ c;rw[this.1]at q;cases q
  ·cases c:B.cx.ar l v with
   |none=>rfl|some b=>have q:=f.cle.ar _ _ _ c;rw[this.2 v]at q;cases q) (by rw[k];exact t);rwa[k]at this
theorem zt7(E:P.follows .mixedOrders=true){g:Gv}(t:GamOK P g G){f:FuncId}{b:Func}{c:Code}(y:P.funcs[f]?=some b)(v:b.body=some c){ks ow:List Nat}{dl:List (List Nat)}{m:List RV}{l:MC}(A:ks.all (fun k=>decide (k<b.ntmps))=true)(I:mD P b.results.toList=some m)(H:(nH P g ks b.ntmps ow c dl).1=l){F:List AV->aA->Option (AV×aA)}(p:∀d h r h',bN h.length d=true->cV h.length h=true->F d h=some (r,h')->wpM G l (jW h.length m r h') [] (aC ks d) h):fA P g f F:=by
 intro B C h w d r h' X z e j q;subst z;have J:=uM (n:=b.ntmps) e A j;have i:=p d h r h' (KU j e.fr) (VL e) q;rw[<-H]at i;have K:=lU E c true none (fun _=>rfl) B (GamOK.b t) dl _ w [] _ [] _ h _ _ w J (.start rfl) i;refine xU y v e.hB K fun x env fr W U V w' k0 k5 k6 k7=>?_;obtain⟨k2,k3,L,M,N,O⟩:=k0;refine⟨k2,?_⟩;obtain⟨u,S,T⟩:=wF k5.inv k5.rel I k3;obtain⟨n,o⟩:=VV e k5.inv k6 L M O;exact⟨u,T,u,_,rfl,n,o,BJ N S,k7⟩
def zg3(c:Nat)(d:List RV)(e:Nat->Option AV)(h:aA)(r:AV)(h':aA):Prop:=∃v b,dS e h d=some v/\frz h v=some (r,b)/\c<=h'.length/\Leaves h' b/\low h'.length r=true/\cV h'.length h'=true
def EI(b:Nat)(c:List RV)(r:AV)(h':aA):aY:=fun x env fr h=>(match x with|.exit _=>False|_=>True)/\zg3 b c (bV env fr) h r h'
theorem zu0(H:P.follows .mixedOrders=true){g:Gv}(x:GamOK P g G){f:FuncId}{b:Func}{c:Code}(z:P.funcs[f]?=some b)(y:b.body=some c){ks ow:List Nat}{dl:List (List Nat)}{rs:List RV}{l:MC}(E:ks.all (fun k=>decide (k<b.ntmps))=true)(J:mD P b.results.toList=some rs)(I:(nH P g ks b.ntmps ow c dl).1=l){F:List AV->aA->Option (AV×aA)}(t:∀d h r h',bN h.length d=true->cV h.length h=true->F d h=some (r,h')->wpM G l (EI h.length rs r h') [] (aC ks d) h):fA P g f F:=by
 intro B C h w d r h' a2 A e j v;subst A;have K:=uM (n:=b.ntmps) e E j;have i:=t d h r h' (KU j e.fr) (VL e) v;rw[<-I]at i;have L:=lU H c true none (fun _=>rfl) B (GamOK.b x) dl _ w [] _ [] _ h _ _ w K (.start rfl) i;refine xU z y e.hB L fun a3 env fr h2 V W w' k0 k5 k6 k7=>?_;obtain⟨k2,a1,Z,k3,kz,M,N,O,S⟩:=k0;refine⟨k2,?_⟩;obtain⟨u,T,U⟩:=wF k5.inv k5.rel J k3;obtain⟨D,m,n,o,X,Y⟩:=tZ k5.inv kz T;obtain⟨p,q⟩:=VV e n (k6.trans m) M N S;exact⟨u,U,u,_,rfl,p,q,BJ O (o.mono (Cx.frozen_le D)),k7⟩
theorem zy7{n:Func}{q:Array Value}{R:Ending->World->Prop}{g:World}{m:List Deferred}(r:B.n<=g.heap.size)(fin:∀l,Inv B C h l->Keep B g l->LeavesInM Fence.wide 0 P n q R m .returning l):∀(f:List Nat)(w:World),Inv B C h w->Keep B g w->Marks g f w->LeavesInM Fence.wide 0 P n q R (f.map mark++m) .returning w
 |[],w,j,b,_=>fin w j b|D::f,w,j,b,d=>by
  obtain⟨t,o⟩:=d.there D (by simp);refine⟨by simp,.inl ⟨D,_,rfl,run_takeDeferred o,?_⟩⟩;refine zy7 r fin f _ (zx0 j o _) ⟨?_,fun k c p=>?_⟩ ⟨(List.nodup_cons.1 d.nodup).2,fun E i=>?_⟩;·exact b.below.trans ⟨rfl,rfl,rfl,by simp,fun k b=>World.putObj_heap_other (by omega)⟩
  ·have:k≠D:=fun e=>by subst e;have:=gY p;omega
   exact(World.putObj_heap_other this).trans (b.sys k c p)
  ·have:E≠D:=fun e=>by subst e;exact(List.nodup_cons.1 d.nodup).1 i
   exact⟨(d.there E (by simp[i])).1,(World.putObj_heap_other this).trans (d.there E (by simp[i])).2⟩
def ZA:Code->Option (Array Oper×Array Oper×Oper×Nat×FuncId×Array Operand×Code)
 |.seq (.region _ j false) (.seq (.region _ d false) k)=>match d.toList with
  |[b,c]=>(match b.op,b.dst,b.guard,c.op,c.dst,c.guard with
   |.makeFunc (.func g) i f,some t,none,.defer ⟨.value (.tmp l),e,_⟩,none,none=>if t=l/\i.toList=[]/\e.toList=[]then some (j,d,b,t,g,f,k)else none|_,_,_,_,_,_=>none)|_=>none
 |_=>none
def XV:Code->Option (Array Oper)
 |.region _ b false=>some b|_=>none
theorem yA1(hm:P.follows .mixedOrders=true){p:Gv}(L:GamOK P p G){f1:FuncId}{d:Func}{c:Code}(hf:P.funcs[f1]?=some d)(hb:d.body=some c){ks ow:List Nat}{dl:List (List Nat)}{rs:List RV}{j2 j3:Array Oper}{o1:Oper}{l3:Nat}{g:FuncId}{m3:Array Operand}{l2:Code}(i:ZA c=some (j2,j3,o1,l3,g,m3,l2)){i3:List MI}{m1:MI}{mc:MC}(C2:ks.all (fun c2=>decide (c2<d.ntmps))=true)(D2:ks.contains l3=false)(G3:mD P d.results.toList=some rs)(q:aX P p ks d.ntmps ow j2=i3)(h1:dZ P p ks d.ntmps ow j3 o1=m1)(D3:(nH P p ks d.ntmps ow l2 dl).1=mc){k:Func}{Y:Code}{g1:Array Oper}{Z gow:List Nat}{f3:List MI}(hg:P.funcs[g]?=some k)(y2:k.body=some Y)(t:XV Y=some g1)(A3:k.results.toList=[])(A2:Z.all (fun c2=>decide (c2<k.ntmps))=true)(y3:Enters P g)(A1:aX P p Z k.ntmps gow g1=f3){d1:List AV->aA->Option (AV×aA)}(hF:∀args h r h',bN h.length args=true->cV h.length h=true->d1 args h=some (r,h')->∃d2 o q I,run G false i3 (.ok [] (aC ks args) h)=.ok d2 o q/\eH G false m1 (bV [] o) q=some (.fn g I,q)/\wpM G mc (fun x env fr h1=>(match x with|.exit _=>False|_=>True)/\∃d3 f2 F,run G false f3 (.ok [] (aC Z I) h1)=.ok d3 f2 F/\NI h.length rs (bV env fr) F r h') [] o q):fA P p f1 d1:=by
 intro B C h w args r h' K2 B1 N hr v2;subst B1;have H2:=uM (n:=d.ntmps) N C2 hr;obtain⟨d2,o,F,I,e1,n,e3⟩:=hF args h r h' (KU hr N.fr) (VL N) v2;unfold ZA at i;split at i
 ·rename_i i0 K1 i1 H I2;split at i
  ·rename_i u l E1;split at i
   ·rename_i j J1 I3 z t' r3 u1 q1 T q3 q4 q5 q6;split at i
    ·rename_i hc;obtain⟨rfl,J3,x1⟩:=hc;simp only[aT,dF]at i;obtain⟨rfl,rfl,rfl,rfl,rfl,rfl,rfl⟩:=i;have x3:r3=#[]:=by rw[<-oW];simpa using x1
     subst x3;have b3:H=#[u,l]:=by rw[<-oW];simpa using E1
     refine(callsIn_wide (n:=0)).1 (callsIn_of_wp_marks (F:=Fence.wide) hf hb trivial ?_);rw[<-q]at e1;rw[<-h1]at n;rw[<-D3]at e3;refine wpIn_seq (F:=fR none) (XW (ro:=none) (GamOK.b L) H2 e1 fun D1 X w1 p1 y p3 p4=>?_);refine wpIn_seq (F:=fR none) (wpIn_region ?_);have G2:List.range H.size=[0,1]:=by rw[b3];rfl
     rw[G2,wpOpsIn_cons];have S:=y.clear;refine ZE (ro:=none) (GamOK.b L) S.inv S.rel (k:=0) (o:=u) (by rw[b3];rfl) n fun c3 D A k1 k2 k3 k4=>?_;rw[wpOpsIn_cons];unfold wpOpIn;have z3:H[1]?=some l:=by rw[b3];rfl
     simp only[z3];rw[if_pos (by simp[Region.wanted,q6])];cases k3 with|fn _ _ f hl hh=>
     have g2:(X.put u.dst (.func (.func j) #[] f)).eval (.tmp z)=.func (.func j) #[] f:=by
      rw[T];have ht:z<X.tmps.size:=by
       have b2:dZ P B.gv ks d.ntmps ow H u≠dR:=fun e=>by rw[e,tS]at n;cases n
       exact vG ((DW b2).2.2 z T) y.size
      simp[Act.put,Act.eval,ht]
     obtain⟨m,b1⟩:∃o3:Deferred,o3={target:=.fn (.func j) f,args:=#[]}:=⟨_,rfl⟩;obtain⟨b,M⟩:∃b,b=X.put u.dst (.func (.func j) #[] f):=⟨_,rfl⟩;rw[<-M]at g2⊢;have y1:b.defers=[]:=by rw[M,RG,p3]
     unfold Oper.wpIn;refine⟨fun _ _=>trivial,?_⟩;have H1:((l.semAt (fR none).round b.eval).run P A)=.ok (.defer m) A:=by
      have es:l.semAt (fR none).round b.eval=execOp b.eval l:=Oper.semAt_none _ _;have e9:execOp b.eval l=execOp b.eval {l with op:=.defer ⟨.value (.tmp z),#[],u1⟩}:=by rw[<-q4]
      rw[es,e9,b1];simp[execOp,resolve,g2,WQ]
     rw[H1,Oper.uponIn_defer,q5];have E3:RelT D (bV [] o) b:=by
      rw[M,T];refine(S.rel.mono k1).put (.fn j I f hl hh) (fun t' c1=>?_) (fun t' x hx=>?_)
      ·injection c1 with c1;subst c1;have b2:dZ P B.gv ks d.ntmps ow H u≠dR:=fun e=>by rw[e,tS]at n;cases n
       exact vG ((DW b2).2.2 z T) y.size
      ·refine .inr ⟨fun e=>?_,hx⟩;injection e with e;subst e;have:=y.keys z x (by simpa[bV,lkp]using hx);rw[D2]at this;cases this
     have H3:StOK ks d.ntmps B D [] o F {b with defers:=m::b.defers} A:=⟨k2,E3,S.sep,y.keys,by rw[M];simp only[RJ];exact y.size⟩;have v1:C.Le D:=p1.trans k1;have v3:Keep B w A:=p4.trans k4;have hw:=lU hm I2 true none (fun _=>rfl) B (GamOK.b L) dl D A [m] _ [] _ F _ {b with defers:=m::b.defers} A H3 (.start (by simp[y1])) e3;refine wpIn_mono hw fun e K w3 hp=>?_;obtain⟨x,env,fr,h3,W,n1,n2,n3,O⟩:=hp;obtain⟨Ds,hD,hM⟩:=O.ds;obtain⟨m0,d3,f2,h4,j1,m2⟩:=n2;have l1:LeavesInM Fence.wide 0 P d K.tmps (fun e w'=>∃v D,e=.returned v/\C.Le D/\Inv B D h' w'/\Rel D r v/\Keep B w w') K.defers .returning w3:=by
      rw[hD];refine zy7 (C:=W) (h:=h3) k2.hB (fun J B2 C1=>?_) Ds w3 n3.inv O.keep hM;have B3:(invoke m.target m.args).run P J=.ok (.enter j f) J:=by
       rw[b1];simp only[invoke];have:=y3 f J;simpa using this
      refine⟨by simp,.inr ⟨PP (ro:=none),.func j,f,j,f,by rw[b1],B3,fun _ _=>trivial,?_⟩⟩;have x2:RelL W I f.toList:=⟨by simpa using hl,fun i2 c v hc hv=>(hh i2 c v hc (by simpa using hv)).mono O.le⟩;have I1:=uM (n:=k.ntmps) B2 A2 x2;have E2:Y.wpIn (fR none) 0 P (bodyPost P k fun e w'=>∃E,e=.returned (.tuple #[])/\W.Le E/\Inv B E h4 w'/\Keep B J w') {tmps:=f++Array.replicate (k.ntmps-f.size) undef,defers:=[]} J:=by
       unfold XV at t;split at t
       ·rename_i ig J2;injection t with t;subst t;rw[<-A1]at j1;refine XW (ro:=none) (GamOK.b L) I1 j1 fun D5 a5 w5 U V s3 s4=>?_;refine⟨s3,.tuple #[],?_,D5,rfl,U,V.inv,s4⟩;unfold results;rw[Array.mapM_eq_mapM_toList,A3];simp
       ·cases t
      refine CallsDIn.mono (callsDIn_of_wp (F:=Fence.wide) (n:=0) hg y2 trivial E2) fun e u' w' hk=>?_;obtain⟨rfl,E,rfl,U,V,s3⟩:=hk;show LeavesInM Fence.wide 0 P d K.tmps _ [] (settle .returning) w';obtain⟨t1,t2,t3,t4,t5⟩:=m2;have G1:RelT E (bV env fr) K:=n3.rel.mono U;obtain⟨c3,r1,r2⟩:=wF V G1 G3 t1;have u2:C.Le E:=v1.trans (O.le.trans U);obtain⟨z1,z2⟩:=VV N V u2 t2 t3 t5;exact⟨c3,r2,c3,_,rfl,z1,z2,BJ t4 r1,v3.trans (C1.trans s3)⟩
     cases x with
     |normal=>cases e<;>simp only[MX.is]at n1;exact l1|ret=>cases e<;>simp only[MX.is]at n1;exact l1|exit i2=>exact m0.elim
    ·cases i
   ·cases i
  ·cases i
 ·cases i
end
section
variable{G:Gam}
def xE(G:Gam)(b:List Nat)(a:MC)(n:Nat)(Q:aY)(fr:List (Nat×AV))(h:aA):Prop:=∃N,iK (wpM G a) b n Q N [] fr h
theorem zL7{T:aY->List (Nat×AV)->List (Nat×AV)->aA->Prop}{b:List Nat}{n:Nat}{Q:aY}{N:Nat}{env env' fr:List (Nat×AV)}{h:aA}:iK T b n Q N env fr h=iK T b n Q N env' fr h:=by cases N<;>rfl
theorem xx7{b:List Nat}{a:MC}{Q:aY}{env fr:List (Nat×AV)}{h:aA}:wpM G (.loop b a) Q env fr h=xE G b a h.length Q fr h:=by
 simp only[wpM,xE];congr 1;funext N;exact zL7
theorem yW7{c:List Nat}{a:MC}{n:Nat}{Q:aY}{fr:List (Nat×AV)}{h:aA}(m:wpM G a (pR (fun _ _ fr h=>xE G c a n Q fr h) Q) [] (bM c fr) (sO c n (bM c fr) h)):xE G c a n Q fr h:=by
 obtain⟨L,k1,k2⟩:=oP a [] (bM c fr) (sO c n (bM c fr) h) (fun o=>pR (fun _ _ fr h=>xE G c a n Q fr h) Q o.1 o.2.1 o.2.2.1 o.2.2.2) m;have d:∀L:List nD,(∀o∈L,pR (fun _ _ fr h=>xE G c a n Q fr h) Q o.1 o.2.1 o.2.2.1 o.2.2.2)->∃N,∀o∈L,pR (fun _ env fr h=>iK (wpM G a) c n Q N env fr h) Q o.1 o.2.1 o.2.2.1 o.2.2.2:=by
  intro L;induction L with
  |nil=>intro _;exact⟨0,by simp⟩|cons o L q=>
   intro j;obtain⟨N,d⟩:=q fun p b=>j p (by simp[b]);have g:=j o (by simp);obtain⟨x,e,f,k⟩:=o;cases x with
   |normal=>
    obtain⟨M,l⟩:=g;refine⟨max N M,fun p b=>?_⟩;rcases fE.1 b with rfl|b;·exact YE (oP a) M _ _ _ _ (Nat.le_max_right _ _) (by rw[zL7 (env':=[])];exact l)
    ·have:=d p b;obtain⟨x,e,f,k⟩:=p;cases x with
     |normal=>exact YE (oP a) N _ _ _ _ (Nat.le_max_left _ _) this|exit i=>exact this|ret=>exact this
   |exit i=>
    refine⟨N,fun p b=>?_⟩;rcases fE.1 b with rfl|b;·exact g
    ·exact d p b|ret=>
    refine⟨N,fun p b=>?_⟩;rcases fE.1 b with rfl|b;·exact g
    ·exact d p b
 obtain⟨N,d⟩:=d L k1;exact⟨N+1,by simp only[iK];exact k2 (fun o=>pR (fun _ env fr h=>iK (wpM G a) c n Q N env fr h) Q o.1 o.2.1 o.2.2.1 o.2.2.2) d⟩
def after(Q:aY):R->Prop
 |.ok env fr h=>Q .normal env fr h|.bad=>False
theorem xx8{b:List MI}{Q:aY}{env fr:List (Nat×AV)}{h:aA}:wpM G (.reg b) Q env fr h=after Q (run G false b (.ok [] fr h)):=by simp only[wpM,after];split<;>rename_i c<;>rw[c]
theorem xx9{b:List MI}{Q:aY}{env fr:List (Nat×AV)}{h:aA}:wpM G (.rgd b) Q env fr h=after Q (run G true b (.ok [] fr h)):=by simp only[wpM,after];split<;>rename_i c<;>rw[c]
def zk9(b c:Prop):Option AV->Prop
 |some (.bool t)=>if t then b else c|_=>False
theorem xx6{c:At}{a b:MC}{Q:aY}{env fr:List (Nat×AV)}{h:aA}:wpM G (.ite c a b) Q env fr h=zk9 (wpM G a Q env fr h) (wpM G b Q env fr h) (iD (bV env fr) c):=by simp only[wpM,zk9];rfl
end
inductive MK where|seq(b:MC)|blk(id:Nat)|loop(dead:List Nat)(a:MC)(n:Nat)
def pF(G:Gam):List MK->aY->aY
 |[],Q=>Q|.seq b::ks,Q=>pR (fun _ env fr h=>wpM G b (pF G ks Q) env fr h) (pF G ks Q)|.blk id::ks,Q=>qN id (pF G ks Q)|.loop d a n::ks,Q=>pR (fun _ _ fr h=>xE G d a n (pF G ks Q) fr h) (pF G ks Q)
def goM(G:Gam)(c:MC)(ks:List MK)(Q:aY)(env fr:List (Nat×AV))(h:aA):Prop:=wpM G c (pF G ks Q) env fr h
def exM(G:Gam)(x:MX)(ks:List MK)(Q:aY)(env fr:List (Nat×AV))(h:aA):Prop:=pF G ks Q x env fr h
def cY(G:Gam)(d:List Nat)(a:MC)(n:Nat)(ks:List MK)(Q:aY)(fr:List (Nat×AV))(h:aA):Prop:=xE G d a n (pF G ks Q) fr h
def pN(G:Gam)(s:Bool)(b:List MI)(ks:List MK)(Q:aY)(env fr:List (Nat×AV))(h:aA):Prop:=after (pF G ks Q) (run G s b (.ok env fr h))
def AN(G:Gam)(s:Bool)(c:Option Nat)(d:Bool)(b:List MI)(ks:List MK)(Q:aY)(env fr:List (Nat×AV)):Option (AV×aA)->Prop
 |none=>False|some (v,h)=>match c with
  |none=>pN G s b ks Q env fr h|some t=>if d then pN G s b ks Q env (upd t v fr) h else pN G s b ks Q ((t,v)::env) fr h
def opV(G:Gam)(s:Bool)(h:aA)(o:AO):Option (List AV)->Option (AV×aA)
 |some b=>if s&&!o.loud then(jL G h o b).map fun v=>(v,h)else jB G h o b|none=>none
def yE(c:Bool)(h:aA)(r:Option (AV×aA)):Option AV->Option (AV×aA)
 |some (.bool b)=>if b=c then r else some (wM,h)|some (.tup [])=>some (wM,h)|_=>none
section
variable{G:Gam}{s:Bool}{ks:List MK}{Q:aY}{env fr:List (Nat×AV)}{h:aA}
theorem aM{c:MC}:wpM G c Q env fr h=goM G c [] Q env fr h:=rfl
@[simp]theorem xG3:goM G .skip ks Q env fr h=exM G .normal ks Q env fr h:=rfl
@[simp]theorem jO:goM G .ret ks Q env fr h=exM G .ret ks Q env fr h:=rfl
@[simp]theorem xF7{id:Nat}:goM G (.exit id) ks Q env fr h=exM G (.exit id) ks Q env fr h:=rfl
@[simp]theorem zu5{a b:MC}:goM G (.seq a b) ks Q env fr h=goM G a (.seq b::ks) Q env fr h:=rfl
@[simp]theorem xF5{id:Nat}{a:MC}:goM G (.blk id a) ks Q env fr h=goM G a (.blk id::ks) Q env fr h:=rfl
@[simp]theorem xF9{d:List Nat}{a:MC}:goM G (.loop d a) ks Q env fr h=cY G d a h.length ks Q fr h:=xx7
@[simp]theorem xG0{b:List MI}:goM G (.reg b) ks Q env fr h=pN G false b ks Q [] fr h:=xx8
def IF(G:Gam)(c:Option Nat)(e:Bool)(d:List MI)(ks:List MK)(Q:aY)(fr:List (Nat×AV)):Option (List (AV×aA))->Prop
 |some b=>∀r∈b,AN G false c e d ks Q [] fr (some r)|none=>False
def zD6(G:Gam)(b:Option Nat)(d:Bool)(c:List MI)(ks:List MK)(Q:aY)(fr:List (Nat×AV))(h:aA):Option AV->Prop
 |some (.ptr l 0)=>IF G b d c ks Q fr (mV h l)|_=>False
@[simp]theorem xH6{b:Option Nat}{d:Bool}{c:List MI}{l:Nat}:zD6 G b d c ks Q fr h (some (.ptr l 0))=IF G b d c ks Q fr (mV h l):=rfl
theorem run_bind_reg{c:Option Nat}{g:Bool}{b:List MI}{r:AV×aA}:(match run G false b (iP c g [] fr (some r))with
  |.ok d f h'=>pF G ks Q .normal d f h'|.bad=>False)=AN G false c g b ks Q [] fr (some r):=by
 obtain⟨v,i⟩:=r;have e:∀env fr h,(match run G false b (.ok env fr h)with
  |.ok d f h'=>pF G ks Q .normal d f h'|.bad=>False)=pN G false b ks Q env fr h:=fun env fr h=>by simp only[pN,after]<;>rfl
 cases c with
 |none=>exact e _ _ _|some t=>cases g<;>exact e _ _ _
theorem ye5{d:Option Nat}{f:Bool}{e:List MI}{y:Option (List (AV×aA))}:(match y with
  |some c=>∀r∈c,match run G false e (iP d f [] fr (some r))with
   |.ok g i h'=>pF G ks Q .normal g i h'|.bad=>False
  |none=>False)=IF G d f e ks Q fr y:=by cases y with
 |none=>rfl|some c=>exact propext ⟨fun k r b=>run_bind_reg.mp (k r b),fun k r b=>run_bind_reg.mpr (k r b)⟩
@[simp]theorem zu4{g:At}{b:Option Nat}{d:Bool}{c:List MI}:goM G (.rgn g b d c) ks Q env fr h=zD6 G b d c ks Q fr h (iD (bV [] fr) g):=by
 simp only[goM,wpM];generalize iD (bV [] fr) g=x;cases x with
 |none=>rfl|some v=>
  cases v<;>first|rfl|skip
  rename_i l e;cases e with
  |succ _=>rfl|zero=>exact ye5
@[simp]theorem xF6{a b:MC}:goM G (.both a b) ks Q env fr h=(goM G a ks Q env fr h/\goM G b ks Q env fr h):=rfl
def oL(G:Gam)(b:aA)(c:List ME)(ks:List MK)(Q:aY)(d:jH)(env fr:List (Nat×AV))(h:aA):Prop:=kJ G b c (fun e f h=>exM G .normal ks Q e f h) d env fr h
def xS(G:Gam)(b:aA)(e:Option Nat)(f:Bool)(c:List ME)(ks:List MK)(Q:aY)(d:AV->jH)(env fr:List (Nat×AV)):Option (AV×aA)->Prop
 |none=>False|some (v,h)=>match e with
  |none=>oL G b c ks Q (d v) env fr h|some t=>if f then oL G b c ks Q (d v) env (upd t v fr) h else oL G b c ks Q (d v) ((t,v)::env) fr h
def zN2(b:aA)(c r:Option (AV×aA)):Prop:=∀v h,r=some (v,h)->c=some (v,b)
@[simp]theorem xn1{b h:aA}{v:AV}{c:Option (AV×aA)}:zN2 b c (some (v,h))=(c=some (v,b)):=by
 apply propext;exact⟨fun k=>k v h rfl,fun k d h' e=>by cases e;exact k⟩
def zy4(G:Gam)(m:MI)(env fr:List (Nat×AV))(v:AV):aA->Prop:=fun h=>eH G true m (bV env fr) h=some (v,h)
@[simp]theorem xL7:oH h []=True:=rfl
@[simp]theorem xL9{m:MI}{e f:List (Nat×AV)}{v:AV}{r:jH}:oH h ((0,zy4 G m e f v)::r)=(eH G true m (bV e f) h=some (v,h)/\oH h r):=rfl
@[simp]theorem xL8{n:Nat}{c:aA->Prop}{r:jH}:oH h ((n+1,c)::r)=oH h r:=rfl
@[simp]theorem xM2:mW []=[]:=rfl
@[simp]theorem xM4{c:aA->Prop}{r:jH}:mW ((0,c)::r)=mW r:=rfl
@[simp]theorem xM3{n:Nat}{c:aA->Prop}{r:jH}:mW ((n+1,c)::r)=(n,c)::mW r:=rfl
@[simp]theorem xM1{m:MI}{v:AV}:qX G m env fr v []=[]:=rfl
@[simp]theorem xM0{m:MI}{v:AV}{d:Nat}{r:List Nat}:qX G m env fr v (d::r)=(d,zy4 G m env fr v)::qX G m env fr v r:=rfl
@[simp]theorem xG2{b:List ME}:goM G (.rge b) ks Q env fr h=oL G h b ks Q [] [] fr h:=rfl
@[simp]theorem xM7{c:aA}{b:jH}:oL G c [] ks Q b env fr h=(oH h b/\exM G .normal ks Q env fr h):=rfl
@[simp]theorem xM8{e:aA}{c:jH}{i:List Nat}{g:Option (Nat×Bool)}{d:Option Nat}{k:Bool}{o:AO}{b:List At}{f:List ME}:oL G e ((false,i,⟨g,d,k,o,b⟩)::f) ks Q c env fr h=(oH h c/\xS G e d k f ks Q (fun v=>qX G ⟨g,d,k,o,b⟩ env fr v i++mW c) env fr (eH G true ⟨g,d,k,o,b⟩ (bV env fr) h)):=by
 unfold oL;simp only[kJ];congr 1;cases eH G true ⟨g,d,k,o,b⟩ (bV env fr) h with
 |none=>rfl|some r=>obtain⟨v,h'⟩:=r;cases d<;>simp[xS,oL]
@[simp]theorem xM6{c:aA}{e:jH}{i:List Nat}{g:Option (Nat×Bool)}{d:Option Nat}{k:Bool}{o:AO}{b:List At}{f:List ME}:oL G c ((true,i,⟨g,d,k,o,b⟩)::f) ks Q e env fr h=(oH h e/\zN2 c (eH G true ⟨g,d,k,o,b⟩ (bV env fr) c) (eH G true ⟨g,d,k,o,b⟩ (bV env fr) h)/\xS G c d k f ks Q (fun v=>qX G ⟨g,d,k,o,b⟩ env fr v i++mW e) env fr (eH G true ⟨g,d,k,o,b⟩ (bV env fr) h)):=by
 unfold oL;simp only[kJ];congr 1;cases j:eH G true ⟨g,d,k,o,b⟩ (bV env fr) h with
 |none=>simp[xS]|some r=>obtain⟨v,h'⟩:=r;rw[xn1];cases d<;>simp[xS,oL]
@[simp]theorem xA1{b:aA}{c:List ME}{e:Bool}{v:AV}{d:AV->jH}:xS G b none e c ks Q d env fr (some (v,h))=oL G b c ks Q (d v) env fr h:=rfl
@[simp]theorem xz9{b:aA}{c:List ME}{t:Nat}{v:AV}{d:AV->jH}:xS G b (some t) false c ks Q d env fr (some (v,h))=oL G b c ks Q (d v) ((t,v)::env) fr h:=rfl
@[simp]theorem xA0{b:aA}{c:List ME}{t:Nat}{v:AV}{d:AV->jH}:xS G b (some t) true c ks Q d env fr (some (v,h))=oL G b c ks Q (d v) env (upd t v fr) h:=rfl
@[simp]theorem xG1{b:List MI}:goM G (.rgd b) ks Q env fr h=pN G true b ks Q [] fr h:=xx9
def VN(G:Gam)(a b:MC)(ks:List MK)(Q:aY)(env fr:List (Nat×AV))(h:aA):Option AV->Prop
 |some (.bool t)=>goM G (if t then a else b) ks Q env fr h|_=>False
@[simp]theorem xF8{c:At}{a b:MC}:goM G (.ite c a b) ks Q env fr h=VN G a b ks Q env fr h (iD (bV env fr) c):=by
 simp only[goM,xx6];generalize iD (bV env fr) c=r;cases r with
 |none=>rfl|some v=>cases v<;>first|rfl|(rename_i t;cases t<;>rfl)
@[simp]theorem xG8{a b:MC}:VN G a b ks Q env fr h (some (.bool true))=goM G a ks Q env fr h:=rfl
@[simp]theorem xG7{a b:MC}:VN G a b ks Q env fr h (some (.bool false))=goM G b ks Q env fr h:=rfl
@[simp]theorem xE0{x:MX}:exM G x [] Q env fr h=Q x env fr h:=rfl
@[simp]theorem xE3{b:MC}:exM G .normal (.seq b::ks) Q env fr h=goM G b ks Q env fr h:=rfl
@[simp]theorem xD9{b:MC}{i:Nat}:exM G (.exit i) (.seq b::ks) Q env fr h=exM G (.exit i) ks Q env fr h:=rfl
@[simp]theorem xE7{b:MC}:exM G .ret (.seq b::ks) Q env fr h=exM G .ret ks Q env fr h:=rfl
@[simp]theorem xE1{id:Nat}:exM G .normal (.blk id::ks) Q env fr h=exM G .normal ks Q env fr h:=rfl
@[simp]theorem xE5{id:Nat}:exM G .ret (.blk id::ks) Q env fr h=exM G .ret ks Q env fr h:=rfl
@[simp]theorem xD7{id i:Nat}:exM G (.exit i) (.blk id::ks) Q env fr h=exM G (if i=id then .normal else .exit i) ks Q env fr h:=by simp only[exM,pF,qN];split<;>rfl
@[simp]theorem xE2{d:List Nat}{a:MC}{n:Nat}:exM G .normal (.loop d a n::ks) Q env fr h=cY G d a n ks Q fr h:=rfl
@[simp]theorem xD8{d:List Nat}{a:MC}{n i:Nat}:exM G (.exit i) (.loop d a n::ks) Q env fr h=exM G (.exit i) ks Q env fr h:=rfl
@[simp]theorem xE6{d:List Nat}{a:MC}{n:Nat}:exM G .ret (.loop d a n::ks) Q env fr h=exM G .ret ks Q env fr h:=rfl
theorem yQ7{d:List Nat}{a:MC}{n:Nat}(b:goM G a (.loop d a n::ks) Q [] (bM d fr) (sO d n (bM d fr) h)):cY G d a n ks Q fr h:=yW7 b
theorem yQ6{d:List Nat}{a:MC}{n:Nat}(c:goM G a (.loop d a n::ks) Q [] (bM d fr) (trunc n (bM d fr) h))(b:d.contains 999999=false:=by rfl):cY G d a n ks Q fr h:=by
 refine yQ7 ?_;unfold sO;rw[b];exact c
@[simp]theorem xN0:pN G s [] ks Q env fr h=exM G .normal ks Q env fr h:=rfl
@[simp]theorem xM9{i:MI}{b:List MI}:pN G s (i::b) ks Q env fr h=AN G s i.dst i.kept b ks Q env fr (eH G s i (bV env fr) h):=by
 simp only[pN,run,JF,AN];cases eH G s i (bV env fr) h with
 |none=>simp only[iP,BV,after]|some c=>
  obtain⟨v,h'⟩:=c;simp only[iP];cases i.dst with
  |none=>rfl|some t=>simp only[];split<;>rfl
@[simp]theorem bind_none{b:List MI}{c:Bool}{v:AV}:AN G s none c b ks Q env fr (some (v,h))=pN G s b ks Q env fr h:=rfl
@[simp]theorem xA2{b:List MI}{t:Nat}{v:AV}:AN G s (some t) false b ks Q env fr (some (v,h))=pN G s b ks Q ((t,v)::env) fr h:=rfl
@[simp]theorem xA3{b:List MI}{t:Nat}{v:AV}:AN G s (some t) true b ks Q env fr (some (v,h))=pN G s b ks Q env (upd t v fr) h:=rfl
@[simp]theorem xN6{d:Option Nat}{k:Bool}{o:AO}{b:List At}{e:Nat->Option AV}:eH G s ⟨none,d,k,o,b⟩ e h=opV G s h o (iU e b):=by simp only[eH,opV];split<;>rename_i c<;>rw[c]
@[simp]theorem xN5{d:Option Nat}{k:Bool}{o:AO}{c:List At}{e:Nat->Option AV}{t:Nat}{f:Bool}:eH G s ⟨some (t,f),d,k,o,c⟩ e h=yE f h (opV G s h o (iU e c)) (e t):=by
 simp only[eH];generalize e t=r;cases r with
 |none=>rfl|some v=>cases v<;>first|rfl|(rename_i b;simp only[yE,opV];generalize iU e c=x;cases x<;>rfl)|(rename_i g;cases g<;>rfl)
def On(b:Bool):Prop:=b=true
instance{b:Bool}:Decidable (On b):=inferInstanceAs(Decidable (b=true))
@[simp]theorem xz2:On true=True:=by simp[On]
@[simp]theorem xz0:On false=False:=by simp[On]
@[simp]theorem xz1{b:Bool}:On (!b)=¬On b:=by simp[On]
@[simp]theorem xy9{p:Prop}[Decidable p]:On (decide p)=p:=by simp[On]
@[simp]theorem xC6{b:Bool}:decide (On b)=b:=by cases b<;>rfl
@[simp]theorem xG5{b:Bool}{r:Option (AV×aA)}:yE true h r (some (.bool b))=if On b then r else some (wM,h):=rfl
@[simp]theorem xG4{b:Bool}{r:Option (AV×aA)}:yE false h r (some (.bool b))=if On b then some (wM,h)else r:=by cases b<;>rfl
@[simp]theorem xG6{b:Bool}{r:Option (AV×aA)}:yE b h r (some wM)=some (wM,h):=rfl
@[simp]theorem xF1{e:Nat->Option AV}:iU e []=some []:=rfl
def zn3:Option AV->Option (List AV)->Option (List AV)
 |some v,some b=>some (v::b)|_,_=>none
@[simp]theorem xF0{e:Nat->Option AV}{a:At}{b:List At}:iU e (a::b)=zn3 (iD e a) (iU e b):=by
 simp only[iU];generalize iD e a=x;generalize iU e b=y;cases x<;>cases y<;>rfl
@[simp]theorem xB5{v:AV}{b:List AV}:zn3 (some v) (some b)=some (v::b):=rfl
@[simp]theorem xE9{e:Nat->Option AV}{n:Nat}:iD e (.t n)=e n:=rfl
@[simp]theorem xE8{e:Nat->Option AV}{v:AV}:iD e (.c v)=some v:=rfl
@[simp]theorem xF2{t:Nat}{v:AV}:bV ((t,v)::env) fr t=some v:=by simp[bV,lkp]
@[simp]theorem xF3{t k:Nat}{v:AV}(b:t≠k):bV ((k,v)::env) fr t=bV env fr t:=by simp[bV,lkp,b]
@[simp]theorem xF4{t:Nat}:bV [] fr t=lkp t fr:=rfl
@[simp]theorem xH0{t:Nat}{v:AV}:lkp t ((t,v)::fr)=some v:=by simp[lkp]
@[simp]theorem xH1{t k:Nat}{v:AV}(b:t≠k):lkp t ((k,v)::fr)=lkp t fr:=by simp[lkp,b]
@[simp]theorem xN9{t:Nat}{v x:AV}:upd t v ((t,x)::fr)=(t,v)::fr:=by simp[upd]
@[simp]theorem xO0{t k:Nat}{v x:AV}(b:t≠k):upd t v ((k,x)::fr)=(k,x)::upd t v fr:=by simp[upd,b]
theorem eV{o:AO}{b:List AV}(c:o.quiet=true):opV G s h o (some b)=(dH h o b).map fun v=>(v,h):=by
 have e:o.loud=false:=by cases o<;>simp_all[AO.loud,AO.quiet]
 have d:jB G h o b=dN G h o b:=by cases o<;>first|rfl|cases c
 cases s<;>simp only[opV,d,e,iF,xJ,eW,bD,dE,bY,jL,dN,c];cases dH h o b<;>rfl
theorem eG{o:AO}{b:List AV}(c:o.turns=true):opV G s h o (some b)=cG G h o b:=by
 have f:o.loud=true:=by cases o<;>first|exact c|rfl
 have e:o.quiet=false:=by cases o<;>simp_all[AO.loud,AO.quiet]
 have d:jB G h o b=dN G h o b:=by cases o<;>first|rfl|cases c
 simp only[opV,d,f,nG,nF,dE,bY,dN,e]
@[simp]theorem xK9{x:AV}:opV G s h .mv (some [x])=some (x,h):=by rw[eV rfl];rfl
@[simp]theorem xL3{c:Bool}{x y:AV}:opV G s h .pick (some [.bool c,x,y])=some (if On c then x else y,h):=by rw[eV rfl];rfl
@[simp]theorem xL5{x:List UInt8}:opV G s h .strid (some [.str x])=some (.str x,h):=by rw[eV rfl];rfl
@[simp]theorem xI8{o:BinOp}{x y:AV}:opV G s h (.bin o) (some [x,y])=(aW o x y).map fun v=>(v,h):=by rw[eV rfl];rfl
@[simp]theorem xJ8{n b c:Bool}:opV G s h (.eqB n) (some [.bool b,.bool c])=some (.bool (if n then !(b==c)else b==c),h):=by rw[eV rfl];rfl
@[simp]theorem xL6{o:UnOp}{x:AV}:opV G s h (.un o) (some [x])=(CM o x).map fun v=>(v,h):=by rw[eV rfl];rfl
@[simp]theorem xJ5{k b:IntKind}{n:Int}:opV G s h (.conv k) (some [.int b n])=some (.int k (k.wrap n),h):=by rw[eV rfl];rfl
@[simp]theorem xK2{o l b:Nat}:opV G s h (.fadr o) (some [.ptr l b])=some (.ptr l (b+o),h):=by rw[eV rfl];rfl
@[simp]theorem xK1{o b:Nat}{c:List AV}:opV G s h (.fadr o) (some [.fptr c b])=some (.fptr c (b+o),h):=by rw[eV rfl];rfl
@[simp]theorem xK0{o l v i b:Nat}:opV G s h (.fadr o) (some [.eptr l v i b])=some (.eptr l v i (b+o),h):=by rw[eV rfl];rfl
@[simp]theorem xK3{o n:Nat}{g:Bool}{b:List AV}:opV G s h (.fld o n g) (some [.agg b])=(aE g n (cut b o n)).map fun v=>(v,h):=by rw[eV rfl];rfl
@[simp]theorem xK4{n:Nat}{x i:AV}:opV G s h (.iadr n) (some [x,i])=(bA n h x i).map fun v=>(v,h):=by rw[eV rfl];rfl
@[simp]theorem zE7{n:Nat}{g:Bool}{x:AV}:opV G s h (.ld n g) (some [x])=(aB n g h x).map fun v=>(v,h):=by rw[eV rfl];rfl
@[simp]theorem xK5{k:Nat}{x:AV}:opV G s h (.len k) (some [x])=(aI h k x).map fun v=>(v,h):=by rw[eV rfl];rfl
@[simp]theorem xJ9{i:Nat}{b:List AV}:opV G s h (.ext i) (some [.tup b])=(b[i]?).map fun v=>(v,h):=by rw[eV rfl];rfl
@[simp]theorem xK6{f:FuncId}{b:List AV}:opV G s h (.mkfn f) (some b)=some (.fn f b,h):=by rw[eV rfl];rfl
@[simp]theorem xK7{t:TypeId}{x:AV}:opV G s h (.mkif t) (some [x])=some (.iface t x,h):=by rw[eV rfl];rfl
@[simp]theorem xI9{z:List AV}{b:List (Nat×Nat)}{c:List AV}:opV G s h (.bld z b) (some c)=(eO z b c).map fun v=>(.agg v,h):=by rw[eV rfl];simp only[dH];cases eO z b c<;>rfl
@[simp]theorem xJ7{n:Bool}{c:List EK}{d e:List AV}:opV G s h (.eqA n c) (some [.agg d,.agg e])=if d.length=c.length/\e.length=c.length then(gX c d e).map (fun b=>(.bool (if n then !b else b),h))else none:=by
 rw[eV rfl];simp only[dH];split;·cases gX c d e<;>rfl
 ·rfl
@[simp]theorem fQ{z:List AV}:opV G s h (.alloc z) (some [])=some (.ptr h.length 0,h++[.cells z]):=by rw[eG rfl];rfl
@[simp]theorem xL0{n:Nat}:opV G s h (.newnil n) (some [])=some (.own h.length 0 0,h++[.arr n 0 [] true]):=by rw[eG rfl];rfl
@[simp]theorem xK8:opV G s h .mkmap (some [])=some (.map h.length,h++[.map []]):=by rw[eG rfl];rfl
@[simp]theorem vZ{n:Nat}{a v:AV}:opV G s h (.st n) (some [a,v])=(aU n h a v).map fun h'=>(.junk,h'):=by rw[eG rfl];rfl
theorem bF{f:FuncId}{F:List AV->Option AV}{b us:List AV}{r:AV}(i:G f=some (.pure F))(j:bU h b=some us)(g:F us=some r)(c:scalar r=true\/dX b=[]):opV G s h (.call f) (some b)=some (r,h):=by
 have d:jL G h (.call f) b=some r:=by
  simp only[jL,AO.quiet,dE,bY,i,j,g];rcases c with c|c;·rw[if_pos c]
  ·split<;>simp
 have e:=zr0 d;cases s;·simp only[opV,eW,dE,bY];exact e
 ·simp only[opV,AO.loud,iF,xJ,bD,d,fC]
end
section
variable{G:Gam}{s:Bool}{ks:List MK}{Q:aY}{env fr:List (Nat×AV)}{h:aA}
@[simp]theorem xE4{ks:List MK}:exM G .ret ks Q env fr h=Q .ret env fr h:=by induction ks with
 |nil=>rfl|cons k ks b=>cases k<;>simpa using b
theorem aJ{d:List Nat}{a b:MC}{n:Nat}(c:a=b)(f:goM G b (.loop d a n::ks) Q [] (bM d fr) (trunc n (bM d fr) h))(e:d.contains 999999=false:=by rfl):cY G d a n ks Q fr h:=by subst c;exact yQ6 f e
theorem zx4(d:List Nat):∀fr:List (Nat×AV),bM d (bM d fr)=bM d fr
 |[]=>rfl|(k,v)::r=>by
  simp only[bM,zx4 d r];by_cases h:k∈d<;>simp[h]
theorem xu0(n:Nat)(fr:List (Nat×AV))(h:aA):trunc n fr (trunc n fr h)=trunc n fr h:=by
 by_cases b:(bW n fr&&cV n (h.take n))=true
 ·have e:trunc n fr h=h.take n:=by simp only[trunc,b,bD]
  rw[e];simp only[trunc,AF,Nat.min_self,ite_self]
 ·have e:trunc n fr h=h:=by simp only[trunc,b];rfl
  rw[e,e]
theorem cZ{d:List Nat}{a:MC}{n:Nat}(e:cY G d a n ks Q (bM d fr) (trunc n (bM d fr) h))(c:d.contains 999999=false:=by rfl):cY G d a n ks Q fr h:=by
 obtain⟨N,b⟩:=e;refine⟨N,?_⟩;cases N with
 |zero=>exact b|succ N=>
  simp only[iK]at b⊢;simp only[sO,c,dE,bY]at b⊢;rw[zx4,xu0]at b;exact b
theorem QX{n b l ver k:Nat}{x:AV}{new rows:List (List AV)}(j:rowsOf h x=some new)(f:h[l]?=some (.arr n ver rows true))(e:k=rows.length)(i:dB n new=true)(g:new≠[])(c:(k+new.length)*b<=bT)(d:k+new.length<=bT):opV G s h (.app false n b) (some [.own l ver k,x])=some (.own l (ver+new.length) (k+new.length),h.set l (.arr n (ver+new.length) (rows++new) true)):=by
 rw[eG rfl];simp only[cG,kF,dE,bY,j,i,bD,lN,f];rw[if_pos ⟨trivial,e,trivial,trivial⟩,if_neg g,if_pos ⟨c,d⟩,xr8]
theorem xb7{l c k:Nat}{e:TypeId}{g:Bool}{x:AV}{b d:List (List AV)}(o:kF h g x=some b)(j:h[l]?=some (.arrT (some e) 1 c d true))(i:k=d.length)(n:dB 1 b=true)(m:b≠[])(f:k+b.length<=bT):opV G s h (.appT g 1 1 e) (some [.own l c k,x])=some (.own l (c+b.length) (k+b.length),h.set l (.arrT (some e) 1 (c+b.length) (d++b) true)):=by
 rw[eG rfl];simp only[cG,o,n,bD,lN,j];rw[if_pos ⟨trivial,i,trivial,trivial⟩,if_neg m,if_pos ⟨by rw[mB];exact f,f⟩,xr9]
@[simp]theorem kI{n:Nat}{c:List AV}{s:Bool}(d:dX c=[]):opV G s h (.bsl false n) (some c)=(bU h c).bind fun b=>if dB n (b.map AV.cells)/\fW (b.map AV.cells)/\0<n/\b.length*n<=16777216 then some (.tsl (b.map AV.cells),h)else none:=by
 cases s
 ·simp only[opV,eW,dE,bY,jB,dN,AO.quiet,cG,yB,d,eS];cases bU h c<;>rfl
 ·simp only[opV,AO.loud,iF,xJ,bD,jL,AO.quiet,dE,bY,d];cases bU h c with
  |none=>rfl|some b=>simp only[tQ];split<;>rfl
theorem sC{d i:Nat}{c:List (List AV)}{b:List AV}{k:IntKind}(e:c[i]?=some b)(f:b.length=d):bA d h (.sl c) (.int k i)=some (.fptr b 0):=by simp[bA,e,f]
@[simp]theorem xH2{b d:Nat}{c:Bool}{e:List AV}:aB b c h (.fptr e d)=aE c b (cut e d b):=rfl
@[simp]theorem xH4{b:Nat}{v:AV}:aE false b [v]=some v:=rfl
end
@[match_pattern]abbrev AV.n(x:Int):AV:=.int .i64 x
@[match_pattern]abbrev AV.u(x:Int):AV:=.int .u64 x
@[match_pattern]abbrev AV.T:AV:=.bool true
@[match_pattern]abbrev AV.F:AV:=.bool false
abbrev zz25:List AV:=[.u 0,.u 0,.u 0,.u 0,.u 0,.u 0,.u 0,.u 0,.u 0,.u 0,.u 0,.u 0,.u 0,.u 0,.u 0,.u 0,.u 0,.u 0,.u 0,.u 0,.u 0,.u 0,.u 0,.u 0,.u 0]
abbrev ff256:List AV:=[.F,.F,.F,.F,.F,.F,.F,.F,.F,.F,.F,.F,.F,.F,.F,.F,.F,.F,.F,.F,.F,.F,.F,.F,.F,.F,.F,.F,.F,.F,.F,.F,.F,.F,.F,.F,.F,.F,.F,.F,.F,.F,.F,.F,.F,.F,.F,.F,.F,.F,.F,.F,.F,.F,.F,.F,.F,.F,.F,.F,.F,.F,.F,.F,.F,.F,.F,.F,.F,.F,.F,.F,.F,.F,.F,.F,.F,.F,.F,.F,.F,.F,.F,.F,.F,.F,.F,.F,.F,.F,.F,.F,.F,.F,.F,.F,.F,.F,.F,.F,.F,.F,.F,.F,.F,.F,.F,.F,.F,.F,.F,.F,.F,.F,.F,.F,.F,.F,.F,.F,.F,.F,.F,.F,.F,.F,.F,.F,.F,.F,.F,.F,.F,.F,.F,.F,.F,.F,.F,.F,.F,.F,.F,.F,.F,.F,.F,.F,.F,.F,.F,.F,.F,.F,.F,.F,.F,.F,.F,.F,.F,.F,.F,.F,.F,.F,.F,.F,.F,.F,.F,.F,.F,.F,.F,.F,.F,.F,.F,.F,.F,.F,.F,.F,.F,.F,.F,.F,.F,.F,.F,.F,.F,.F,.F,.F,.F,.F,.F,.F,.F,.F,.F,.F,.F,.F,.F,.F,.F,.F,.F,.F,.F,.F,.F,.F,.F,.F,.F,.F,.F,.F,.F,.F,.F,.F,.F,.F,.F,.F,.F,.F,.F,.F,.F,.F,.F,.F,.F,.F,.F,.F,.F,.F,.F,.F,.F,.F,.F,.F,.F,.F,.F,.F,.F,.F]
end Go.Proofs.YtdebajodkallbaaGreatDoor
