/- Binaries as bytes -/
import Derived.Test.YtdebajodkallbaaGreatDoorS4
namespace Go.Proofs.YtdebajodkallbaaGreatDoor
open Go.RowKit Go.IntWalk
def aS{α:Type}(one:Rd->α×Rd):Nat->Rd->List α×Rd
 |0,r=>([],r)|n+1,r=>if r.err≠0 then([],r)else((one r).1::(aS one n (one r).2).1,(aS one n (one r).2).2)
def bH{α:Type}(one:Rd->α×Rd)(r:Rd):List α×Rd:=aS one (rdNum 0 65536 r).1.toNat (rdNum 0 65536 r).2
structure Codes{α:Type}(one:Rd->α×Rd)(enc:α->Bs)(ok:α->Prop):Prop where
 back:∀x s,ok x->one ⟨enc x++s,0⟩=(x,⟨s,0⟩)inv:∀r x r',one r=(x,r')->r'.err=0->r.err=0/\r.rest=enc x++r'.rest
def dU{α:Type}(enc:α->Bs)(l:List α):Bs:=bQ l.length++l.flatMap enc
section
variable{α:Type}{one:Rd->α×Rd}{enc:α->Bs}{ok:α->Prop}
theorem zB1(h:Codes one enc ok):∀(l:List α)(s:Bs),(∀x∈l,ok x)->aS one l.length ⟨l.flatMap enc++s,0⟩=(l,⟨s,0⟩)
 |[],s,_=>rfl|x::r,s,a=>by
  have e:(x::r).flatMap enc++s=enc x++(r.flatMap enc++s):=by simp
  have d:=h.back x (r.flatMap enc++s) (a x qK);simp only[hJ,aS,e,d,zB1 h r s (fun y f=>a y (rO _ f)),ne_eq,xP,bY]
theorem zB2(h:Codes one enc ok):∀(n:Nat){r r':Rd}{l:List α},aS one n r=(l,r')->r'.err=0->r.err=0/\l.length=n/\r.rest=l.flatMap enc++r'.rest
 |0,r,r',l,a,d=>by
  simp only[aS,dF]at a;obtain⟨rfl,rfl⟩:=a;exact⟨d,rfl,rfl⟩|n+1,r,r',l,a,d=>by
  obtain⟨x,e,f⟩:∃x e,one r=(x,e):=⟨_,_,rfl⟩;obtain⟨m,i,g⟩:∃m i,aS one n e=(m,i):=⟨_,_,rfl⟩;simp only[aS,f,g]at a;split at a
  ·rename_i j;simp only[dF]at a;obtain⟨_,rfl⟩:=a;exact absurd d j
  ·simp only[dF]at a;obtain⟨rfl,rfl⟩:=a;obtain⟨k1,k2,k3⟩:=zB2 h n g d;obtain⟨k,o⟩:=h.inv _ _ _ f k1;exact⟨k,by simp[k2],by rw[o,k3];simp⟩
theorem KA(h:Codes one enc ok){l:List α}{s:Bs}(d:l.length<=65536)(a:∀x∈l,ok x):bH one ⟨dU enc l++s,0⟩=(l,⟨s,0⟩):=by
 unfold bH dU;rw[iN,zH7 (by omega) (by omega) (by omega)];simp only[iG];exact zB1 h l s a
theorem KB(h:Codes one enc ok){r r':Rd}{l:List α}(a:bH one r=(l,r'))(f:r'.err=0):r.err=0/\r.rest=dU enc l++r'.rest:=by
 unfold bH at a;obtain⟨n,e,d⟩:∃n e,rdNum 0 65536 r=(n,e):=⟨_,_,rfl⟩;simp only[d]at a;obtain⟨k1,k2,k3⟩:=zB2 h _ a f;obtain⟨g,k,rfl,_,_,_,i⟩:=zH9 d k1;refine⟨g,?_⟩;rw[i,k3];simp only[iG]at k2;unfold dU;rw[k2,iN]
end
def eK(a:Int)(r:Rd):Plc×Rd:=(⟨(bG 65536 r).1,(bG 65536 (bG 65536 r).2).1,(rdNum 0 a (bG 65536 (bG 65536 r).2).2).1,(rdNum 0 65536 (rdNum 0 a (bG 65536 (bG 65536 r).2).2).2).1,(rdNum 0 65536 (rdNum 0 65536 (rdNum 0 a (bG 65536 (bG 65536 r).2).2).2).2).1⟩,(rdNum 0 65536 (rdNum 0 65536 (rdNum 0 a (bG 65536 (bG 65536 r).2).2).2).2).2)
def fI(r:Rd):Int×Rd:=rdNum 0 65536 r
def fD(r:Rd):Imp×Rd:=(⟨(bG 65536 r).1,(bG 65536 (bG 65536 r).2).1,(rdNum 0 65536 (bG 65536 (bG 65536 r).2).2).1⟩,(rdNum 0 65536 (bG 65536 (bG 65536 r).2).2).2)
def fH(r:Rd):Expo×Rd:=(⟨(bG 65536 r).1,(rdNum 0 65536 (bG 65536 r).2).1⟩,(rdNum 0 65536 (bG 65536 r).2).2)
def fJ(r:Rd):(Bs×Bs)×Rd:=(((bG 65536 r).1,(bG 65536 (bG 65536 r).2).1),(bG 65536 (bG 65536 r).2).2)
def plB(p:Plc):Bs:=cM p.obj++(cM p.sym++(bQ p.kd.toNat++(bQ p.pos.toNat++bQ p.siz.toNat)))
def fxB(n:Int):Bs:=bQ n.toNat
def imB(x:Imp):Bs:=cM x.lib++(cM x.sym++bQ x.pos.toNat)
def exB(x:Expo):Bs:=cM x.sym++bQ x.pos.toNat
def ntB(n:Bs×Bs):Bs:=cM n.1++cM n.2
def inN(n:Int):Prop:=0<=n/\n<=65536
def zE5(a:Int)(p:Plc):Prop:=p.obj.length<=65536/\p.sym.length<=65536/\0<=p.kd/\p.kd<=a/\p.kd<=65536/\inN p.pos/\inN p.siz
def zE3(x:Imp):Prop:=x.lib.length<=65536/\x.sym.length<=65536/\inN x.pos
def zE2(x:Expo):Prop:=x.sym.length<=65536/\inN x.pos
def zE4(n:Bs×Bs):Prop:=n.1.length<=65536/\n.2.length<=65536
theorem yJ{n:Int}{hi:Int}{s:Bs}(h:0<=n/\n<=hi)(a:n<=65536):rdNum 0 hi ⟨bQ n.toNat++s,0⟩=(n,⟨s,0⟩):=by
 obtain⟨k,rfl⟩:∃k:Nat,n=k:=⟨n.toNat,by omega⟩;rw[iG];exact zH7 h.1 h.2 (by omega)
theorem yK{a:Int}{r r':Rd}{n:Int}(h:rdNum 0 a r=(n,r'))(d:r'.err=0):r.err=0/\(0<=n/\n<=a)/\r.rest=bQ n.toNat++r'.rest:=by
 obtain⟨k1,k,rfl,k3,k4,_,k6⟩:=zH9 h d;exact⟨k1,⟨k3,k4⟩,by rw[iG];exact k6⟩
theorem yY{t s:Bs}(h:t.length<=65536):bG 65536 ⟨cM t++s,0⟩=(t,⟨s,0⟩):=zI0 (by omega) h
theorem zn1(k:Int):Codes (eK k) plB (zE5 k)where
 back p s h:=by
  obtain⟨w,y,A,h4,h5,t,u⟩:=h;have e:=yY (t:=p.obj) (s:=cM p.sym++(bQ p.kd.toNat++(bQ p.pos.toNat++(bQ p.siz.toNat++s)))) w;have f:=yY (t:=p.sym) (s:=bQ p.kd.toNat++(bQ p.pos.toNat++(bQ p.siz.toNat++s))) y;have g:=yJ (hi:=k) (s:=bQ p.pos.toNat++(bQ p.siz.toNat++s)) ⟨A,h4⟩ h5;have i:=yJ (hi:=65536) (s:=bQ p.siz.toNat++s) t t.2;have j:=yJ (hi:=65536) (s:=s) u u.2;unfold eK plB;simp only[iN,e,f,g,i,j]
 inv r x r' h B:=by
  obtain⟨a,m,e⟩:∃a m,bG 65536 r=(a,m):=⟨_,_,rfl⟩;obtain⟨b,n,f⟩:∃a n,bG 65536 m=(a,n):=⟨_,_,rfl⟩;obtain⟨c,o,g⟩:∃a o,rdNum 0 k n=(a,o):=⟨_,_,rfl⟩;obtain⟨d,q,i⟩:∃a q,rdNum 0 65536 o=(a,q):=⟨_,_,rfl⟩;obtain⟨z,v,j⟩:∃a v,rdNum 0 65536 q=(a,v):=⟨_,_,rfl⟩;simp only[eK,e,f,g,i,j,dF]at h;obtain⟨rfl,rfl⟩:=h;obtain⟨k5,_,I⟩:=yK j B;obtain⟨k4,_,F⟩:=yK i k5;obtain⟨k3,_,E⟩:=yK g k4;obtain⟨k2,_,_,D⟩:=wE f k3;obtain⟨k1,_,_,C⟩:=wE e k2;exact⟨k1,by rw[C,D,E,F,I];simp[plB]⟩
theorem zm8:Codes fI fxB inN where
 back n s h:=yJ h h.2
 inv r x r' h a:=by
  obtain⟨k,_,l⟩:=yK h a;exact⟨k,l⟩
theorem zm9:Codes fD imB zE3 where
 back x s h:=by
  obtain⟨m,n,j⟩:=h;have d:=yY (t:=x.lib) (s:=cM x.sym++(bQ x.pos.toNat++s)) m;have e:=yY (t:=x.sym) (s:=bQ x.pos.toNat++s) n;have f:=yJ (hi:=65536) (s:=s) j j.2;unfold fD imB;simp only[iN,d,e,f]
 inv r x r' h o:=by
  obtain⟨a,g,d⟩:∃a g,bG 65536 r=(a,g):=⟨_,_,rfl⟩;obtain⟨b,i,e⟩:∃a i,bG 65536 g=(a,i):=⟨_,_,rfl⟩;obtain⟨c,k,f⟩:∃a k,rdNum 0 65536 i=(a,k):=⟨_,_,rfl⟩;simp only[fD,d,e,f,dF]at h;obtain⟨rfl,rfl⟩:=h;obtain⟨k3,_,t⟩:=yK f o;obtain⟨k2,_,_,q⟩:=wE e k3;obtain⟨k1,_,_,p⟩:=wE d k2;exact⟨k1,by rw[p,q,t];simp[imB]⟩
theorem zm7:Codes fH exB zE2 where
 back x s h:=by
  obtain⟨j,g⟩:=h;have d:=yY (t:=x.sym) (s:=bQ x.pos.toNat++s) j;have e:=yJ (hi:=65536) (s:=s) g g.2;unfold fH exB;simp only[iN,d,e]
 inv r x r' h k:=by
  obtain⟨a,f,d⟩:∃a f,bG 65536 r=(a,f):=⟨_,_,rfl⟩;obtain⟨c,i,e⟩:∃a i,rdNum 0 65536 f=(a,i):=⟨_,_,rfl⟩;simp only[fH,d,e,dF]at h;obtain⟨rfl,rfl⟩:=h;obtain⟨k3,_,n⟩:=yK e k;obtain⟨k1,_,_,m⟩:=wE d k3;exact⟨k1,by rw[m,n];simp[exB]⟩
theorem zn0:Codes fJ ntB zE4 where
 back x s h:=by
  obtain⟨i,j⟩:=h;have d:=yY (t:=x.1) (s:=cM x.2++s) i;have e:=yY (t:=x.2) (s:=s) j;unfold fJ ntB;simp only[iN,d,e]
 inv r x r' h k:=by
  obtain⟨a,f,d⟩:∃a f,bG 65536 r=(a,f):=⟨_,_,rfl⟩;obtain⟨b,g,e⟩:∃a g,bG 65536 f=(a,g):=⟨_,_,rfl⟩;simp only[fJ,d,e,dF]at h;obtain⟨rfl,rfl⟩:=h;obtain⟨k2,_,_,n⟩:=wE e k;obtain⟨k1,_,_,m⟩:=wE d k2;exact⟨k1,by rw[m,n];simp[ntB]⟩
def iI:Bs:=[98,105,110,97,114,121]
def jQ(d g a j:Int)(o:Rd):(Bs×Bin)×Rd:=let h:=bG d o
 let k:=rdNum 0 g h.2
 let e:=rdNum 0 a k.2
 let i:=bG 65536 e.2
 let p:=bH (eK j) i.2
 let f:=bH fI p.2
 let m:=bH fD f.2
 let x:=bH fH m.2
 let n:=bH fJ x.2
 ((h.1,⟨k.1,e.1-1,i.1,p.1,f.1,m.1,x.1,n.1⟩),n.2)
def bin0:Bin:=⟨0,0,[],[],[],[],[],[]⟩
def lC(d e a f:Int)(s:Bs):Bin×Int:=if 65536<s.length\/(jQ d e a f ⟨s,0⟩).1.1≠iI\/jC (jQ d e a f ⟨s,0⟩).2≠0\/gS (jQ d e a f ⟨s,0⟩).1.2≠0 then(bin0,17)else((jQ d e a f ⟨s,0⟩).1.2,0)
def oA(b:Bin):Bs:=dU plB b.pl++(dU fxB b.fx++(dU imB b.im++(dU exB b.ex++dU ntB b.nt)))
def dC(b:Bin):Bs:=cM iI++(bQ b.kind.toNat++(bQ (b.entry+1).toNat++(cM b.img++oA b)))
theorem xg7{v w u d:Int}{s h:Bs}{b:Bin}{r:Rd}(e:jQ v w u d ⟨s,0⟩=((h,b),r))(D:jC r=0)(E:h=iI):s=dC b:=by
 obtain⟨Z,P,f⟩:∃a q,bG v ⟨s,0⟩=(a,q):=⟨_,_,rfl⟩;obtain⟨v1,Q,g⟩:∃a q,rdNum 0 w P=(a,q):=⟨_,_,rfl⟩;obtain⟨y,S,i⟩:∃a q,rdNum 0 u Q=(a,q):=⟨_,_,rfl⟩;obtain⟨v3,T,j⟩:∃a q,bG 65536 S=(a,q):=⟨_,_,rfl⟩;obtain⟨v4,U,k⟩:∃a q,bH (eK d) T=(a,q):=⟨_,_,rfl⟩;obtain⟨v5,V,m⟩:∃a q,bH fI U=(a,q):=⟨_,_,rfl⟩;obtain⟨v6,W,n⟩:∃a q,bH fD V=(a,q):=⟨_,_,rfl⟩;obtain⟨v7,X,o⟩:∃a q,bH fH W=(a,q):=⟨_,_,rfl⟩;obtain⟨v8,Y,p⟩:∃a q,bH fJ X=(a,q):=⟨_,_,rfl⟩;simp only[jQ,f,g,i,j,k,m,n,o,p,dF]at e;obtain⟨⟨rfl,rfl⟩,rfl⟩:=e;obtain⟨A,B⟩:=yr1 D;obtain⟨k8,O⟩:=KB zn0 p A;obtain⟨k7,N⟩:=KB zm7 o k8;obtain⟨k6,M⟩:=KB zm9 n k7;obtain⟨k5,L⟩:=KB zm8 m k6;obtain⟨k4,K⟩:=KB (zn1 d) k k5;obtain⟨k3,_,_,J⟩:=wE j k4;obtain⟨k2,_,I⟩:=yK i k3;obtain⟨k1,_,F⟩:=yK g k2;obtain⟨k0,_,_,t⟩:=wE f k1;simp only at t;rw[t,F,I,J,K,L,M,N,O,B,E];have C:y-1+1=y:=by omega
 simp[dC,oA,C]
structure OkRange(b:Bin):Prop where
 kind:0<=b.kind/\b.kind<=2
 entry:-1<=b.entry/\b.entry<=0
 img:b.img.length<=65536
 plL:b.pl.length<=65536
 pl:∀p∈b.pl,zE5 2 p
 fxL:b.fx.length<=65536
 fx:∀a∈b.fx,inN a
 imL:b.im.length<=65536
 im:∀x∈b.im,zE3 x
 exL:b.ex.length<=65536
 ex:∀x∈b.ex,zE2 x
 ntL:b.nt.length<=65536
 nt:∀x∈b.nt,zE4 x
theorem xg6{a f e d:Int}(S:6<=a)(T:2<=f)(U:1<=e)(h4:2<=d){b:Bin}(h:OkRange b):jQ a f e d ⟨dC b,0⟩=((iI,b),⟨[],0⟩):=by
 obtain⟨W,V,E,M,L,D,C,I,F,P,O,K,J⟩:=h;have q:bG a ⟨dC b,0⟩=(iI,⟨bQ b.kind.toNat++(bQ (b.entry+1).toNat++(cM b.img++oA b)),0⟩):=zI0 (by show((6:Nat):Int)<=a;omega) (by decide);have s:=yJ (n:=b.kind) (hi:=f) (s:=bQ (b.entry+1).toNat++(cM b.img++oA b)) (by omega) (by omega);have t:=yJ (n:=b.entry+1) (hi:=e) (s:=cM b.img++oA b) (by omega) (by omega);have u:=yY (t:=b.img) (s:=oA b) E;have v:bH (eK d) ⟨oA b,0⟩=_:=KA (zn1 d) (s:=dU fxB b.fx++(dU imB b.im++(dU exB b.ex++dU ntB b.nt))) M (fun p N=>by
  obtain⟨i,j,k,Q,m,n,o⟩:=L p N;exact⟨i,j,k,by omega,m,n,o⟩);have w:=KA zm8 (s:=dU imB b.im++(dU exB b.ex++dU ntB b.nt)) D C;have y:=KA zm9 (s:=dU exB b.ex++dU ntB b.nt) I F;have A:=KA zm7 (s:=dU ntB b.nt) P O;have g:=KA zn0 (s:=[]) K J;rw[dY]at g;have B:b.entry+1-1=b.entry:=by omega
 simp only[jQ,q,s,t,u,v,w,y,A,g,B]
theorem CJ(t:Bs):t.length<=(cM t).length:=by unfold cM;simp;omega
theorem QT(n:Nat):0<(bQ n).length:=by unfold bQ;simp
theorem zs5{α:Type}{f:α->Bs}:∀{l:List α}{x:α},x∈l->(f x).length<=(l.flatMap f).length
 |y::r,x,h=>by
  rw[oX,bX];rcases fE.1 h with rfl|h;·omega
  ·have:=zs5 (f:=f) h;omega
theorem zs4{α:Type}{f:α->Bs}(a:∀x,0<(f x).length):∀l:List α,l.length<=(l.flatMap f).length
 |[]=>dA _|x::r=>by
  have:=zs4 a r;have:=a x;rw[oX,bX,hJ];omega
theorem KF{α:Type}{f:α->Bs}(a:∀x,0<(f x).length)(l:List α):l.length<=(dU f l).length/\∀x∈l,(f x).length<=(dU f l).length:=by
 unfold dU;rw[bX];refine⟨by have:=zs4 a l;omega,fun x d=>by have:=zs5 (f:=f) d;omega⟩
theorem zt3{b:Bin}(h:iJ b=true):∀(r S:List Int),fxP b S r=true->∀a∈r,inN a
 |[],_,_,a,d=>by cases d|x::r,S,f,a,d=>by
  rw[fxP]at f;simp only[bS]at f;obtain⟨⟨⟨_,i⟩,_⟩,o⟩:=f;rcases fE.1 d with rfl|d
  ·have e:inE b.pl a=true:=by unfold kW at i;rw[bS]at i;exact i.1
   unfold inE at e;obtain⟨q,v,k⟩:=nM h;cases g:oI a b.pl with
   |none=>rw[g]at e;cases e|some p=>
    rw[g]at e;simp only[AG,lK,bC]at e;have u:∀l:List Plc,oI a l=some p->p∈l/\atE a p=true:=by
     intro l;induction l with
     |nil=>intro h;cases h|cons y t j=>
      intro h;rw[oI]at h;split at h;·rename_i s;injection h with h;subst h;exact⟨qK,s⟩
      ·exact⟨rO _ (j h).1,(j h).2⟩
    obtain⟨n,m⟩:=u _ g;have w:=qZ k p n;obtain⟨A,B,C⟩:=IH.1 m;exact⟨by omega,by omega⟩
  ·exact zt3 h r _ o a d
theorem zw0{b:Bin}(h:iJ b=true):∀(r:List Imp)(S:List Int),imP b S r=true->∀x∈r,inN x.pos
 |[],_,_,a,d=>by cases d|x::r,S,e,a,d=>by
  rw[imP]at e;simp only[bS]at e;obtain⟨⟨⟨⟨⟨_,g⟩,_⟩,_⟩,_⟩,n⟩:=e;rcases fE.1 d with rfl|d
  ·have f:inE b.pl a.pos=true:=by unfold kW at g;rw[bS]at g;exact g.1
   have i:=XN (nM h).2.2;rw[QA i (fun p m=>(yP (qZ (nM h).2.2 p m).1).1)]at f;unfold kB at f;obtain⟨p,k,j⟩:=tK.1 f;have q:=qZ (nM h).2.2 p k;have o:=(nM h).2.1;simp only[bS,fU]at j;exact⟨by omega,by omega⟩
  ·exact zw0 h r _ n a d
theorem zr2{b:Bin}(h:iJ b=true):∀(r:List Expo)(l:Option Bs),exP b.pl l r=true->∀x∈r,inN x.pos
 |[],_,_,a,d=>by cases d|x::r,l,e,a,d=>by
  rw[exP]at e;simp only[bS]at e;obtain⟨⟨_,k⟩,j⟩:=e;rcases fE.1 d with rfl|d
  ·obtain⟨p,g,f⟩:=tK.1 k;simp only[bS,beq_iff_eq]at f;have i:=qZ (nM h).2.2 p g;have n:=yP i.1;have m:=(nM h).2.1;exact⟨by omega,by omega⟩
  ·exact zr2 h r _ j a d
theorem OO{b:Bin}(i:gS b=0)(n:(dC b).length<=65536):OkRange b:=by
 have g:tU b=true:=by
  unfold gS at i;split at i;·assumption
  ·cases i
 unfold tU at g;simp only[bS,Bool.or_eq_true]at g;obtain⟨⟨⟨⟨e,t⟩,C⟩,D⟩,a⟩:=g;have f:=t;unfold oO at f;rw[bS]at f;obtain⟨I,A,B⟩:=nM e;have m:(oA b).length<=65536:=by unfold dC at n;simp only[bX]at n;omega
 unfold oA at m;simp only[bX]at m;have u:=KF (f:=plB) (fun x=>by unfold plB;have:=QT x.kd.toNat;simp only[bX];omega) b.pl;have F:=KF (f:=fxB) (fun x=>QT _) b.fx;have v:=KF (f:=imB) (fun x=>by unfold imB;have:=QT x.pos.toNat;simp only[bX];omega) b.im;have w:=KF (f:=exB) (fun x=>by unfold exB;have:=QT x.pos.toNat;simp only[bX];omega) b.ex;have y:=KF (f:=ntB) (fun x=>by unfold ntB cM;simp;omega) b.nt;refine⟨?_,?_,A,by omega,fun p d=>?_,by omega,zt3 e _ _ f.1,by omega,fun x d=>?_,by omega,fun x d=>?_,by omega,fun x d=>?_⟩
 ·rcases a with a|a;·have:=gW.1 a.1.1.1;omega
  ·have:=gW.1 a.1.1.1;omega
 ·rcases a with a|a;·have:=gW.1 a.1.1.2;omega
  ·have:=gW.1 a.1.1.2;omega
 ·have s:=qZ B p d;have E:=yP s.1;have:=u.2 p d;have j:=CJ p.obj;have o:=CJ p.sym;have k:(plB p).length=(cM p.obj).length+((cM p.sym).length+((bQ p.kd.toNat).length+((bQ p.pos.toNat).length+(bQ p.siz.toNat).length))):=by unfold plB;simp only[bX]
  exact⟨by omega,by omega,by omega,by omega,by omega,⟨by omega,by omega⟩,⟨by omega,by omega⟩⟩
 ·have:=v.2 x d;have j:=CJ x.lib;have o:=CJ x.sym;have k:(imB x).length=(cM x.lib).length+((cM x.sym).length+(bQ x.pos.toNat).length):=by unfold imB;simp only[bX]
  exact⟨by omega,by omega,zw0 e _ _ f.2 x d⟩
 ·have:=w.2 x d;have j:=CJ x.sym;have k:(exB x).length=(cM x.sym).length+(bQ x.pos.toNat).length:=by unfold exB;simp only[bX]
  refine⟨by omega,?_⟩;rcases a with a|a
  ·have q:b.ex=[]:=by simpa using a.2
   rw[q]at d;cases d
  ·exact zr2 e _ _ a.2 x d
 ·have:=y.2 x d;have j:=CJ x.1;have o:=CJ x.2;have k:(ntB x).length=(cM x.1).length+(cM x.2).length:=by unfold ntB;simp only[bX]
  exact⟨by omega,by omega⟩
theorem EB{f g d i:Int}(j:6<=f)(k:2<=g)(m:1<=d)(h4:2<=i)(s:Bs)(b:Bin):lC f g d i s=(b,0)↔s.length<=65536/\gS b=0/\s=dC b:=by
 constructor
 ·intro h;unfold lC at h;split at h;·simp only[dF]at h;cases h.2
  ·rename_i a;have t:¬65536<s.length:=fun e=>a (.inl e);have n:(jQ f g d i ⟨s,0⟩).1.1=iI:=xL fun e=>a (.inr (.inl e));have o:jC (jQ f g d i ⟨s,0⟩).2=0:=xL fun e=>a (.inr (.inr (.inl e)));have p:gS (jQ f g d i ⟨s,0⟩).1.2=0:=xL fun e=>a (.inr (.inr (.inr e)));simp only[dF,and_true]at h;subst h;exact⟨by omega,p,xg7 (h:=(jQ f g d i ⟨s,0⟩).1.1) (r:=(jQ f g d i ⟨s,0⟩).2) rfl o n⟩
 ·rintro⟨q,a,rfl⟩;have e:=xg6 j k m h4 (OO a q);unfold lC;rw[e];rw[if_neg];simp only[a,ne_eq,xP,or_false,false_or,not_or];exact⟨by omega,by simp[jC]⟩
theorem zo4{d e a f:Int}{s:Bs}(h:(lC d e a f s).2≠0):lC d e a f s=(bin0,17):=by
 unfold lC at h⊢;split;·rfl
 ·rename_i g;rw[if_neg g]at h;exact absurd rfl h
theorem yv3(s:Bs):lC 65536 65536 65536 65536 s=lC 6 2 1 2 s:=by
 by_cases e:(lC 65536 65536 65536 65536 s).2=0
 ·have a:lC 65536 65536 65536 65536 s=((lC 65536 65536 65536 65536 s).1,0):=by rw[<-e]
  have:=(EB (by omega) (by omega) (by omega) (by omega) s _).1 a;rw[a];exact((EB (by omega) (by omega) (by omega) (by omega) s _).2 this).symm
 ·by_cases f:(lC 6 2 1 2 s).2=0
  ·have d:lC 6 2 1 2 s=((lC 6 2 1 2 s).1,0):=by rw[<-f]
   have:=(EB (by omega) (by omega) (by omega) (by omega) s _).1 d;rw[d];exact(EB (by omega) (by omega) (by omega) (by omega) s _).2 this
  ·rw[zo4 e,zo4 f]
def oS:List AV->aA->Option (AV×aA)
 |[.ptr c 0],H=>match(H[c]?:Option Blk)with
  |some (.cellsT _ [.ptr l 0])=>gP [.ptr l 0,.n 0,.n 65536] H|_=>none
 |_,_=>none
def rI:List AV->aA->Option (AV×aA)
 |[.ptr c 0],H=>match(H[c]?:Option Blk)with
  |some (.cellsT _ [.ptr l 0])=>lW [.ptr l 0,.n 65536] H|_=>none
 |_,_=>none
theorem yt4{G:Gam}(f:G Fn.ai=some (.gen gP)):GW G Mc.an Rs.an Ks.an oS:=by
 intro j h r e a;unfold oS at a;split at a
 ·rename_i c;split at a
  ·rename_i tg l g;have i:aB 1 false h (.ptr c 0)=some (.ptr l 0):=by simp[aB,g,cut,aE]
   have d:opV G false h (.call Fn.ai) (some [.ptr l 0,.n 0,.n 65536])=some (r,e):=by rw[eX f,a]
   rw[aM];simp[Mc.an,aC,Ks.an,i,d,dM,Rs.an,dS,eZ,fK,-aB]
  ·cases a
 ·cases a
theorem yt5{G:Gam}(f:G Fn.a1=some (.gen lW)):GW G Mc.aq Rs.aq Ks.aq rI:=by
 intro j h r e a;unfold rI at a;split at a
 ·rename_i c;split at a
  ·rename_i tg l g;have i:aB 1 false h (.ptr c 0)=some (.ptr l 0):=by simp[aB,g,cut,aE]
   have d:opV G false h (.call Fn.a1) (some [.ptr l 0,.n 65536])=some (r,e):=by rw[eX f,a]
   rw[aM];simp[Mc.aq,aC,Ks.aq,i,d,dM,Rs.aq,dS,eZ,fK,-aB]
  ·cases a
 ·cases a
theorem IU{G:Gam}(a:G Fn.an=some (.gen oS)){K:aA}{l c:Nat}{tg tg':Option TypeId}{r:Rd}(d:K[c]?=some (.cellsT tg' [.ptr l 0]))(e:K[l]?=some (bR tg r))(f:r.rest.length<=1000000):eD G Fn.an [.ptr c 0] K=some (.n (rdNum 0 65536 r).1,K.set l (bR tg (rdNum 0 65536 r).2)):=by
 rw[lB a];simp only[oS,d,gP,e,bR];rw[if_pos f]
theorem IV{G:Gam}(a:G Fn.aq=some (.gen rI)){K:aA}{l c:Nat}{tg tg':Option TypeId}{r:Rd}(d:K[c]?=some (.cellsT tg' [.ptr l 0]))(e:K[l]?=some (bR tg r))(f:r.rest.length<=1000000):eD G Fn.aq [.ptr c 0] K=some (.str (bG 65536 r).1,K.set l (bR tg (bG 65536 r).2)):=by
 rw[lB a];simp only[rI,d,lW,e,bR];rw[if_pos f]
structure Env(H:aA)(l c t n:Nat):Prop where
 ec:H[c]?=some (.cells [.ptr l 0])et:H[t]?=some (.cells [.fn Fn.aq [.ptr c 0]])en:H[n]?=some (.cells [.fn Fn.an [.ptr c 0]])
structure EnvT(H:aA)(l c t:Nat):Prop where
 ec:H[c]?=some (.cells [.ptr l 0])et:H[t]?=some (.cells [.fn Fn.aq [.ptr c 0]])
def BA(H:aA)(t:Nat):Option (Nat×Nat):=match(H[t]?:Option Blk)with
 |some (.cellsT none [.fn f [.ptr c 0]])=>if f=Fn.aq then(match(H[c]?:Option Blk)with
  |some (.cellsT none [.ptr l 0])=>some (l,c)|_=>none)else none|_=>none
def tY(H:aA)(t n:Nat):Option (Nat×Nat):=match BA H t with
 |some (l,c)=>(match(H[n]?:Option Blk)with
  |some (.cellsT none [.fn f [.ptr a 0]])=>if f=Fn.an/\a=c then some (l,c)else none|_=>none)|none=>none
theorem PM{H:aA}{t l c:Nat}(h:BA H t=some (l,c)):EnvT H l c t:=by
 unfold BA at h;split at h
 ·rename_i f g e;split at h
  ·rename_i d;split at h
   ·rename_i i a;simp only[aT,dF]at h;obtain⟨rfl,rfl⟩:=h;exact⟨a,by rw[e,d]⟩
   ·cases h
  ·cases h
 ·cases h
theorem qQ{H:aA}{t n l c:Nat}(h:tY H t n=some (l,c)):Env H l c t n:=by
 unfold tY at h;split at h
 ·rename_i m j g;obtain⟨d,e⟩:=PM g;split at h
  ·rename_i f k i;split at h
   ·rename_i a;simp only[aT,dF]at h;obtain⟨rfl,rfl⟩:=h;exact⟨d,e,by rw[i,a.1,a.2]⟩
   ·cases h
  ·cases h
 ·cases h
theorem EnvT.of{H:aA}{l c t:Nat}(h:EnvT H l c t):BA H t=some (l,c):=by
 unfold BA;rw[h.et];simp[h.ec]
theorem Env.of{H:aA}{l c t n:Nat}(h:Env H l c t n):tY H t n=some (l,c):=by
 unfold tY;rw[EnvT.of ⟨h.ec,h.et⟩];simp[h.en]
def wY{α:Type}(one:Rd->α×Rd)(d:α->List AV)(l:Nat)(H:aA):Option (AV×aA):=match(H[l]?:Option Blk)with
 |some (.cellsT tg [.str s,.n a])=>if s.length<=1000000 then some (.agg (d (one ⟨s,a⟩).1),H.set l (bR tg (one ⟨s,a⟩).2)++[.cells (d (one ⟨s,a⟩).1)])else none|_=>none
def CX:List AV->aA->Option (AV×aA)
 |[.ptr t 0,.ptr n 0],H=>match tY H t n with
  |some (l,_)=>wY (eK 65536) Plc.row l H|none=>none
 |_,_=>none
def CY:List AV->aA->Option (AV×aA)
 |[.ptr t 0,.ptr n 0],H=>match tY H t n with
  |some (l,_)=>wY fD Imp.row l H|none=>none
 |_,_=>none
def CZ:List AV->aA->Option (AV×aA)
 |[.ptr t 0,.ptr n 0],H=>match tY H t n with
  |some (l,_)=>wY fH Expo.row l H|none=>none
 |_,_=>none
def DA:List AV->aA->Option (AV×aA)
 |[.ptr t 0],H=>match BA H t with
  |some (l,_)=>wY fJ dI l H|none=>none
 |_,_=>none
theorem OR{α:Type}{one:Rd->α×Rd}{a:α->List AV}{l:Nat}{H:aA}{x:AV}{d:aA}(h:wY one a l H=some (x,d)):∃tg r,H[l]?=some (bR tg r)/\r.rest.length<=1000000/\x=.agg (a (one r).1)/\d=H.set l (bR tg (one r).2)++[.cells (a (one r).1)]:=by
 unfold wY at h;split at h
 ·rename_i tg s e f;split at h
  ·rename_i g;simp only[aT,dF]at h;obtain⟨rfl,rfl⟩:=h;exact⟨tg,⟨s,e⟩,f,g,rfl,rfl⟩
  ·cases h
 ·cases h
theorem OS{α:Type}{one:Rd->α×Rd}{a:α->List AV}{l:Nat}{H:aA}{tg:Option TypeId}{r:Rd}(d:H[l]?=some (bR tg r))(e:r.rest.length<=1000000):wY one a l H=some (.agg (a (one r).1),H.set l (bR tg (one r).2)++[.cells (a (one r).1)]):=by
 simp only[wY,d,bR];rw[if_pos e]
def KH(H:aA)(l:Nat)(tg:Option TypeId)(z:Blk)(r:Rd):aA:=(H++[z]).set l (bR tg r)
section
variable{H:aA}{l:Nat}{tg:Option TypeId}{z:Blk}{r r':Rd}
theorem NG(a:H[l]?=some (bR tg r)):H++[z]=KH H l tg z r:=by
 unfold KH;apply rK;intro j;have d:l<H.length:=(aV.1 a).1;rw[iY];by_cases e:l=j
 ·subst e;rw[if_pos rfl,if_pos (by simp;omega),gC d,a]
 ·rw[if_neg e]
theorem zX:(KH H l tg z r).set l (bR tg r')=KH H l tg z r':=by unfold KH;rw[tP]
theorem nU{j:Nat}{b:Blk}(a:H[j]?=some b)(d:l≠j):(KH H l tg z r)[j]?=some b:=by
 unfold KH;rw[lL d,gC (aV.1 a).1,a]
theorem zW(a:l<H.length):(KH H l tg z r)[l]?=some (bR tg r):=by unfold KH;exact jI (by simp;omega)
theorem NF{b:Blk}(a:l<H.length):(KH H l tg z r).set H.length b=H.set l (bR tg r)++[b]:=by
 unfold KH;rw[List.set_append_left _ _ a,lZ _ _ (by simp)];simp
theorem NH(a:l<H.length):(KH H l tg z r)[H.length]?=some z:=by
 unfold KH;rw[List.set_append_left _ _ a,fT (by simp)];simp
end
theorem iR{H:aA}{l j:Nat}{tg e:Option TypeId}{r:Rd}{v:AV}(d:H[l]?=some (bR tg r))(a:H[j]?=some (.cellsT e [v])):l≠j:=by
 rintro rfl;rw[d]at a;simp[bR]at a
theorem yt6{G:Gam}(V:G Fn.an=some (.gen oS))(W:G Fn.aq=some (.gen rI)):GW G Mc.cp Rs.cp Ks.cp CX:=by
 intro c3 H x H' k;unfold CX at k;split at k
 ·rename_i a3 a1;split at k
  ·rename_i l c X;obtain⟨n,L,K⟩:=qQ X;obtain⟨tg,r,m,M,rfl,rfl⟩:=OR k;have o:l<H.length:=(aV.1 m).1;obtain⟨z,N⟩:∃z:Blk,z=.cells [.str [],.str [],.n 0,.n 0,.n 0]:=⟨_,rfl⟩;have P:∀O,opV G O H (.alloc [.str [],.str [],.n 0,.n 0,.n 0]) (some [])=some (.ptr H.length 0,KH H l tg z r):=fun O=>by rw[eG rfl,<-NG m,N];rfl
   have U:∀r',aB 1 false (KH H l tg z r') (.ptr a3 0)=some (.fn Fn.aq [.ptr c 0]):=fun r'=>by simp[aB,nU (r:=r') L (iR m L),cut,aE]
   have I:∀r',r'.rest.length<=1000000->eD G Fn.aq [.ptr c 0] (KH H l tg z r')=some (.str (bG 65536 r').1,KH H l tg z (bG 65536 r').2):=fun r' B=>by rw[IV W (nU n (iR m n)) (zW o) B,zX]
   have T:∀r',aB 1 false (KH H l tg z r') (.ptr a1 0)=some (.fn Fn.an [.ptr c 0]):=fun r'=>by simp[aB,nU (r:=r') K (iR m K),cut,aE]
   have u:∀r',r'.rest.length<=1000000->eD G Fn.an [.ptr c 0] (KH H l tg z r')=some (.n (rdNum 0 65536 r').1,KH H l tg z (rdNum 0 65536 r').2):=fun r' B=>by rw[IU V (nU n (iR m n)) (zW o) B,zX]
   obtain⟨d,p,v⟩:∃a q,bG 65536 r=(a,q):=⟨_,_,rfl⟩;have D:p.rest.length<=1000000:=by have:=BR (most:=65536) (e:=r.err) M;rw[v]at this;exact this
   obtain⟨e,s,w⟩:∃a q,bG 65536 p=(a,q):=⟨_,_,rfl⟩;have E:s.rest.length<=1000000:=by have:=BR (most:=65536) (e:=p.err) D;rw[w]at this;exact this
   obtain⟨f,t,y⟩:∃a q,rdNum 0 65536 s=(a,q):=⟨_,_,rfl⟩;have F:t.rest.length<=1000000:=by have:=XU (lo:=0) (hi:=65536) (e:=s.err) E;rw[y]at this;exact this
   obtain⟨g,C,A⟩:∃a q,rdNum 0 65536 t=(a,q):=⟨_,_,rfl⟩;have Q:C.rest.length<=1000000:=by have:=XU (lo:=0) (hi:=65536) (e:=t.err) F;rw[A]at this;exact this
   obtain⟨i,j,J⟩:∃a q,rdNum 0 65536 C=(a,q):=⟨_,_,rfl⟩;have S:eK 65536 r=(⟨d,e,f,g,i⟩,j):=by simp only[eK,v,w,y,A,J]
   have k1:=I r M;rw[v]at k1;have k2:=I p D;rw[w]at k2;have k3:=u s E;rw[y]at k3;have k4:=u t F;rw[A]at k4;have k5:=u C Q;rw[J]at k5;rw[S];have Z:(KH H l tg z j)[H.length]?=some (.cells [.str [],.str [],.n 0,.n 0,.n 0]):=by rw[NH o,N]
   have a2:aU 5 (KH H l tg z j) (.ptr H.length 0) (.agg [.str d,.str e,.n f,.n g,.n i])=some (H.set l (bR tg j)++[.cells [.str d,.str e,.n f,.n g,.n i]]):=by simp[aU,Z,bK,NF o]
   have lf:aB 5 true (H.set l (bR tg j)++[.cells [.str d,.str e,.n f,.n g,.n i]]) (.ptr H.length 0)=some (.agg [.str d,.str e,.n f,.n g,.n i]):=by
    have Y:(H.set l (bR tg j)++[Blk.cells [.str d,.str e,.n f,.n g,.n i]])[H.length]?=some (.cells [.str d,.str e,.n f,.n g,.n i]):=by rw[fT (by simp)];simp
    simp[aB,cut,aE]
   rw[aM];simp only[Plc.row];generalize H.set l (bR tg j)++[Blk.cells [.str d,.str e,.n f,.n g,.n i]]=HF at*;simp[Mc.cp,aC,Ks.cp,P,U,T,gZ,k1,k2,k3,k4,k5,eO,bK,a2,lf,dM,Rs.cp,dS,eZ,fK,-aB,-bB,-fQ]
  ·cases k
 ·cases k
theorem yt7{G:Gam}(O:G Fn.an=some (.gen oS))(P:G Fn.aq=some (.gen rI)):GW G Mc.cq Rs.cq Ks.cq CY:=by
 intro Y H x W i;unfold CY at i;split at i
 ·rename_i t n;split at i
  ·rename_i l c Q;obtain⟨k,C,B⟩:=qQ Q;obtain⟨tg,r,j,D,rfl,rfl⟩:=OR i;have m:l<H.length:=(aV.1 j).1;obtain⟨z,E⟩:∃z:Blk,z=.cells [.str [],.str [],.n 0]:=⟨_,rfl⟩;have I:∀F,opV G F H (.alloc [.str [],.str [],.n 0]) (some [])=some (.ptr H.length 0,KH H l tg z r):=fun F=>by rw[eG rfl,<-NG j,E];rfl
   have N:∀r',aB 1 false (KH H l tg z r') (.ptr t 0)=some (.fn Fn.aq [.ptr c 0]):=fun r'=>by simp[aB,nU (r:=r') C (iR j C),cut,aE]
   have y:∀r',r'.rest.length<=1000000->eD G Fn.aq [.ptr c 0] (KH H l tg z r')=some (.str (bG 65536 r').1,KH H l tg z (bG 65536 r').2):=fun r' u=>by rw[IV P (nU k (iR j k)) (zW m) u,zX]
   have M:∀r',aB 1 false (KH H l tg z r') (.ptr n 0)=some (.fn Fn.an [.ptr c 0]):=fun r'=>by simp[aB,nU (r:=r') B (iR j B),cut,aE]
   have K:∀r',r'.rest.length<=1000000->eD G Fn.an [.ptr c 0] (KH H l tg z r')=some (.n (rdNum 0 65536 r').1,KH H l tg z (rdNum 0 65536 r').2):=fun r' u=>by rw[IU O (nU k (iR j k)) (zW m) u,zX]
   obtain⟨d,o,p⟩:∃a q,bG 65536 r=(a,q):=⟨_,_,rfl⟩;have w:o.rest.length<=1000000:=by have:=BR (most:=65536) (e:=r.err) D;rw[p]at this;exact this
   obtain⟨e,v,s⟩:∃a q,bG 65536 o=(a,q):=⟨_,_,rfl⟩;have J:v.rest.length<=1000000:=by have:=BR (most:=65536) (e:=o.err) w;rw[s]at this;exact this
   obtain⟨f,g,A⟩:∃a q,rdNum 0 65536 v=(a,q):=⟨_,_,rfl⟩;have L:fD r=(⟨d,e,f⟩,g):=by simp only[fD,p,s,A]
   have k1:=y r D;rw[p]at k1;have k2:=y o w;rw[s]at k2;have k3:=K v J;rw[A]at k3;rw[L];have T:(KH H l tg z g)[H.length]?=some (.cells [.str [],.str [],.n 0]):=by rw[NH m,E]
   have V:aU 3 (KH H l tg z g) (.ptr H.length 0) (.agg [.str d,.str e,.n f])=some (H.set l (bR tg g)++[.cells [.str d,.str e,.n f]]):=by simp[aU,T,bK,NF m]
   have U:aB 3 true (H.set l (bR tg g)++[.cells [.str d,.str e,.n f]]) (.ptr H.length 0)=some (.agg [.str d,.str e,.n f]):=by
    have S:(H.set l (bR tg g)++[Blk.cells [.str d,.str e,.n f]])[H.length]?=some (.cells [.str d,.str e,.n f]):=by rw[fT (by simp)];simp
    simp[aB,cut,aE]
   rw[aM];simp only[Imp.row];generalize H.set l (bR tg g)++[Blk.cells [.str d,.str e,.n f]]=X at*;simp[Mc.cq,aC,Ks.cq,I,N,M,gZ,k1,k2,k3,eO,bK,V,U,dM,Rs.cq,dS,eZ,fK,-aB,-bB,-fQ]
  ·cases i
 ·cases i
theorem yt8{G:Gam}(K:G Fn.an=some (.gen oS))(L:G Fn.aq=some (.gen rI)):GW G Mc.cr Rs.cr Ks.cr CZ:=by
 intro U H x S g;unfold CZ at g;split at g
 ·rename_i t n;split at g
  ·rename_i l c M;obtain⟨j,v,u⟩:=qQ M;obtain⟨tg,r,i,w,rfl,rfl⟩:=OR g;have k:l<H.length:=(aV.1 i).1;obtain⟨z,y⟩:∃z:Blk,z=.cells [.str [],.n 0]:=⟨_,rfl⟩;have B:∀A,opV G A H (.alloc [.str [],.n 0]) (some [])=some (.ptr H.length 0,KH H l tg z r):=fun A=>by rw[eG rfl,<-NG i,y];rfl
   have J:∀r',aB 1 false (KH H l tg z r') (.ptr t 0)=some (.fn Fn.aq [.ptr c 0]):=fun r'=>by simp[aB,nU (r:=r') v (iR i v),cut,aE]
   have E:∀r',r'.rest.length<=1000000->eD G Fn.aq [.ptr c 0] (KH H l tg z r')=some (.str (bG 65536 r').1,KH H l tg z (bG 65536 r').2):=fun r' o=>by rw[IV L (nU j (iR i j)) (zW k) o,zX]
   have I:∀r',aB 1 false (KH H l tg z r') (.ptr n 0)=some (.fn Fn.an [.ptr c 0]):=fun r'=>by simp[aB,nU (r:=r') u (iR i u),cut,aE]
   have D:∀r',r'.rest.length<=1000000->eD G Fn.an [.ptr c 0] (KH H l tg z r')=some (.n (rdNum 0 65536 r').1,KH H l tg z (rdNum 0 65536 r').2):=fun r' o=>by rw[IU K (nU j (iR i j)) (zW k) o,zX]
   obtain⟨d,p,m⟩:∃a q,bG 65536 r=(a,q):=⟨_,_,rfl⟩;have C:p.rest.length<=1000000:=by have:=BR (most:=65536) (e:=r.err) w;rw[m]at this;exact this
   obtain⟨e,f,s⟩:∃a q,rdNum 0 65536 p=(a,q):=⟨_,_,rfl⟩;have F:fH r=(⟨d,e⟩,f):=by simp only[fH,m,s]
   have k1:=E r w;rw[m]at k1;have k2:=D p C;rw[s]at k2;rw[F];have O:(KH H l tg z f)[H.length]?=some (.cells [.str [],.n 0]):=by rw[NH k,y]
   have Q:aU 2 (KH H l tg z f) (.ptr H.length 0) (.agg [.str d,.n e])=some (H.set l (bR tg f)++[.cells [.str d,.n e]]):=by simp[aU,O,bK,NF k]
   have P:aB 2 true (H.set l (bR tg f)++[.cells [.str d,.n e]]) (.ptr H.length 0)=some (.agg [.str d,.n e]):=by
    have N:(H.set l (bR tg f)++[Blk.cells [.str d,.n e]])[H.length]?=some (.cells [.str d,.n e]):=by rw[fT (by simp)];simp
    simp[aB,cut,aE]
   rw[aM];simp only[Expo.row];generalize H.set l (bR tg f)++[Blk.cells [.str d,.n e]]=T at*;simp[Mc.cr,aC,Ks.cr,B,J,I,gZ,k1,k2,eO,bK,Q,P,dM,Rs.cr,dS,eZ,fK,-aB,-bB,-fQ]
  ·cases g
 ·cases g
theorem yt9{G:Gam}(_:G Fn.an=some (.gen oS))(D:G Fn.aq=some (.gen rI)):GW G Mc.cs Rs.cs Ks.cs DA:=by
 intro O H x M g;unfold DA at g;split at g
 ·rename_i t;split at g
  ·rename_i l c F;obtain⟨p,s⟩:=PM F;obtain⟨tg,r,i,u,rfl,rfl⟩:=OR g;have k:l<H.length:=(aV.1 i).1;obtain⟨z,v⟩:∃z:Blk,z=.cells [.str [],.str []]:=⟨_,rfl⟩;have y:∀w,opV G w H (.alloc [.str [],.str []]) (some [])=some (.ptr H.length 0,KH H l tg z r):=fun w=>by rw[eG rfl,<-NG i,v];rfl
   have C:∀r',aB 1 false (KH H l tg z r') (.ptr t 0)=some (.fn Fn.aq [.ptr c 0]):=fun r'=>by simp[aB,nU (r:=r') s (iR i s),cut,aE]
   have n:∀r',r'.rest.length<=1000000->eD G Fn.aq [.ptr c 0] (KH H l tg z r')=some (.str (bG 65536 r').1,KH H l tg z (bG 65536 r').2):=fun r' E=>by rw[IV D (nU p (iR i p)) (zW k) E,zX]
   obtain⟨d,m,j⟩:∃a q,bG 65536 r=(a,q):=⟨_,_,rfl⟩;have A:m.rest.length<=1000000:=by have:=BR (most:=65536) (e:=r.err) u;rw[j]at this;exact this
   obtain⟨e,f,o⟩:∃a q,bG 65536 m=(a,q):=⟨_,_,rfl⟩;have B:fJ r=((d,e),f):=by simp only[fJ,j,o]
   have k1:=n r u;rw[j]at k1;have k2:=n m A;rw[o]at k2;rw[B];have J:(KH H l tg z f)[H.length]?=some (.cells [.str [],.str []]):=by rw[NH k,v]
   have L:aU 2 (KH H l tg z f) (.ptr H.length 0) (.agg [.str d,.str e])=some (H.set l (bR tg f)++[.cells [.str d,.str e]]):=by simp[aU,J,bK,NF k]
   have K:aB 2 true (H.set l (bR tg f)++[.cells [.str d,.str e]]) (.ptr H.length 0)=some (.agg [.str d,.str e]):=by
    have I:(H.set l (bR tg f)++[Blk.cells [.str d,.str e]])[H.length]?=some (.cells [.str d,.str e]):=by rw[fT (by simp)];simp
    simp[aB,cut,aE]
   rw[aM];simp only[dI];generalize H.set l (bR tg f)++[Blk.cells [.str d,.str e]]=N at*;simp[Mc.cs,aC,Ks.cs,y,C,gZ,k1,k2,eO,bK,L,K,dM,Rs.cs,dS,eZ,fK,-aB,-bB,-fQ]
  ·cases g
 ·cases g
def lJ:List AV->aA->Option AV
 |[.ptr l 0],h=>match(h[l]?:Option Blk)with
  |some (.cellsT _ [.str _,.n a])=>some (.n a)|_=>none
 |_,_=>none
theorem xg8{G:Gam}:LW G Mc.a3 Rs.a3 Ks.a3 lJ:=by
 intro g h r a;unfold lJ at a;split at a
 ·rename_i l;split at a
  ·rename_i tg s d e;injection a with a;subst a;have f:aB 1 false h (.ptr l 1)=some (.n d):=by simp[aB,e,cut,aE]
   rw[aM];simp[Mc.a3,aC,Ks.a3,f,fP,Rs.a3,owns,eS,-aB]
  ·cases a
 ·cases a
def GH(h:aA)(l:Nat)(tg:Option TypeId)(r:Rd)(sz:Nat)(rows:List (List AV))(x:aA):aA:=h.set l (bR tg r)++(.arr sz 0 [] true::.arr sz rows.length rows true::x)
section
variable{h x:aA}{l sz:Nat}{tg:Option TypeId}{r r':Rd}{rows rows':List (List AV)}{b c:Blk}
theorem zV:(GH h l tg r sz rows x).length=h.length+2+x.length:=by simp[GH];omega
theorem nC(a:l<h.length):(GH h l tg r sz rows x)[l]?=some (bR tg r):=by unfold GH;rw[gC (by simpa using a)];simp[a]
theorem tE(a:l<h.length):(GH h l tg r sz rows x).set l (bR tg r')=GH h l tg r' sz rows x:=by unfold GH;rw[List.set_append_left _ _ (by simpa using a)];simp
theorem HG:(GH h l tg r sz rows x)[h.length+1]?=some (.arr sz rows.length rows true):=by unfold GH;rw[fT (by simp)];simp
theorem HE:(GH h l tg r sz rows x).set (h.length+1) (.arr sz rows'.length rows' true)=GH h l tg r sz rows' x:=by unfold GH;rw[lZ _ _ (by simp)];simp
theorem ND:GH h l tg r sz rows x++[b]=GH h l tg r sz rows (x++[b]):=by simp[GH]
theorem qG{j:Nat}(a:h[j]?=some b)(e:l≠j):(GH h l tg r sz rows x)[j]?=some b:=by
 have d:=(aV.1 a).1;unfold GH;rw[gC (by simpa using d),lL e,a]
theorem kO{a:List (Nat×AV)}(f:cV h.length h=true)(d:bW (h.length+2) a=true):trunc (h.length+2) a (GH h l tg r sz rows x)=GH h l tg r sz rows []:=by
 have e:GH h l tg r sz rows x=GH h l tg r sz rows []++x:=by simp[GH]
 rw[e];refine sP (by simp[GH]) d ?_;unfold GH;exact WC (zz9 (WE (by omega) f) rfl) rfl
theorem tD{a:List RV}{e:Nat->Option AV}{n:Nat}(d:cV h.length h=true)(f:dS e (GH h l tg r sz rows []) a=some (.own (h.length+1) n n)):NI h.length a e (GH h l tg r sz rows []) (.own (h.length+1) n n) (GH h l tg r sz rows []):=by
 refine⟨f,by rw[zV];omega,yV4,by simp[low,zV],?_⟩;unfold GH;exact WC (zz9 (WE (by simp) d) rfl) rfl
theorem HH(a:h[l]?=some (bR tg r)):h++[.arr sz 0 [] true,.arr sz 0 [] true]=GH h l tg r sz [] []:=by
 unfold GH;have:h.set l (bR tg r)=h:=uI (by simpa[bR]using a);rw[this];rfl
end
def uU{α:Type}(one:Rd->α×Rd)(d:α->List AV)(sz l:Nat)(h:aA):Option (AV×aA):=match(h[l]?:Option Blk)with
 |some (.cellsT tg [.str s,.n a])=>if s.length<=1000000 then some (.own (h.length+1) (bH one ⟨s,a⟩).1.length (bH one ⟨s,a⟩).1.length,GH h l tg (bH one ⟨s,a⟩).2 sz ((bH one ⟨s,a⟩).1.map d) [])else none|_=>none
theorem KD{α:Type}{one:Rd->α×Rd}{e:α->List AV}{sz l:Nat}{h:aA}{x:AV}{d:aA}(a:uU one e sz l h=some (x,d)):∃tg r,h[l]?=some (bR tg r)/\r.rest.length<=1000000/\x=.own (h.length+1) (bH one r).1.length (bH one r).1.length/\d=GH h l tg (bH one r).2 sz ((bH one r).1.map e) []:=by
 unfold uU at a;split at a
 ·rename_i tg s f g;split at a
  ·rename_i i;simp only[aT,dF]at a;obtain⟨rfl,rfl⟩:=a;exact⟨tg,⟨s,f⟩,g,i,rfl,rfl⟩
  ·cases a
 ·cases a
theorem KE{α:Type}{one:Rd->α×Rd}{a:α->List AV}{sz l:Nat}{h:aA}{tg:Option TypeId}{r:Rd}(d:h[l]?=some (bR tg r))(e:r.rest.length<=1000000):uU one a sz l h=some (.own (h.length+1) (bH one r).1.length (bH one r).1.length,GH h l tg (bH one r).2 sz ((bH one r).1.map a) []):=by
 simp only[uU,d,bR];rw[if_pos e]
theorem wD{lo hi:Int}(a:0<=hi)(d:lo<=0){r:Rd}:lo<=(rdNum lo hi r).1/\(rdNum lo hi r).1<=hi:=by
 unfold rdNum;split;·simp;omega
 ·split
  ·split;·simp;omega
   ·rename_i h;simp only[not_or,Int.not_lt]at h;simp;omega
  ·simp;omega
  ·simp;omega
def qI{α:Type}(one:Rd->α×Rd):Prop:=∀r:Rd,r.rest.length<=1000000->(one r).2.rest.length<=1000000
theorem gA(d a:Int):qI (rdNum d a):=fun r h=>XU (e:=r.err) h
theorem kV(m:Int):qI (bG m):=fun r h=>BR (e:=r.err) h
theorem FL(a:Int):qI (eK a):=fun _ h=>gA _ _ _ (gA _ _ _ (gA _ _ _ (kV _ _ (kV _ _ h))))
theorem LG:qI fD:=fun _ h=>gA _ _ _ (kV _ _ (kV _ _ h))
theorem LE:qI fH:=fun _ h=>gA _ _ _ (kV _ _ h)
theorem YP:qI fJ:=fun _ h=>kV _ _ (kV _ _ h)
theorem LF:qI fI:=gA _ _
theorem BY{α:Type}{one:Rd->α×Rd}(h:qI one):∀n,qI (aS one n)
 |0,r,a=>a|n+1,r,a=>by
  rw[aS];split;·exact a
  ·exact BY h n _ (h r a)
theorem yV{α:Type}{one:Rd->α×Rd}(h:qI one):qI (bH one):=fun _ a=>BY h _ _ (gA _ _ _ a)
theorem zB3{α:Type}{one:Rd->α×Rd}:∀(n:Nat)(r:Rd),(aS one n r).1.length<=n
 |0,_=>dA _|n+1,r=>by
  rw[aS];split;·simp
  ·have:=zB3 (one:=one) n (one r).2;simp;omega
def zK:List AV->aA->Option (AV×aA)
 |[.ptr l 0,.fn f [.ptr t 0,.ptr n 0]],h=>if f=Fn.cp then(match tY h t n with
  |some (a,_)=>if a=l then uU (eK 65536) Plc.row 5 l h else none|none=>none)else none|_,_=>none
theorem zA7{G:Gam}(A:G Fn.a3=some (.gen (cJ lJ)))(y:G Fn.cp=some (.gen CX)){h:aA}{l c t n:Nat}{tg:Option TypeId}(i:l<h.length)(f:cV h.length h=true)(e:Env h l c t n){Q:Rd}(j:h[l]?=some (bR tg Q)):∀(k:Nat)(r:Rd)(a:List Plc),a.length+k<=65536->r.rest.length<=1000000->cY G [] Mc.bo_L0 (h.length+2) [.blk 0,.seq (.seq (.reg [zm 23 5,zM 4 23]) .ret)] (jW h.length Rs.bo (.own (h.length+1) (a++(aS (eK 65536) k r).1).length (a++(aS (eK 65536) k r).1).length) (GH h l tg (aS (eK 65536) k r).2 5 ((a++(aS (eK 65536) k r).1).map Plc.row) [])) [(0,.ptr l 0),(1,.fn Fn.cp [.ptr t 0,.ptr n 0]),(4,.own h.length 0 0),(5,.own (h.length+1) a.length a.length),(6,.n k)] (GH h l tg r 5 (a.map Plc.row) [])
 |0,r,a,N,s=>by
  have q:ltB 0 0=false:=rfl;simp only[aS,dY];refine aJ (Mc.bo_L0.eq_1) ?_;rw[kO f (by have D:=(aV.1 e.et).1;have C:=(aV.1 e.en).1;simp[bM,bW,low,bN];omega)];simp[jW];exact tD f (by simp[dS,eZ,fK,Rs.bo,bV,lkp])|k+1,r,a,N,s=>by
  have q:ltB 0 ((k:Int)+1)=true:=aO.2 (by omega);have S:IntKind.i64.wrap (k:Int)=(k:Int):=i64_in _ ⟨by omega,by omega⟩;have u:opV G false (GH h l tg r 5 (a.map Plc.row) []) (.call Fn.a3) (some [.ptr l 0])=some (.n r.err,GH h l tg r 5 (a.map Plc.row) []):=by
   rw[eX A];simp only[cJ,lJ,nC i,bR];rfl
  have M:(a.map Plc.row).length=a.length:=by simp
  refine aJ (Mc.bo_L0.eq_1) ?_;rw[kO f (by have D:=(aV.1 e.et).1;have C:=(aV.1 e.en).1;simp[bM,bW,low,bN];omega)];by_cases g:r.err=0
  ·obtain⟨v,d,m⟩:∃v d,(eK 65536) r=(v,d):=⟨_,_,rfl⟩;have O:d.rest.length<=1000000:=by have:=FL 65536 r s;rw[m]at this;exact this
   have I:eD G Fn.cp [.ptr t 0,.ptr n 0] (GH h l tg r 5 (a.map Plc.row) [])=some (.agg (Plc.row v),GH h l tg d 5 (a.map Plc.row) [.cells (Plc.row v)]):=by
    rw[lB y];have L:=Env.of (H:=GH h l tg r 5 (a.map Plc.row) []) ⟨qG e.ec (iR j e.ec),qG e.et (iR j e.et),qG e.en (iR j e.en)⟩;simp only[CX];rw[L];simp only;rw[OS (nC i) s,m,tE i,ND];rfl
   have F:opV G false (GH h l tg d 5 (a.map Plc.row) [.cells (Plc.row v)]) (.app false 5 56) (some [.own (h.length+1) a.length a.length,.tsl [Plc.row v]])=some (.own (h.length+1) (a++[v]).length (a++[v]).length,GH h l tg d 5 ((a++[v]).map Plc.row) [.cells (Plc.row v)]):=by
    have:=vY (G:=G) (s:=false) (h:=(GH h l tg d 5 (a.map Plc.row) [.cells (Plc.row v)])) (e:=Plc.row) (n:=5) (b:=56) (l:=h.length+1) (os:=a) (x:=v) (by rw[<-M];exact HG) rfl (by omega) (by unfold big;omega);rw[this];have w:(a++[v]).length=((a++[v]).map Plc.row).length:=by simp
    rw[w,HE,<-w]
   have P:=zA7 A y i f e j k d (a++[v]) (by simp;omega) O;have o:aS (eK 65536) (k+1) r=(v::(aS (eK 65536) k d).1,(aS (eK 65536) k d).2):=by rw[aS,if_neg (by simpa using g),m]
   have J:a++v::(aS (eK 65536) k d).1=a++[v]++(aS (eK 65536) k d).1:=by simp
   rw[o];simp only;rw[J];have p:eqB r.err 0=true:=gW.2 g;generalize aS (eK 65536) k d=T at*;generalize B:GH h l tg r 5 (a.map Plc.row) []=E at*;have K:opV G false (GH h l tg d 5 (a.map Plc.row) [.cells (Plc.row v)]) (.bsl false 5) (some [.agg (Plc.row v)])=some (.tsl [Plc.row v],GH h l tg d 5 (a.map Plc.row) [.cells (Plc.row v)]):=by simp[dX,owns,bU,view,dB,fW,bE,AV.cells,Plc.row]
   simp[q,u,p,gZ,I,K,F,S,-List.length_append,-List.map_append,-kI];refine cZ ?_;rw[kO f (by have D:=(aV.1 e.et).1;have C:=(aV.1 e.en).1;simp[bM,bW,low,bN];omega)];simpa using P
  ·have p:eqB r.err 0=false:=eU.2 g;have o:aS (eK 65536) (k+1) r=([],r):=by rw[aS,if_pos g]
   rw[o];simp only[dY];generalize B:GH h l tg r 5 (a.map Plc.row) []=E at*;simp[q,u,p,jW];rw[<-B];exact tD f (by simp[dS,eZ,fK,Rs.bo,bV,lkp])
theorem yX1{G:Gam}(D:G Fn.ai=some (.gen gP))(C:G Fn.a3=some (.gen (cJ lJ)))(B:G Fn.cp=some (.gen CX)):∀g h r j,bN h.length g=true->cV h.length h=true->zK g h=some (r,j)->wpM G Mc.bo (jW h.length Rs.bo r j) [] (aC Ks.bo g) h:=by
 intro g h x j L u a;unfold zK at a;split at a
 ·rename_i l f t n;split at a
  ·rename_i E;subst E;split at a
   ·rename_i e K o;split at a
    ·rename_i I;subst I;obtain⟨tg,r,q,v,rfl,rfl⟩:=KD a;have p:e<h.length:=(aV.1 q).1;have s:=wD (lo:=0) (hi:=65536) (by omega) (by omega) (r:=r);obtain⟨m,d,i⟩:∃m d,rdNum 0 65536 r=(m,d):=⟨_,_,rfl⟩;have J:d.rest.length<=1000000:=by have:=gA 0 65536 r v;rw[i]at this;exact this
     rw[i]at s;obtain⟨k,rfl⟩:∃k:Nat,m=k:=⟨m.toNat,by simp at s;omega⟩;have A:bH (eK 65536) r=aS (eK 65536) k d:=by unfold bH;rw[i];simp
     rw[A];have y:opV G false (h++[.arr 5 0 [] true,.arr 5 0 [] true]) (.call Fn.ai) (some [.ptr e 0,.n 0,.n 65536])=some (.n k,GH h e tg d 5 [] []):=by
      rw[eX D,HH q];simp only[gP,nC p,bR];rw[if_pos v,i];have:=tE (h:=h) (x:=[]) (l:=e) (sz:=5) (tg:=tg) (r:=r) (r':=d) (rows:=[]) p;rw[<-this];simp[bR]
     have w:=zA7 C B p u (qQ o) q k d [] (by simp at s⊢;omega) J;simp only[kZ,rM,gQ]at w;rw[aM];have F:(GH h e tg d 5 [] []).length=h.length+2:=by rw[zV];rfl
     generalize aS (eK 65536) k d=M at*;simp[Mc.bo,aC,Ks.bo,y];refine cZ ?_;rw[F,kO u (by have O:=(aV.1 (qQ o).et).1;have N:=(aV.1 (qQ o).en).1;simp[bM,bW,low,bN];omega)];simpa using w
    ·cases a
   ·cases a
  ·cases a
 ·cases a
def zJ:List AV->aA->Option (AV×aA)
 |[.ptr l 0,.fn f [.ptr c 0]],h=>if f=Fn.an then(match(h[c]?:Option Blk)with
  |some (.cellsT none [.ptr a 0])=>if a=l then uU fI eC 1 l h else none|_=>none)else none|_,_=>none
theorem zA6{G:Gam}(w:G Fn.a3=some (.gen (cJ lJ)))(u:G Fn.an=some (.gen oS)){h:aA}{l c:Nat}{tg:Option TypeId}(i:l<h.length)(f:cV h.length h=true)(e:h[c]?=some (.cells [.ptr l 0])){M:Rd}(A:h[l]?=some (bR tg M)):∀(k:Nat)(r:Rd)(a:List Int),a.length+k<=65536->r.rest.length<=1000000->cY G [] Mc.bs_L0 (h.length+2) [.blk 0,.seq (.seq (.reg [zm 23 5,zM 4 23]) .ret)] (jW h.length Rs.bs (.own (h.length+1) (a++(aS fI k r).1).length (a++(aS fI k r).1).length) (GH h l tg (aS fI k r).2 1 ((a++(aS fI k r).1).map eC) [])) [(0,.ptr l 0),(1,.fn Fn.an [.ptr c 0]),(4,.own h.length 0 0),(5,.own (h.length+1) a.length a.length),(6,.n k)] (GH h l tg r 1 (a.map eC) [])
 |0,r,a,J,o=>by
  have q:ltB 0 0=false:=rfl;simp only[aS,dY];refine aJ (Mc.bs_L0.eq_1) ?_;rw[kO f (by have p:=(aV.1 e).1;simp[bM,bW,low,bN];omega)];simp[jW];exact tD f (by simp[dS,eZ,fK,Rs.bs,bV,lkp])|k+1,r,a,J,o=>by
  have q:ltB 0 ((k:Int)+1)=true:=aO.2 (by omega);have N:IntKind.i64.wrap (k:Int)=(k:Int):=i64_in _ ⟨by omega,by omega⟩;have s:opV G false (GH h l tg r 1 (a.map eC) []) (.call Fn.a3) (some [.ptr l 0])=some (.n r.err,GH h l tg r 1 (a.map eC) []):=by
   rw[eX w];simp only[cJ,lJ,nC i,bR];rfl
  have I:(a.map eC).length=a.length:=by simp
  refine aJ (Mc.bs_L0.eq_1) ?_;rw[kO f (by have p:=(aV.1 e).1;simp[bM,bW,low,bN];omega)];by_cases g:r.err=0
  ·obtain⟨v,d,j⟩:∃v d,fI r=(v,d):=⟨_,_,rfl⟩;have K:d.rest.length<=1000000:=by have:=LF r o;rw[j]at this;exact this
   have D:eD G Fn.an [.ptr c 0] (GH h l tg r 1 (a.map eC) [])=some (.n v,GH h l tg d 1 (a.map eC) []):=by rw[IU u (qG e (iR A e)) (nC i) o,tE i];rw[show rdNum 0 65536 r=(v,d)from j]
   have C:opV G false (GH h l tg d 1 (a.map eC) []) (.app false 1 8) (some [.own (h.length+1) a.length a.length,.tsl [eC v]])=some (.own (h.length+1) (a++[v]).length (a++[v]).length,GH h l tg d 1 ((a++[v]).map eC) []):=by
    have:=vY (G:=G) (s:=false) (h:=(GH h l tg d 1 (a.map eC) [])) (e:=eC) (n:=1) (b:=8) (l:=h.length+1) (os:=a) (x:=v) (by rw[<-I];exact HG) rfl (by omega) (by unfold big;omega);rw[this];have t:(a++[v]).length=((a++[v]).map eC).length:=by simp
    rw[t,HE,<-t]
   have L:=zA6 w u i f e A k d (a++[v]) (by simp;omega) K;have m:aS fI (k+1) r=(v::(aS fI k d).1,(aS fI k d).2):=by rw[aS,if_neg (by simpa using g),j]
   have E:a++v::(aS fI k d).1=a++[v]++(aS fI k d).1:=by simp
   rw[m];simp only;rw[E];have n:eqB r.err 0=true:=gW.2 g;generalize aS fI k d=O at*;generalize y:GH h l tg r 1 (a.map eC) []=B at*;have F:opV G false (GH h l tg d 1 (a.map eC) []) (.bsl false 1) (some [.n v])=some (.tsl [eC v],GH h l tg d 1 (a.map eC) []):=by simp[dX,owns,bU,view,dB,fW,bE,AV.cells,eC]
   simp[q,s,n,gZ,D,F,C,N,-List.length_append,-List.map_append,-kI];refine cZ ?_;rw[kO f (by have p:=(aV.1 e).1;simp[bM,bW,low,bN];omega)];simpa using L
  ·have n:eqB r.err 0=false:=eU.2 g;have m:aS fI (k+1) r=([],r):=by rw[aS,if_pos g]
   rw[m];simp only[dY];generalize y:GH h l tg r 1 (a.map eC) []=B at*;simp[q,s,n,jW];rw[<-y];exact tD f (by simp[dS,eZ,fK,Rs.bs,bV,lkp])
theorem yX0{G:Gam}(B:G Fn.ai=some (.gen gP))(A:G Fn.a3=some (.gen (cJ lJ)))(y:G Fn.an=some (.gen oS)):∀g h r j,bN h.length g=true->cV h.length h=true->zJ g h=some (r,j)->wpM G Mc.bs (jW h.length Rs.bs r j) [] (aC Ks.bs g) h:=by
 intro g h x j J s a;unfold zJ at a;split at a
 ·rename_i l f c;split at a
  ·rename_i C;subst C;split at a
   ·rename_i e q;split at a
    ·rename_i E;subst E;obtain⟨tg,r,o,t,rfl,rfl⟩:=KD a;have n:e<h.length:=(aV.1 o).1;have p:=wD (lo:=0) (hi:=65536) (by omega) (by omega) (r:=r);obtain⟨m,d,i⟩:∃m d,rdNum 0 65536 r=(m,d):=⟨_,_,rfl⟩;have F:d.rest.length<=1000000:=by have:=gA 0 65536 r t;rw[i]at this;exact this
     rw[i]at p;obtain⟨k,rfl⟩:∃k:Nat,m=k:=⟨m.toNat,by simp at p;omega⟩;have w:bH fI r=aS fI k d:=by unfold bH;rw[i];simp
     rw[w];have v:opV G false (h++[.arr 1 0 [] true,.arr 1 0 [] true]) (.call Fn.ai) (some [.ptr e 0,.n 0,.n 65536])=some (.n k,GH h e tg d 1 [] []):=by
      rw[eX B,HH o];simp only[gP,nC n,bR];rw[if_pos t,i];have:=tE (h:=h) (x:=[]) (l:=e) (sz:=1) (tg:=tg) (r:=r) (r':=d) (rows:=[]) n;rw[<-this];simp[bR]
     have u:=zA6 A y n s q o k d [] (by simp at p⊢;omega) F;simp only[kZ,rM,gQ]at u;rw[aM];have D:(GH h e tg d 1 [] []).length=h.length+2:=by rw[zV];rfl
     generalize aS fI k d=K at*;simp[Mc.bs,aC,Ks.bs,v];refine cZ ?_;rw[D,kO s (by have I:=(aV.1 q).1;simp[bM,bW,low,bN];omega)];simpa using u
    ·cases a
   ·cases a
  ·cases a
 ·cases a
def zN:List AV->aA->Option (AV×aA)
 |[.ptr l 0,.fn f [.ptr t 0,.ptr n 0]],h=>if f=Fn.cq then(match tY h t n with
  |some (a,_)=>if a=l then uU fD Imp.row 3 l h else none|none=>none)else none|_,_=>none
theorem zA8{G:Gam}(A:G Fn.a3=some (.gen (cJ lJ)))(y:G Fn.cq=some (.gen CY)){h:aA}{l c t n:Nat}{tg:Option TypeId}(i:l<h.length)(f:cV h.length h=true)(e:Env h l c t n){Q:Rd}(j:h[l]?=some (bR tg Q)):∀(k:Nat)(r:Rd)(a:List Imp),a.length+k<=65536->r.rest.length<=1000000->cY G [] Mc.bp_L0 (h.length+2) [.blk 0,.seq (.seq (.reg [zm 23 5,zM 4 23]) .ret)] (jW h.length Rs.bp (.own (h.length+1) (a++(aS fD k r).1).length (a++(aS fD k r).1).length) (GH h l tg (aS fD k r).2 3 ((a++(aS fD k r).1).map Imp.row) [])) [(0,.ptr l 0),(1,.fn Fn.cq [.ptr t 0,.ptr n 0]),(4,.own h.length 0 0),(5,.own (h.length+1) a.length a.length),(6,.n k)] (GH h l tg r 3 (a.map Imp.row) [])
 |0,r,a,N,s=>by
  have q:ltB 0 0=false:=rfl;simp only[aS,dY];refine aJ (Mc.bp_L0.eq_1) ?_;rw[kO f (by have D:=(aV.1 e.et).1;have C:=(aV.1 e.en).1;simp[bM,bW,low,bN];omega)];simp[jW];exact tD f (by simp[dS,eZ,fK,Rs.bp,bV,lkp])|k+1,r,a,N,s=>by
  have q:ltB 0 ((k:Int)+1)=true:=aO.2 (by omega);have S:IntKind.i64.wrap (k:Int)=(k:Int):=i64_in _ ⟨by omega,by omega⟩;have u:opV G false (GH h l tg r 3 (a.map Imp.row) []) (.call Fn.a3) (some [.ptr l 0])=some (.n r.err,GH h l tg r 3 (a.map Imp.row) []):=by
   rw[eX A];simp only[cJ,lJ,nC i,bR];rfl
  have M:(a.map Imp.row).length=a.length:=by simp
  refine aJ (Mc.bp_L0.eq_1) ?_;rw[kO f (by have D:=(aV.1 e.et).1;have C:=(aV.1 e.en).1;simp[bM,bW,low,bN];omega)];by_cases g:r.err=0
  ·obtain⟨v,d,m⟩:∃v d,fD r=(v,d):=⟨_,_,rfl⟩;have O:d.rest.length<=1000000:=by have:=LG r s;rw[m]at this;exact this
   have I:eD G Fn.cq [.ptr t 0,.ptr n 0] (GH h l tg r 3 (a.map Imp.row) [])=some (.agg (Imp.row v),GH h l tg d 3 (a.map Imp.row) [.cells (Imp.row v)]):=by
    rw[lB y];have L:=Env.of (H:=GH h l tg r 3 (a.map Imp.row) []) ⟨qG e.ec (iR j e.ec),qG e.et (iR j e.et),qG e.en (iR j e.en)⟩;simp only[CY];rw[L];simp only;rw[OS (nC i) s,m,tE i,ND];rfl
   have F:opV G false (GH h l tg d 3 (a.map Imp.row) [.cells (Imp.row v)]) (.app false 3 40) (some [.own (h.length+1) a.length a.length,.tsl [Imp.row v]])=some (.own (h.length+1) (a++[v]).length (a++[v]).length,GH h l tg d 3 ((a++[v]).map Imp.row) [.cells (Imp.row v)]):=by
    have:=vY (G:=G) (s:=false) (h:=(GH h l tg d 3 (a.map Imp.row) [.cells (Imp.row v)])) (e:=Imp.row) (n:=3) (b:=40) (l:=h.length+1) (os:=a) (x:=v) (by rw[<-M];exact HG) rfl (by omega) (by unfold big;omega);rw[this];have w:(a++[v]).length=((a++[v]).map Imp.row).length:=by simp
    rw[w,HE,<-w]
   have P:=zA8 A y i f e j k d (a++[v]) (by simp;omega) O;have o:aS fD (k+1) r=(v::(aS fD k d).1,(aS fD k d).2):=by rw[aS,if_neg (by simpa using g),m]
   have J:a++v::(aS fD k d).1=a++[v]++(aS fD k d).1:=by simp
   rw[o];simp only;rw[J];have p:eqB r.err 0=true:=gW.2 g;generalize aS fD k d=T at*;generalize B:GH h l tg r 3 (a.map Imp.row) []=E at*;have K:opV G false (GH h l tg d 3 (a.map Imp.row) [.cells (Imp.row v)]) (.bsl false 3) (some [.agg (Imp.row v)])=some (.tsl [Imp.row v],GH h l tg d 3 (a.map Imp.row) [.cells (Imp.row v)]):=by simp[dX,owns,bU,view,dB,fW,bE,AV.cells,Imp.row]
   simp[q,u,p,gZ,I,K,F,S,-List.length_append,-List.map_append,-kI];refine cZ ?_;rw[kO f (by have D:=(aV.1 e.et).1;have C:=(aV.1 e.en).1;simp[bM,bW,low,bN];omega)];simpa using P
  ·have p:eqB r.err 0=false:=eU.2 g;have o:aS fD (k+1) r=([],r):=by rw[aS,if_pos g]
   rw[o];simp only[dY];generalize B:GH h l tg r 3 (a.map Imp.row) []=E at*;simp[q,u,p,jW];rw[<-B];exact tD f (by simp[dS,eZ,fK,Rs.bp,bV,lkp])
theorem yX2{G:Gam}(D:G Fn.ai=some (.gen gP))(C:G Fn.a3=some (.gen (cJ lJ)))(B:G Fn.cq=some (.gen CY)):∀g h r j,bN h.length g=true->cV h.length h=true->zN g h=some (r,j)->wpM G Mc.bp (jW h.length Rs.bp r j) [] (aC Ks.bp g) h:=by
 intro g h x j L u a;unfold zN at a;split at a
 ·rename_i l f t n;split at a
  ·rename_i E;subst E;split at a
   ·rename_i e K o;split at a
    ·rename_i I;subst I;obtain⟨tg,r,q,v,rfl,rfl⟩:=KD a;have p:e<h.length:=(aV.1 q).1;have s:=wD (lo:=0) (hi:=65536) (by omega) (by omega) (r:=r);obtain⟨m,d,i⟩:∃m d,rdNum 0 65536 r=(m,d):=⟨_,_,rfl⟩;have J:d.rest.length<=1000000:=by have:=gA 0 65536 r v;rw[i]at this;exact this
     rw[i]at s;obtain⟨k,rfl⟩:∃k:Nat,m=k:=⟨m.toNat,by simp at s;omega⟩;have A:bH fD r=aS fD k d:=by unfold bH;rw[i];simp
     rw[A];have y:opV G false (h++[.arr 3 0 [] true,.arr 3 0 [] true]) (.call Fn.ai) (some [.ptr e 0,.n 0,.n 65536])=some (.n k,GH h e tg d 3 [] []):=by
      rw[eX D,HH q];simp only[gP,nC p,bR];rw[if_pos v,i];have:=tE (h:=h) (x:=[]) (l:=e) (sz:=3) (tg:=tg) (r:=r) (r':=d) (rows:=[]) p;rw[<-this];simp[bR]
     have w:=zA8 C B p u (qQ o) q k d [] (by simp at s⊢;omega) J;simp only[kZ,rM,gQ]at w;rw[aM];have F:(GH h e tg d 3 [] []).length=h.length+2:=by rw[zV];rfl
     generalize aS fD k d=M at*;simp[Mc.bp,aC,Ks.bp,y];refine cZ ?_;rw[F,kO u (by have O:=(aV.1 (qQ o).et).1;have N:=(aV.1 (qQ o).en).1;simp[bM,bW,low,bN];omega)];simpa using w
    ·cases a
   ·cases a
  ·cases a
 ·cases a
def zO:List AV->aA->Option (AV×aA)
 |[.ptr l 0,.fn f [.ptr t 0,.ptr n 0]],h=>if f=Fn.cr then(match tY h t n with
  |some (a,_)=>if a=l then uU fH Expo.row 2 l h else none|none=>none)else none|_,_=>none
theorem zA9{G:Gam}(A:G Fn.a3=some (.gen (cJ lJ)))(y:G Fn.cr=some (.gen CZ)){h:aA}{l c t n:Nat}{tg:Option TypeId}(i:l<h.length)(f:cV h.length h=true)(e:Env h l c t n){Q:Rd}(j:h[l]?=some (bR tg Q)):∀(k:Nat)(r:Rd)(a:List Expo),a.length+k<=65536->r.rest.length<=1000000->cY G [] Mc.bn_L0 (h.length+2) [.blk 0,.seq (.seq (.reg [zm 23 5,zM 4 23]) .ret)] (jW h.length Rs.bn (.own (h.length+1) (a++(aS fH k r).1).length (a++(aS fH k r).1).length) (GH h l tg (aS fH k r).2 2 ((a++(aS fH k r).1).map Expo.row) [])) [(0,.ptr l 0),(1,.fn Fn.cr [.ptr t 0,.ptr n 0]),(4,.own h.length 0 0),(5,.own (h.length+1) a.length a.length),(6,.n k)] (GH h l tg r 2 (a.map Expo.row) [])
 |0,r,a,N,s=>by
  have q:ltB 0 0=false:=rfl;simp only[aS,dY];refine aJ (Mc.bn_L0.eq_1) ?_;rw[kO f (by have D:=(aV.1 e.et).1;have C:=(aV.1 e.en).1;simp[bM,bW,low,bN];omega)];simp[jW];exact tD f (by simp[dS,eZ,fK,Rs.bn,bV,lkp])|k+1,r,a,N,s=>by
  have q:ltB 0 ((k:Int)+1)=true:=aO.2 (by omega);have S:IntKind.i64.wrap (k:Int)=(k:Int):=i64_in _ ⟨by omega,by omega⟩;have u:opV G false (GH h l tg r 2 (a.map Expo.row) []) (.call Fn.a3) (some [.ptr l 0])=some (.n r.err,GH h l tg r 2 (a.map Expo.row) []):=by
   rw[eX A];simp only[cJ,lJ,nC i,bR];rfl
  have M:(a.map Expo.row).length=a.length:=by simp
  refine aJ (Mc.bn_L0.eq_1) ?_;rw[kO f (by have D:=(aV.1 e.et).1;have C:=(aV.1 e.en).1;simp[bM,bW,low,bN];omega)];by_cases g:r.err=0
  ·obtain⟨v,d,m⟩:∃v d,fH r=(v,d):=⟨_,_,rfl⟩;have O:d.rest.length<=1000000:=by have:=LE r s;rw[m]at this;exact this
   have I:eD G Fn.cr [.ptr t 0,.ptr n 0] (GH h l tg r 2 (a.map Expo.row) [])=some (.agg (Expo.row v),GH h l tg d 2 (a.map Expo.row) [.cells (Expo.row v)]):=by
    rw[lB y];have L:=Env.of (H:=GH h l tg r 2 (a.map Expo.row) []) ⟨qG e.ec (iR j e.ec),qG e.et (iR j e.et),qG e.en (iR j e.en)⟩;simp only[CZ];rw[L];simp only;rw[OS (nC i) s,m,tE i,ND];rfl
   have F:opV G false (GH h l tg d 2 (a.map Expo.row) [.cells (Expo.row v)]) (.app false 2 24) (some [.own (h.length+1) a.length a.length,.tsl [Expo.row v]])=some (.own (h.length+1) (a++[v]).length (a++[v]).length,GH h l tg d 2 ((a++[v]).map Expo.row) [.cells (Expo.row v)]):=by
    have:=vY (G:=G) (s:=false) (h:=(GH h l tg d 2 (a.map Expo.row) [.cells (Expo.row v)])) (e:=Expo.row) (n:=2) (b:=24) (l:=h.length+1) (os:=a) (x:=v) (by rw[<-M];exact HG) rfl (by omega) (by unfold big;omega);rw[this];have w:(a++[v]).length=((a++[v]).map Expo.row).length:=by simp
    rw[w,HE,<-w]
   have P:=zA9 A y i f e j k d (a++[v]) (by simp;omega) O;have o:aS fH (k+1) r=(v::(aS fH k d).1,(aS fH k d).2):=by rw[aS,if_neg (by simpa using g),m]
   have J:a++v::(aS fH k d).1=a++[v]++(aS fH k d).1:=by simp
   rw[o];simp only;rw[J];have p:eqB r.err 0=true:=gW.2 g;generalize aS fH k d=T at*;generalize B:GH h l tg r 2 (a.map Expo.row) []=E at*;have K:opV G false (GH h l tg d 2 (a.map Expo.row) [.cells (Expo.row v)]) (.bsl false 2) (some [.agg (Expo.row v)])=some (.tsl [Expo.row v],GH h l tg d 2 (a.map Expo.row) [.cells (Expo.row v)]):=by simp[dX,owns,bU,view,dB,fW,bE,AV.cells,Expo.row]
   simp[q,u,p,gZ,I,K,F,S,-List.length_append,-List.map_append,-kI];refine cZ ?_;rw[kO f (by have D:=(aV.1 e.et).1;have C:=(aV.1 e.en).1;simp[bM,bW,low,bN];omega)];simpa using P
  ·have p:eqB r.err 0=false:=eU.2 g;have o:aS fH (k+1) r=([],r):=by rw[aS,if_pos g]
   rw[o];simp only[dY];generalize B:GH h l tg r 2 (a.map Expo.row) []=E at*;simp[q,u,p,jW];rw[<-B];exact tD f (by simp[dS,eZ,fK,Rs.bn,bV,lkp])
theorem yX3{G:Gam}(D:G Fn.ai=some (.gen gP))(C:G Fn.a3=some (.gen (cJ lJ)))(B:G Fn.cr=some (.gen CZ)):∀g h r j,bN h.length g=true->cV h.length h=true->zO g h=some (r,j)->wpM G Mc.bn (jW h.length Rs.bn r j) [] (aC Ks.bn g) h:=by
 intro g h x j L u a;unfold zO at a;split at a
 ·rename_i l f t n;split at a
  ·rename_i E;subst E;split at a
   ·rename_i e K o;split at a
    ·rename_i I;subst I;obtain⟨tg,r,q,v,rfl,rfl⟩:=KD a;have p:e<h.length:=(aV.1 q).1;have s:=wD (lo:=0) (hi:=65536) (by omega) (by omega) (r:=r);obtain⟨m,d,i⟩:∃m d,rdNum 0 65536 r=(m,d):=⟨_,_,rfl⟩;have J:d.rest.length<=1000000:=by have:=gA 0 65536 r v;rw[i]at this;exact this
     rw[i]at s;obtain⟨k,rfl⟩:∃k:Nat,m=k:=⟨m.toNat,by simp at s;omega⟩;have A:bH fH r=aS fH k d:=by unfold bH;rw[i];simp
     rw[A];have y:opV G false (h++[.arr 2 0 [] true,.arr 2 0 [] true]) (.call Fn.ai) (some [.ptr e 0,.n 0,.n 65536])=some (.n k,GH h e tg d 2 [] []):=by
      rw[eX D,HH q];simp only[gP,nC p,bR];rw[if_pos v,i];have:=tE (h:=h) (x:=[]) (l:=e) (sz:=2) (tg:=tg) (r:=r) (r':=d) (rows:=[]) p;rw[<-this];simp[bR]
     have w:=zA9 C B p u (qQ o) q k d [] (by simp at s⊢;omega) J;simp only[kZ,rM,gQ]at w;rw[aM];have F:(GH h e tg d 2 [] []).length=h.length+2:=by rw[zV];rfl
     generalize aS fH k d=M at*;simp[Mc.bn,aC,Ks.bn,y];refine cZ ?_;rw[F,kO u (by have O:=(aV.1 (qQ o).et).1;have N:=(aV.1 (qQ o).en).1;simp[bM,bW,low,bN];omega)];simpa using w
    ·cases a
   ·cases a
  ·cases a
 ·cases a
def zP:List AV->aA->Option (AV×aA)
 |[.ptr l 0,.fn f [.ptr t 0]],h=>if f=Fn.cs then(match BA h t with
  |some (a,_)=>if a=l then uU fJ dI 2 l h else none|none=>none)else none|_,_=>none
theorem zB0{G:Gam}(y:G Fn.a3=some (.gen (cJ lJ)))(w:G Fn.cs=some (.gen DA)){h:aA}{l c t:Nat}{tg:Option TypeId}(i:l<h.length)(f:cV h.length h=true)(e:EnvT h l c t){O:Rd}(n:h[l]?=some (bR tg O)):∀(k:Nat)(r:Rd)(a:List (Bs×Bs)),a.length+k<=65536->r.rest.length<=1000000->cY G [] Mc.bq_L0 (h.length+2) [.blk 0,.seq (.seq (.reg [zm 23 5,zM 4 23]) .ret)] (jW h.length Rs.bq (.own (h.length+1) (a++(aS fJ k r).1).length (a++(aS fJ k r).1).length) (GH h l tg (aS fJ k r).2 2 ((a++(aS fJ k r).1).map dI) [])) [(0,.ptr l 0),(1,.fn Fn.cs [.ptr t 0]),(4,.own h.length 0 0),(5,.own (h.length+1) a.length a.length),(6,.n k)] (GH h l tg r 2 (a.map dI) [])
 |0,r,a,L,p=>by
  have q:ltB 0 0=false:=rfl;simp only[aS,dY];refine aJ (Mc.bq_L0.eq_1) ?_;rw[kO f (by have B:=(aV.1 e.et).1;simp[bM,bW,low,bN];omega)];simp[jW];exact tD f (by simp[dS,eZ,fK,Rs.bq,bV,lkp])|k+1,r,a,L,p=>by
  have q:ltB 0 ((k:Int)+1)=true:=aO.2 (by omega);have P:IntKind.i64.wrap (k:Int)=(k:Int):=i64_in _ ⟨by omega,by omega⟩;have s:opV G false (GH h l tg r 2 (a.map dI) []) (.call Fn.a3) (some [.ptr l 0])=some (.n r.err,GH h l tg r 2 (a.map dI) []):=by
   rw[eX y];simp only[cJ,lJ,nC i,bR];rfl
  have K:(a.map dI).length=a.length:=by simp
  refine aJ (Mc.bq_L0.eq_1) ?_;rw[kO f (by have B:=(aV.1 e.et).1;simp[bM,bW,low,bN];omega)];by_cases g:r.err=0
  ·obtain⟨v,d,j⟩:∃v d,fJ r=(v,d):=⟨_,_,rfl⟩;have M:d.rest.length<=1000000:=by have:=YP r p;rw[j]at this;exact this
   have E:eD G Fn.cs [.ptr t 0] (GH h l tg r 2 (a.map dI) [])=some (.agg (dI v),GH h l tg d 2 (a.map dI) [.cells (dI v)]):=by
    rw[lB w];have J:=EnvT.of (H:=GH h l tg r 2 (a.map dI) []) ⟨qG e.ec (iR n e.ec),qG e.et (iR n e.et)⟩;simp only[DA];rw[J];simp only;rw[OS (nC i) p,j,tE i,ND];rfl
   have D:opV G false (GH h l tg d 2 (a.map dI) [.cells (dI v)]) (.app false 2 32) (some [.own (h.length+1) a.length a.length,.tsl [dI v]])=some (.own (h.length+1) (a++[v]).length (a++[v]).length,GH h l tg d 2 ((a++[v]).map dI) [.cells (dI v)]):=by
    have:=vY (G:=G) (s:=false) (h:=(GH h l tg d 2 (a.map dI) [.cells (dI v)])) (e:=dI) (n:=2) (b:=32) (l:=h.length+1) (os:=a) (x:=v) (by rw[<-K];exact HG) rfl (by omega) (by unfold big;omega);rw[this];have u:(a++[v]).length=((a++[v]).map dI).length:=by simp
    rw[u,HE,<-u]
   have N:=zB0 y w i f e n k d (a++[v]) (by simp;omega) M;have m:aS fJ (k+1) r=(v::(aS fJ k d).1,(aS fJ k d).2):=by rw[aS,if_neg (by simpa using g),j]
   have F:a++v::(aS fJ k d).1=a++[v]++(aS fJ k d).1:=by simp
   rw[m];simp only;rw[F];have o:eqB r.err 0=true:=gW.2 g;generalize aS fJ k d=Q at*;generalize A:GH h l tg r 2 (a.map dI) []=C at*;have I:opV G false (GH h l tg d 2 (a.map dI) [.cells (dI v)]) (.bsl false 2) (some [.agg (dI v)])=some (.tsl [dI v],GH h l tg d 2 (a.map dI) [.cells (dI v)]):=by simp[dX,owns,bU,view,dB,fW,bE,AV.cells,dI]
   simp[q,s,o,gZ,E,I,D,P,-List.length_append,-List.map_append,-kI];refine cZ ?_;rw[kO f (by have B:=(aV.1 e.et).1;simp[bM,bW,low,bN];omega)];simpa using N
  ·have o:eqB r.err 0=false:=eU.2 g;have m:aS fJ (k+1) r=([],r):=by rw[aS,if_pos g]
   rw[m];simp only[dY];generalize A:GH h l tg r 2 (a.map dI) []=C at*;simp[q,s,o,jW];rw[<-A];exact tD f (by simp[dS,eZ,fK,Rs.bq,bV,lkp])
theorem yX4{G:Gam}(C:G Fn.ai=some (.gen gP))(B:G Fn.a3=some (.gen (cJ lJ)))(A:G Fn.cs=some (.gen DA)):∀g h r j,bN h.length g=true->cV h.length h=true->zP g h=some (r,j)->wpM G Mc.bq (jW h.length Rs.bq r j) [] (aC Ks.bq g) h:=by
 intro g h x j K s a;unfold zP at a;split at a
 ·rename_i l f t;split at a
  ·rename_i D;subst D;split at a
   ·rename_i e J q;split at a
    ·rename_i F;subst F;obtain⟨tg,r,o,u,rfl,rfl⟩:=KD a;have n:e<h.length:=(aV.1 o).1;have p:=wD (lo:=0) (hi:=65536) (by omega) (by omega) (r:=r);obtain⟨m,d,i⟩:∃m d,rdNum 0 65536 r=(m,d):=⟨_,_,rfl⟩;have I:d.rest.length<=1000000:=by have:=gA 0 65536 r u;rw[i]at this;exact this
     rw[i]at p;obtain⟨k,rfl⟩:∃k:Nat,m=k:=⟨m.toNat,by simp at p;omega⟩;have y:bH fJ r=aS fJ k d:=by unfold bH;rw[i];simp
     rw[y];have w:opV G false (h++[.arr 2 0 [] true,.arr 2 0 [] true]) (.call Fn.ai) (some [.ptr e 0,.n 0,.n 65536])=some (.n k,GH h e tg d 2 [] []):=by
      rw[eX C,HH o];simp only[gP,nC n,bR];rw[if_pos u,i];have:=tE (h:=h) (x:=[]) (l:=e) (sz:=2) (tg:=tg) (r:=r) (r':=d) (rows:=[]) n;rw[<-this];simp[bR]
     have v:=zB0 B A n s (PM q) o k d [] (by simp at p⊢;omega) I;simp only[kZ,rM,gQ]at v;rw[aM];have E:(GH h e tg d 2 [] []).length=h.length+2:=by rw[zV];rfl
     generalize aS fJ k d=L at*;simp[Mc.bq,aC,Ks.bq,w];refine cZ ?_;rw[E,kO s (by have M:=(aV.1 (PM q).et).1;simp[bM,bW,low,bN];omega)];simpa using v
    ·cases a
   ·cases a
  ·cases a
 ·cases a
abbrev z8:List AV:=[.n 0,.n 0,.str [],.nils,.nils,.nils,.nils,.nils]
def DH(z:List AV)(r:Rd)(tl:aA):aA:=.cells z::bR none r::.cells [.ptr 1 0]::.cells [.fn Fn.an [.ptr 2 0]]::.cells [.fn Fn.aq [.ptr 2 0]]::tl
section
variable{G:Gam}{z z':List AV}{r r':Rd}{tl:aA}
theorem FX:(DH z r tl).length=5+tl.length:=by simp[DH];omega
theorem wV:(DH z r tl)[1]?=some (bR none r):=rfl
theorem SP:(DH z r tl).set 1 (bR none r')=DH z r' tl:=rfl
theorem SL:Env (DH z r tl) 1 2 4 3:=⟨rfl,rfl,rfl⟩
theorem zW0:EnvT (DH z r tl) 1 2 4:=⟨rfl,rfl⟩
theorem zb4:aB 1 false (DH z r tl) (.ptr 2 0)=some (.ptr 1 0):=aR (l:=2) rfl rfl
theorem zb8:aB 1 false (DH z r tl) (.ptr 3 0)=some (.fn Fn.an [.ptr 2 0]):=aR (l:=3) rfl rfl
theorem zW8:aB 1 false (DH z r tl) (.ptr 4 0)=some (.fn Fn.aq [.ptr 2 0]):=aR (l:=4) rfl rfl
theorem FY{sz:Nat}{rows:List (List AV)}:GH (DH z r tl) 1 none r' sz rows []=DH z r' (tl++[.arr sz 0 [] true,.arr sz rows.length rows true]):=by unfold GH;rw[SP];simp[DH]
theorem zb5(a:G Fn.an=some (.gen oS))(d:r.rest.length<=1000000):eD G Fn.an [.ptr 2 0] (DH z r tl)=some (.n (rdNum 0 65536 r).1,DH z (rdNum 0 65536 r).2 tl):=by rw[IU a (tg':=none) (l:=1) (tg:=none) rfl wV d,SP]
theorem zb6(a:G Fn.aq=some (.gen rI))(d:r.rest.length<=1000000):eD G Fn.aq [.ptr 2 0] (DH z r tl)=some (.str (bG 65536 r).1,DH z (bG 65536 r).2 tl):=by rw[IV a (tg':=none) (l:=1) (tg:=none) rfl wV d,SP]
theorem zW7{b a:Blk}:(DH z r (b::tl)).set 5 a=DH z r (a::tl):=rfl
theorem SM{b:Blk}:(DH z r (b::tl))[5]?=some b:=rfl
theorem zb7:(DH z r tl)[0]?=some (.cells z):=rfl
theorem zW3(d:G Fn.bo=some (.gen zK))(e:r.rest.length<=1000000)(_:Bool):eD G Fn.bo [.ptr 1 0,.fn Fn.cp [.ptr 4 0,.ptr 3 0]] (DH z r tl)=some (.own (6+tl.length) (bH (eK 65536) r).1.length (bH (eK 65536) r).1.length,DH z (bH (eK 65536) r).2 (tl++[.arr 5 0 [] true,.arr 5 (bH (eK 65536) r).1.length (aK (bH (eK 65536) r).1) true])):=by
 rw[lB d];have a:=Env.of (SL (z:=z) (r:=r) (tl:=tl));simp only[zK,bD,a,KE wV e,FY,kC];rw[FX,show 5+tl.length+1=6+tl.length by omega];rfl
theorem zW2(d:G Fn.bs=some (.gen zJ))(e:r.rest.length<=1000000)(_:Bool):eD G Fn.bs [.ptr 1 0,.fn Fn.an [.ptr 2 0]] (DH z r tl)=some (.own (6+tl.length) (bH fI r).1.length (bH fI r).1.length,DH z (bH fI r).2 (tl++[.arr 1 0 [] true,.arr 1 (bH fI r).1.length (bO (bH fI r).1) true])):=by
 rw[lB d];have a:(DH z r tl)[2]?=some (.cells [.ptr 1 0]):=rfl;simp only[zJ,bD,a,KE wV e,FY,kC];rw[FX,show 5+tl.length+1=6+tl.length by omega];rfl
theorem zW4(d:G Fn.bp=some (.gen zN))(e:r.rest.length<=1000000)(_:Bool):eD G Fn.bp [.ptr 1 0,.fn Fn.cq [.ptr 4 0,.ptr 3 0]] (DH z r tl)=some (.own (6+tl.length) (bH fD r).1.length (bH fD r).1.length,DH z (bH fD r).2 (tl++[.arr 3 0 [] true,.arr 3 (bH fD r).1.length (bP (bH fD r).1) true])):=by
 rw[lB d];have a:=Env.of (SL (z:=z) (r:=r) (tl:=tl));simp only[zN,bD,a,KE wV e,FY,kC];rw[FX,show 5+tl.length+1=6+tl.length by omega];rfl
theorem zW5(d:G Fn.bn=some (.gen zO))(e:r.rest.length<=1000000)(_:Bool):eD G Fn.bn [.ptr 1 0,.fn Fn.cr [.ptr 4 0,.ptr 3 0]] (DH z r tl)=some (.own (6+tl.length) (bH fH r).1.length (bH fH r).1.length,DH z (bH fH r).2 (tl++[.arr 2 0 [] true,.arr 2 (bH fH r).1.length (bZ (bH fH r).1) true])):=by
 rw[lB d];have a:=Env.of (SL (z:=z) (r:=r) (tl:=tl));simp only[zO,bD,a,KE wV e,FY,kC];rw[FX,show 5+tl.length+1=6+tl.length by omega];rfl
theorem zW6(d:G Fn.bq=some (.gen zP))(e:r.rest.length<=1000000)(_:Bool):eD G Fn.bq [.ptr 1 0,.fn Fn.cs [.ptr 4 0]] (DH z r tl)=some (.own (6+tl.length) (bH fJ r).1.length (bH fJ r).1.length,DH z (bH fJ r).2 (tl++[.arr 2 0 [] true,.arr 2 (bH fJ r).1.length (dK (bH fJ r).1) true])):=by
 rw[lB d];have a:=EnvT.of (zW0 (z:=z) (r:=r) (tl:=tl));simp only[zP,bD,a,KE wV e,FY,kC];rw[FX,show 5+tl.length+1=6+tl.length by omega];rfl
end
theorem BK{α:Type}{one:Rd->α×Rd}{ok:α->Prop}(h:∀r:Rd,r.rest.length<=1000000->ok (one r).1)(e:qI one):∀(n:Nat)(r:Rd),r.rest.length<=1000000->∀x∈(aS one n r).1,ok x
 |0,_,_,x,a=>by cases a|n+1,r,d,x,a=>by
  rw[aS]at a;split at a;·cases a
  ·rcases fE.1 a with rfl|a;·exact h r d
   ·exact BK h e n _ (e r d) x a
theorem KC{α:Type}{one:Rd->α×Rd}(r:Rd):(bH one r).1.length<=65536:=by
 have a:=zB3 (one:=one) (rdNum 0 65536 r).1.toNat (rdNum 0 65536 r).2;have d:=wD (lo:=0) (hi:=65536) (by omega) (by omega) (r:=r);unfold bH;omega
theorem yR{m:Int}(a:0<=m)(d:m<=100000)(r:Rd):(bG m r).1.length<=100000:=by
 unfold bG;split;·simp
 ·split
  ·split;·simp
   ·split;·simp
    ·split;·simp
     ·simp;omega
  ·simp
  ·simp
theorem YS{a:Int}(d:0<=a)(e:a<=65536)(r:Rd):mJ (rdNum 0 a r).1=true:=by
 have:=wD (lo:=0) (hi:=a) d (by omega) (r:=r);unfold mJ;simp;omega
theorem SC{hi:Int}(a:0<=hi)(d:hi<=65536)(r:Rd):-1000000000000<=(rdNum 0 hi r).1/\(rdNum 0 hi r).1<=1000000000000:=by
 have:=wD (lo:=0) (hi:=hi) a (by omega) (r:=r);omega
theorem XT{mh mk me mp:Int}(_:0<=mp)(_:mp<=65536)(d:Rd)(n:d.rest.length<=1000000):OkB (jQ mh mk me mp d).1.2:=by
 have o:=kV mh d n;have q:=gA 0 mk _ o;have s:=gA 0 me _ q;have f:=kV 65536 _ s;have j:=yV (FL mp) _ f;have k:=yV LF _ j;have m:=yV LG _ k;have t:=yV LE _ m;simp only[jQ];refine⟨?_,?_,?_,?_,?_,?_,?_,?_,?_,?_,?_⟩
 ·unfold qV;simp only[bS,fU,gV];refine⟨by have:=KC (one:=eK mp) (bG 65536 (rdNum 0 me (rdNum 0 mk (bG mh d).2).2).2).2;omega,?_⟩;refine BK (ok:=fun p=>BM p=true) (fun r e=>?_) (FL mp) _ _ (gA _ _ _ f);have g:=SC (hi:=65536) (by omega) (by omega) (rdNum 0 mp (bG 65536 (bG 65536 r).2).2).2;have i:=SC (hi:=65536) (by omega) (by omega) (rdNum 0 65536 (rdNum 0 mp (bG 65536 (bG 65536 r).2).2).2).2;unfold BM;simp only[bS,fU];exact⟨⟨⟨g.1,g.2⟩,i.1⟩,i.2⟩
 ·have:=yR (m:=65536) (by omega) (by omega) (rdNum 0 me (rdNum 0 mk (bG mh d).2).2).2;simp only;omega
 ·exact BK (ok:=fun p=>p.obj.length<=100000/\p.sym.length<=100000) (fun r e=>⟨yR (by omega) (by omega) _,yR (by omega) (by omega) _⟩) (FL mp) _ _ (gA _ _ _ f)
 ·have:=KC (one:=fI) (bH (eK mp) (bG 65536 (rdNum 0 me (rdNum 0 mk (bG mh d).2).2).2).2).2;simp only;omega
 ·exact BK (ok:=fun a=>mJ a=true) (fun r e=>YS (by omega) (by omega) _) LF _ _ (gA _ _ _ j)
 ·have:=KC (one:=fD) (bH fI (bH (eK mp) (bG 65536 (rdNum 0 me (rdNum 0 mk (bG mh d).2).2).2).2).2).2;simp only;omega
 ·exact BK (ok:=fun x=>x.lib.length<=100000/\x.sym.length<=100000/\mJ x.pos=true) (fun r e=>⟨yR (by omega) (by omega) _,yR (by omega) (by omega) _,YS (by omega) (by omega) _⟩) LG _ _ (gA _ _ _ k)
 ·have:=KC (one:=fH) (bH fD (bH fI (bH (eK mp) (bG 65536 (rdNum 0 me (rdNum 0 mk (bG mh d).2).2).2).2).2).2).2;simp only;omega
 ·exact BK (ok:=fun x=>x.sym.length<=100000/\mJ x.pos=true) (fun r e=>⟨yR (by omega) (by omega) _,YS (by omega) (by omega) _⟩) LE _ _ (gA _ _ _ m)
 ·have:=KC (one:=fJ) (bH fH (bH fD (bH fI (bH (eK mp) (bG 65536 (rdNum 0 me (rdNum 0 mk (bG mh d).2).2).2).2).2).2).2).2;simp only;omega
 ·refine BK (ok:=fun x:Bs×Bs=>x.1.length<=100000/\x.2.length<=1000000) (fun r e=>⟨yR (by omega) (by omega) _,?_⟩) YP _ _ (gA _ _ _ t);have:=yR (m:=65536) (by omega) (by omega) (bG 65536 r).2;simp only[fJ];omega
theorem FZ{z a:List AV}{r:Rd}{X:aA}{k:Nat}{v:AV}(d:v.cells=[v])(e:bE v=true)(g:k<a.length):aU 1 (DH z r (.cells a::X)) (.ptr 5 k) v=some (DH z r (.cells (a.set k v)::X)):=by
 have f:k+1<=a.length:=by omega
 simp[aU,d,e,SM,f,bK,zW7]
theorem zW1{z a:List AV}{r:Rd}{X:aA}(h:a.length=8):aB 8 true (DH z r (.cells a::X)) (.ptr 5 0)=some (.agg a):=by
 have d:cut a 0 8=a:=AP h;simp only[aB,SM];rw[d];simp[aE,h]
theorem SO{z a:List AV}{r:Rd}{X:aA}(e:z.length=8)(h:a.length=8)(d:a.all bE=true):aU 8 (DH z r X) (.ptr 0 0) (.agg a)=some (DH a r X):=by
 have:=nP (h:=DH z r X) (l:=0) (n:=8) (vs:=z) (us:=a) zb7 e h (by omega) d;rw[this];rfl
theorem SN{z:List AV}{r:Rd}{X:aA}(h:z.length=8):aB 8 true (DH z r X) (.ptr 0 0)=some (.agg z):=by
 have a:cut z 0 8=z:=AP h;simp only[aB,zb7];rw[a];simp[aE,h]
def oB(d:Bin×Int):AV:=.tup [.agg d.1.cells,.n d.2]
theorem TK(h:aA):bU h [.agg z8,.n 17]=some [.agg bin0.cells,.n 17]:=by simp[bU,view,Bin.cells,bin0,aK,bO,bP,bZ,dK]
theorem zX1{G:Gam}(m3:G Fn.bo=some (.gen zK))(m1:G Fn.bs=some (.gen zJ))(m4:G Fn.bp=some (.gen zN))(m5:G Fn.bn=some (.gen zO))(m6:G Fn.bq=some (.gen zP))(hC:G Fn.ce=some (.gen (cJ sV)))(hK:G Fn.ab=some (.pure kX))(d1 i:Bs)(k e:Int)(s:Rd)(a2:s.rest.length<=1000000)(b:Bin)(g:Rd)(j:b=⟨k,e,i,(bH (eK 65536) s).1,(bH fI (bH (eK 65536) s).2).1,(bH fD (bH fI (bH (eK 65536) s).2).2).1,(bH fH (bH fD (bH fI (bH (eK 65536) s).2).2).2).1,(bH fJ (bH fH (bH fD (bH fI (bH (eK 65536) s).2).2).2).2).1⟩)(o:g=(bH fJ (bH fH (bH fD (bH fI (bH (eK 65536) s).2).2).2).2).2)(c1:lG b=true)(b2:List (Nat×AV)):goM G LT [] (aD Rs.bx (oB (if jC g≠0\/gS b≠0 then(bin0,17)else(b,0)))) b2 [(0,.str d1),(2,.ptr 0 0),(3,.n 0),(4,.ptr 2 0),(5,.ptr 3 0),(6,.ptr 4 0),(7,.ptr 5 0)] (DH z8 s [.cells [.n k,.n e,.str i,.nils,.nils,.nils,.nils,.nils]]):=by
 have M:=yV (FL 65536) _ a2;have y:=yV LF _ M;have u:=yV LG _ y;have t:=yV LE _ u;obtain⟨p,D,e4⟩:∃a q,bH (eK 65536) s=(a,q):=⟨_,_,rfl⟩;rw[e4]at M y u t j o;obtain⟨f,E,e5⟩:∃a q,bH fI D=(a,q):=⟨_,_,rfl⟩;simp only at M y u t j o;rw[e5]at y u t j o;obtain⟨m,F,e6⟩:∃a q,bH fD E=(a,q):=⟨_,_,rfl⟩;simp only at y u t j o;rw[e6]at u t j o;obtain⟨x,I,e7⟩:∃a q,bH fH F=(a,q):=⟨_,_,rfl⟩;simp only at u t j o;rw[e7]at t j o;obtain⟨n,d2,e8⟩:∃a q,bH fJ I=(a,q):=⟨_,_,rfl⟩;simp only at t j o;rw[e8]at j o;simp only at j o;subst o;have g3:=fun tl=>zW3 (G:=G) (z:=z8) (tl:=tl) m3 a2 false;rw[e4]at g3;have g1:=fun tl=>zW2 (G:=G) (z:=z8) (tl:=tl) m1 M false;rw[e5]at g1;have g4:=fun tl=>zW4 (G:=G) (z:=z8) (tl:=tl) m4 y false;rw[e6]at g4;have g5:=fun tl=>zW5 (G:=G) (z:=z8) (tl:=tl) m5 u false;rw[e7]at g5;have g6:=fun tl=>zW6 (G:=G) (z:=z8) (tl:=tl) m6 t false;rw[e8]at g6;have B:∀(f:FuncId)(Z:List AV)(h:aA),opV G false h (.call f) (some Z)=eD G f Z h:=fun _ _ _=>rfl;have k3:opV G false (DH z8 s [.cells [.n k,.n e,.str i,.nils,.nils,.nils,.nils,.nils]]) (.call Fn.bo) (some [.ptr 1 0,.fn Fn.cp [.ptr 4 0,.ptr 3 0]])=some (.own 7 p.length p.length,DH z8 D [.cells [.n k,.n e,.str i,.nils,.nils,.nils,.nils,.nils],.arr 5 0 [] true,.arr 5 p.length (aK p) true]):=by rw[B,g3];rfl
 have U:aU 1 (DH z8 D [.cells [.n k,.n e,.str i,.nils,.nils,.nils,.nils,.nils],.arr 5 0 [] true,.arr 5 p.length (aK p) true]) (.ptr 5 3) (.own 7 p.length p.length)=some (DH z8 D [.cells [.n k,.n e,.str i,.own 7 p.length p.length,.nils,.nils,.nils,.nils],.arr 5 0 [] true,.arr 5 p.length (aK p) true]):=FZ rfl rfl (by simp);have k1:opV G false (DH z8 D [.cells [.n k,.n e,.str i,.own 7 p.length p.length,.nils,.nils,.nils,.nils],.arr 5 0 [] true,.arr 5 p.length (aK p) true]) (.call Fn.bs) (some [.ptr 1 0,.fn Fn.an [.ptr 2 0]])=some (.own 9 f.length f.length,DH z8 E [.cells [.n k,.n e,.str i,.own 7 p.length p.length,.nils,.nils,.nils,.nils],.arr 5 0 [] true,.arr 5 p.length (aK p) true,.arr 1 0 [] true,.arr 1 f.length (bO f) true]):=by rw[B,g1];rfl
 have T:aU 1 (DH z8 E [.cells [.n k,.n e,.str i,.own 7 p.length p.length,.nils,.nils,.nils,.nils],.arr 5 0 [] true,.arr 5 p.length (aK p) true,.arr 1 0 [] true,.arr 1 f.length (bO f) true]) (.ptr 5 4) (.own 9 f.length f.length)=some (DH z8 E [.cells [.n k,.n e,.str i,.own 7 p.length p.length,.own 9 f.length f.length,.nils,.nils,.nils],.arr 5 0 [] true,.arr 5 p.length (aK p) true,.arr 1 0 [] true,.arr 1 f.length (bO f) true]):=FZ rfl rfl (by simp);have k4:opV G false (DH z8 E [.cells [.n k,.n e,.str i,.own 7 p.length p.length,.own 9 f.length f.length,.nils,.nils,.nils],.arr 5 0 [] true,.arr 5 p.length (aK p) true,.arr 1 0 [] true,.arr 1 f.length (bO f) true]) (.call Fn.bp) (some [.ptr 1 0,.fn Fn.cq [.ptr 4 0,.ptr 3 0]])=some (.own 11 m.length m.length,DH z8 F [.cells [.n k,.n e,.str i,.own 7 p.length p.length,.own 9 f.length f.length,.nils,.nils,.nils],.arr 5 0 [] true,.arr 5 p.length (aK p) true,.arr 1 0 [] true,.arr 1 f.length (bO f) true,.arr 3 0 [] true,.arr 3 m.length (bP m) true]):=by rw[B,g4];rfl
 have V:aU 1 (DH z8 F [.cells [.n k,.n e,.str i,.own 7 p.length p.length,.own 9 f.length f.length,.nils,.nils,.nils],.arr 5 0 [] true,.arr 5 p.length (aK p) true,.arr 1 0 [] true,.arr 1 f.length (bO f) true,.arr 3 0 [] true,.arr 3 m.length (bP m) true]) (.ptr 5 5) (.own 11 m.length m.length)=some (DH z8 F [.cells [.n k,.n e,.str i,.own 7 p.length p.length,.own 9 f.length f.length,.own 11 m.length m.length,.nils,.nils],.arr 5 0 [] true,.arr 5 p.length (aK p) true,.arr 1 0 [] true,.arr 1 f.length (bO f) true,.arr 3 0 [] true,.arr 3 m.length (bP m) true]):=FZ rfl rfl (by simp);have k5:opV G false (DH z8 F [.cells [.n k,.n e,.str i,.own 7 p.length p.length,.own 9 f.length f.length,.own 11 m.length m.length,.nils,.nils],.arr 5 0 [] true,.arr 5 p.length (aK p) true,.arr 1 0 [] true,.arr 1 f.length (bO f) true,.arr 3 0 [] true,.arr 3 m.length (bP m) true]) (.call Fn.bn) (some [.ptr 1 0,.fn Fn.cr [.ptr 4 0,.ptr 3 0]])=some (.own 13 x.length x.length,DH z8 I [.cells [.n k,.n e,.str i,.own 7 p.length p.length,.own 9 f.length f.length,.own 11 m.length m.length,.nils,.nils],.arr 5 0 [] true,.arr 5 p.length (aK p) true,.arr 1 0 [] true,.arr 1 f.length (bO f) true,.arr 3 0 [] true,.arr 3 m.length (bP m) true,.arr 2 0 [] true,.arr 2 x.length (bZ x) true]):=by rw[B,g5];rfl
 have W:aU 1 (DH z8 I [.cells [.n k,.n e,.str i,.own 7 p.length p.length,.own 9 f.length f.length,.own 11 m.length m.length,.nils,.nils],.arr 5 0 [] true,.arr 5 p.length (aK p) true,.arr 1 0 [] true,.arr 1 f.length (bO f) true,.arr 3 0 [] true,.arr 3 m.length (bP m) true,.arr 2 0 [] true,.arr 2 x.length (bZ x) true]) (.ptr 5 6) (.own 13 x.length x.length)=some (DH z8 I [.cells [.n k,.n e,.str i,.own 7 p.length p.length,.own 9 f.length f.length,.own 11 m.length m.length,.own 13 x.length x.length,.nils],.arr 5 0 [] true,.arr 5 p.length (aK p) true,.arr 1 0 [] true,.arr 1 f.length (bO f) true,.arr 3 0 [] true,.arr 3 m.length (bP m) true,.arr 2 0 [] true,.arr 2 x.length (bZ x) true]):=FZ rfl rfl (by simp);have k6:opV G false (DH z8 I [.cells [.n k,.n e,.str i,.own 7 p.length p.length,.own 9 f.length f.length,.own 11 m.length m.length,.own 13 x.length x.length,.nils],.arr 5 0 [] true,.arr 5 p.length (aK p) true,.arr 1 0 [] true,.arr 1 f.length (bO f) true,.arr 3 0 [] true,.arr 3 m.length (bP m) true,.arr 2 0 [] true,.arr 2 x.length (bZ x) true]) (.call Fn.bq) (some [.ptr 1 0,.fn Fn.cs [.ptr 4 0]])=some (.own 15 n.length n.length,DH z8 g [.cells [.n k,.n e,.str i,.own 7 p.length p.length,.own 9 f.length f.length,.own 11 m.length m.length,.own 13 x.length x.length,.nils],.arr 5 0 [] true,.arr 5 p.length (aK p) true,.arr 1 0 [] true,.arr 1 f.length (bO f) true,.arr 3 0 [] true,.arr 3 m.length (bP m) true,.arr 2 0 [] true,.arr 2 x.length (bZ x) true,.arr 2 0 [] true,.arr 2 n.length (dK n) true]):=by rw[B,g6];rfl
 obtain⟨X,v⟩:∃X:aA,X=[.arr 5 0 [] true,.arr 5 p.length (aK p) true,.arr 1 0 [] true,.arr 1 f.length (bO f) true,.arr 3 0 [] true,.arr 3 m.length (bP m) true,.arr 2 0 [] true,.arr 2 x.length (bZ x) true,.arr 2 0 [] true,.arr 2 n.length (dK n) true]:=⟨_,rfl⟩;obtain⟨d,J⟩:∃d:List AV,d=[.n k,.n e,.str i,.own 7 p.length p.length,.own 9 f.length f.length,.own 11 m.length m.length,.own 13 x.length x.length,.own 15 n.length n.length]:=⟨_,rfl⟩;have Y:aU 1 (DH z8 g [.cells [.n k,.n e,.str i,.own 7 p.length p.length,.own 9 f.length f.length,.own 11 m.length m.length,.own 13 x.length x.length,.nils],.arr 5 0 [] true,.arr 5 p.length (aK p) true,.arr 1 0 [] true,.arr 1 f.length (bO f) true,.arr 3 0 [] true,.arr 3 m.length (bP m) true,.arr 2 0 [] true,.arr 2 x.length (bZ x) true,.arr 2 0 [] true,.arr 2 n.length (dK n) true]) (.ptr 5 7) (.own 15 n.length n.length)=some (DH z8 g (.cells d::X)):=by rw[v,J];exact FZ rfl rfl (by simp)
 have O:d.length=8:=by rw[J];rfl
 have b3:d.all bE=true:=by rw[J];rfl
 have K:∀z,view (DH z g (.cells d::X)) (.agg d)=some (.agg b.cells):=fun z=>by
  have w:∀(l c:Nat)(sz:Nat)(rows:List (List AV)),(DH z g (.cells d::X))[l]?=some (.arr sz c rows true)->c=rows.length->view (DH z g (.cells d::X)) (.own l c c)=some (.sl rows):=fun l c sz rows h1 h2=>by simp only[view,sL h1 h2,fC]
  have w1:=w 7 p.length 5 (aK p) (by rw[v];rfl) (by simp);have w2:=w 9 f.length 1 (bO f) (by rw[v];rfl) (by simp);have w3:=w 11 m.length 3 (bP m) (by rw[v];rfl) (by simp);have w4:=w 13 x.length 2 (bZ x) (by rw[v];rfl) (by simp);have w5:=w 15 n.length 2 (dK n) (by rw[v];rfl) (by simp);generalize DH z g (.cells d::X)=H at*;rw[J,j];simp only[view,bU,Bin.cells]at w1 w2 w3 w4 w5⊢;simp[w1,w2,w3,w4,w5]
 have A:opV G false (DH z8 g (.cells d::X)) (.call Fn.ce) (some [.ptr 1 0])=some (.n (jC g),DH z8 g (.cells d::X)):=by
  rw[eX hC];simp only[cJ,sV,wV,bR];rfl
 have N:opV G false (DH z8 g (.cells d::X)) (.call Fn.ab) (some [.agg d])=some (.n (gS b),DH z8 g (.cells d::X)):=bF hK (us:=[.agg b.cells]) (by simp only[bU,K]) (by simp only[kX,jK];rw[if_pos c1]) (.inl rfl);have l8:aB 8 true (DH z8 g (.cells d::X)) (.ptr 5 0)=some (.agg d):=zW1 O;have s8:aU 8 (DH z8 g (.cells d::X)) (.ptr 0 0) (.agg d)=some (DH d g (.cells d::X)):=SO rfl O b3;have b1:aU 8 (DH z8 g (.cells d::X)) (.ptr 0 0) (.agg z8)=some (DH z8 g (.cells d::X)):=SO rfl rfl rfl;have f8:aB 8 true (DH d g (.cells d::X)) (.ptr 0 0)=some (.agg d):=SN O;have a1:aB 8 true (DH z8 g (.cells d::X)) (.ptr 0 0)=some (.agg z8):=SN rfl;have v1:view (DH d g (.cells d::X)) (.tup [.agg d,.n 0])=some (oB (b,0)):=by
  simp only[view,bU]at K⊢;rw[K d];rfl
 have v0:view (DH z8 g (.cells d::X)) (.tup [.agg z8,.n 17])=some (oB (bin0,17)):=by rw[view,TK];rfl
 have P:=fun r tl=>zb4 (z:=z8) (r:=r) (tl:=tl);have S:=fun r tl=>zb8 (z:=z8) (r:=r) (tl:=tl);have Q:=zb4 (z:=z8) (r:=g) (tl:=.cells d::X);unfold LT;generalize DH z8 g (.cells d::X)=H1 at*;generalize DH d g (.cells d::X)=H2 at*;have bz:∀st h,opV G st h (.bld z8 []) (some [])=some (.agg z8,h):=fun st h=>by rw[eV rfl];rfl
 by_cases C:jC g=0
 ·by_cases L:gS b=0
  ·rw[if_neg (by simp[C,L])];rw[C]at A;rw[L]at N;generalize oB (b,0)=a3 at*;simp[P,Q,S,k3,U,k1,T,k4,V,k5,W,k6,Y,A,l8,N,s8,aD,Rs.bx,dS,eZ,fK,f8,-aB,-bB];simpa using v1
  ·rw[if_pos (.inr L)];have c3:eqB (gS b) 0=false:=eU.2 L;rw[C]at A;generalize oB (bin0,17)=a3 at*;simp[P,Q,S,k3,U,k1,T,k4,V,k5,W,k6,Y,A,l8,N,c3,eO,b1,aD,Rs.bx,dS,eZ,fK,a1,-aB,-bB];simpa using v0
 ·rw[if_pos (.inl C)];have c2:eqB (jC g) 0=false:=eU.2 C;generalize oB (bin0,17)=a3 at*;simp[P,Q,S,k3,U,k1,T,k4,V,k5,W,k6,Y,A,c2,eO,b1,aD,Rs.bx,dS,eZ,fK,a1,-aB,-bB];simpa using v0
def qB:List AV->Option AV
 |[.str s]=>if s.length<=1000000 then some (oB (lC 65536 65536 65536 65536 s))else none|_=>none
theorem zW9{G:Gam}(hR:G Fn.dq=some (.gen MR))(V:G Fn.an=some (.gen oS))(W:G Fn.aq=some (.gen rI))(m3:G Fn.bo=some (.gen zK))(m1:G Fn.bs=some (.gen zJ))(m4:G Fn.bp=some (.gen zN))(m5:G Fn.bn=some (.gen zO))(m6:G Fn.bq=some (.gen zP))(hC:G Fn.ce=some (.gen (cJ sV)))(hK:G Fn.ab=some (.pure kX)):PW G Mc.bx Rs.bx Ks.bx qB:=by
 intro h3 r d;unfold qB at d;split at d
 ·rename_i s;split at d
  ·rename_i I;injection d with d;subst d;have J:opV G false [.cells z8] (.call Fn.dq) (some [.str s])=some (.ptr 1 0,[.cells z8,bR none ⟨s,0⟩]):=by rw[eX hR];rfl
   obtain⟨g,e,n⟩:∃a q,bG 65536 ⟨s,0⟩=(a,q):=⟨_,_,rfl⟩;have N:e.rest.length<=1000000:=by have:=kV 65536 ⟨s,0⟩ I;rw[n]at this;exact this
   obtain⟨v,j,A⟩:∃a q,rdNum 0 65536 e=(a,q):=⟨_,_,rfl⟩;have O:j.rest.length<=1000000:=by have:=gA 0 65536 e N;rw[A]at this;exact this
   have D:=SC (hi:=65536) (by omega) (by omega) j;obtain⟨i,u,o⟩:∃a q,rdNum 0 65536 j=(a,q):=⟨_,_,rfl⟩;have P:u.rest.length<=1000000:=by have:=gA 0 65536 j O;rw[o]at this;exact this
   rw[o]at D;have wv:IntKind.i64.wrap (i-1)=i-1:=i64_in _ ⟨by simp only at D;omega,by simp only at D;omega⟩;obtain⟨w,k,B⟩:∃a q,bG 65536 u=(a,q):=⟨_,_,rfl⟩;have b3:k.rest.length<=1000000:=by have:=kV 65536 u P;rw[B]at this;exact this
   have X:=XT (mh:=65536) (mk:=65536) (me:=65536) (mp:=65536) (by omega) (by omega) ⟨s,0⟩ I;obtain⟨b,F⟩:∃b,b=(jQ 65536 65536 65536 65536 ⟨s,0⟩).1.2:=⟨_,rfl⟩;obtain⟨f,Z⟩:∃r,r=(jQ 65536 65536 65536 65536 ⟨s,0⟩).2:=⟨_,rfl⟩;have hh:(jQ 65536 65536 65536 65536 ⟨s,0⟩).1.1=g:=by simp only[jQ,n]
   rw[<-F]at X;have Y:=F;have a1:=Z;simp only[jQ,n,A,o,B]at Y a1;have tl:=fun f2=>zX1 (G:=G) m3 m1 m4 m5 m6 hC hK s w v (i-1) k b3 b f Y a1 (QV X) f2;have y:=fun tl=>zb6 (G:=G) (z:=z8) (r:=⟨s,0⟩) (tl:=tl) W I;rw[n]at y;have Q:=fun tl=>zb5 (G:=G) (z:=z8) (r:=e) (tl:=tl) V N;rw[A]at Q;have S:=fun tl=>zb5 (G:=G) (z:=z8) (r:=j) (tl:=tl) V O;rw[o]at S;have T:=fun tl=>zb6 (G:=G) (z:=z8) (r:=u) (tl:=tl) W P;rw[B]at T;have E:[Blk.cells z8,bR none ⟨s,0⟩,.cells [.ptr 1 0],.cells [.fn Fn.an [.ptr 2 0]],.cells [.fn Fn.aq [.ptr 2 0]]]=DH z8 ⟨s,0⟩ []:=rfl;have aN:∀m h,opV G m h (.alloc z8) (some [])=some (.ptr h.length 0,h++[.cells z8]):=fun m h=>by rw[eG rfl];rfl
   have a2:=fun r tl=>zW8 (z:=z8) (r:=r) (tl:=tl);have f3:=fun r tl=>zb8 (z:=z8) (r:=r) (tl:=tl);unfold lC;rw[<-F,<-Z,hh,Mc.bx,aM];have cond:(65536<s.length\/g≠iI\/jC f≠0\/gS b≠0)↔((65536<s.length\/g≠iI)\/(jC f≠0\/gS b≠0)):=by rw[or_assoc]
   have U:∀r tl,aB 8 true (DH z8 r tl) (.ptr 0 0)=some (.agg z8):=fun r tl=>SN rfl;have c1:∀r tl,aU 8 (DH z8 r tl) (.ptr 0 0) (.agg z8)=some (DH z8 r tl):=fun r tl=>SO rfl rfl rfl;have c2:∀h,view h (.tup [.agg z8,.n 17])=some (oB (bin0,17)):=fun h=>by rw[view,TK];rfl
   have bz:∀m h,opV G m h (.bld z8 []) (some [])=some (.agg z8,h):=fun m h=>by rw[eV rfl];rfl
   by_cases q1:65536<s.length
   ·have p:ltB 65536 (s.length:Int)=true:=aO.2 (by omega);rw[if_pos (.inl q1)];have M:=c2 (DH z8 ⟨s,0⟩ []);have C:=U ⟨s,0⟩ [];have L:=c1 ⟨s,0⟩ [];generalize oB (bin0,17)=a3 at*;simp[Ks.bx,aC,J,bK,E,aI,p,eO,L,aD,Rs.bx,dS,eZ,fK,C,-aB];simpa using M
   ·have p:ltB 65536 (s.length:Int)=false:=bC.2 (by omega);by_cases t:g=iI
    ·have K:(g==[98,105,110,97,114,121])=true:=by rw[t];rfl
     have ec:(if 65536<s.length\/g≠iI\/jC f≠0\/gS b≠0 then(bin0,(17:Int))else(b,0))=(if jC f≠0\/gS b≠0 then(bin0,17)else(b,0)):=by
      by_cases c:jC f≠0\/gS b≠0;·rw[if_pos c,if_pos (.inr (.inr c))]
      ·rw[if_neg c,if_neg (by rintro(h|h|h);exact q1 h;exact h t;exact c h)]
     rw[ec];generalize oB (if jC f≠0\/gS b≠0 then(bin0,(17:Int))else(b,0))=a3 at*;have c3:∀r,(DH z8 r []).length=5:=fun r=>rfl;have f1:∀r,DH z8 r []++[.cells z8]=DH z8 r [.cells z8]:=fun r=>rfl;have s5:aU 8 (DH z8 k [.cells z8]) (.ptr 5 0) (.agg [.n v,.n (i-1),.str w,.nils,.nils,.nils,.nils,.nils])=some (DH z8 k [.cells [.n v,.n (i-1),.str w,.nils,.nils,.nils,.nils,.nils]]):=by
      have:=nP (h:=DH z8 k [.cells z8]) (l:=5) (n:=8) (vs:=z8) (us:=[.n v,.n (i-1),.str w,.nils,.nils,.nils,.nils,.nils]) SM rfl rfl (by omega) rfl;rw[this];rfl
     generalize LT=g2 at*;simp[Ks.bx,aC,J,bK,E,aI,p,a2,f3,gZ,y,Q,S,T,dV,K,wv,c3,f1,eO,s5,-aB];exact⟨tl _,tl _,tl _⟩
    ·have K:(g==[98,105,110,97,114,121])=false:=by simpa[iI]using t
     rw[if_pos (.inr (.inl t))];have M:=c2 (DH z8 e []);have C:=U e [];have L:=c1 e [];generalize oB (bin0,17)=a3 at*;simp[Ks.bx,aC,J,bK,E,aI,p,a2,gZ,y,dV,K,eO,L,aD,Rs.bx,dS,eZ,fK,C,-aB];simpa using M
  ·cases d
 ·cases d
end Go.Proofs.YtdebajodkallbaaGreatDoor
