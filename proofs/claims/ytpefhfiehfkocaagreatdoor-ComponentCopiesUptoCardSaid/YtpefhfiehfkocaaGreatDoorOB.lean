/- Sets of lines -/
import Derived.Test.YtpefhfiehfkocaaGreatDoorRmI
import Derived.Test.YtpefhfiehfkocaaGreatDoorOA
import Derived.Test.YtpefhfiehfkocaaGreatDoorShelf
import Derived.Deep.RegionHeld3
import Derived.Shelf.SlSortCmp.NoneTotal
namespace Go.Proofs.YtpefhfiehfkocaaGreatDoor
open Go.RowKit Go.IntWalk
structure Sp where
 p:Bs
 f:Int
 t:Int deriving DecidableEq
structure Ln where
 p:Bs
 n:Int deriving DecidableEq
theorem tQ(a:Bs):¬a<a:=List.lt_irrefl a
theorem BD{a b c:Bs}(h:a<b)(k:b<c):a<c:=List.lt_trans h k
theorem xp9(a b:Bs):a<b\/a=b\/b<a:=by
 by_cases h:a<b;·exact .inl h
 ·rcases List.le_iff_lt_or_eq.1 (List.not_lt.1 h)with k|k;·exact .inr (.inr k)
  ·exact .inr (.inl k.symm)
theorem zK7(a b:Bs):Op.bytesLess a b=decide (a<b):=by rw[Go.Proofs.bytesLess_eq]
def Lt(p:Bs)(n:Int)(q:Bs)(m:Int):Prop:=p<q\/(p=q/\n<m)
def Le(p:Bs)(n:Int)(q:Bs)(m:Int):Prop:=p<q\/(p=q/\n<=m)
theorem Le.of_not{p q:Bs}{n m:Int}(h:¬Lt q m p n):Le p n q m:=by
 rcases xp9 p q with k|k|k;·exact .inl k
 ·subst k;by_cases a:m<n;·exact absurd (.inr ⟨rfl,a⟩) h
  ·exact .inr ⟨rfl,by omega⟩
 ·exact absurd (.inl k) h
theorem Le.trans{p q r:Bs}{a b c:Int}(h:Le p a q b)(k:Le q b r c):Le p a r c:=by
 rcases h with h|⟨rfl,h⟩<;>rcases k with k|⟨rfl,k⟩;·exact .inl (BD h k)
 ·exact .inl h
 ·exact .inl k
 ·exact .inr ⟨rfl,by omega⟩
theorem Le.anti{p q:Bs}{a b:Int}(h:Le p a q b)(k:Le q b p a):p=q/\a=b:=by
 rcases h with h|⟨rfl,h⟩<;>rcases k with k|⟨k0,k⟩;·exact absurd (BD h k) (tQ _)
 ·subst k0;exact absurd h (tQ _)
 ·exact absurd k (tQ _)
 ·exact⟨rfl,by omega⟩
def Beh(a b:Sp):Prop:=a.p<b.p\/(a.p=b.p/\a.t<b.f)
def qX(a b:Sp):Bool:=Op.bytesLess a.p b.p||(a.p==b.p&&decide (a.t<b.f))
theorem DM{a b:Sp}:qX a b=true↔Beh a b:=by
 unfold qX Beh;rw[zK7];simp
theorem Beh.trans{a b c:Sp}(e:b.f<b.t)(h:Beh a b)(k:Beh b c):Beh a c:=by
 rcases h with h|⟨h,d⟩<;>rcases k with k|⟨k,k2⟩;·exact .inl (BD h k)
 ·exact .inl (k▸h)
 ·exact .inl (h▸k)
 ·exact .inr ⟨h.trans k,by omega⟩
def pY(s:Sp):Bool:=decide (0<=s.f)&&decide (s.f<s.t)&&decide (s.t<=1024)
def nC(s:Sp):Bool:=pY s&&eH s.p
theorem yC{s:Sp}:nC s=true↔(0<=s.f/\s.f<s.t/\s.t<=1024)/\eH s.p=true:=by simp[nC,pY,and_assoc]
def mH:Option Sp->List Sp->Bool
 |_,[]=>true|none,s::r=>nC s&&mH (some s) r|some q,s::r=>nC s&&qX q s&&mH (some s) r
def dO(l:List Sp):Bool:=mH none l
def inS(s:Sp)(x:Ln):Bool:=s.p==x.p&&decide (s.f<=x.n)&&decide (x.n<s.t)
theorem jZ{s:Sp}{x:Ln}:inS s x=true↔s.p=x.p/\s.f<=x.n/\x.n<s.t:=by simp[inS,and_assoc]
def eG(l:List Sp)(x:Ln):Bool:=l.any fun s=>inS s x
theorem rJ{l:List Sp}{x:Ln}:eG l x=true↔∃s∈l,inS s x=true:=by simp[eG]
structure Canon(l:List Sp):Prop where
 ne:∀s∈l,s.f<s.t
 beh:l.Pairwise Beh
theorem Canon.tail{a:Sp}{l:List Sp}(h:Canon (a::l)):Canon l:=⟨fun s b=>h.ne s (lC _ b),(iC.1 h.beh).2⟩
theorem yf2{q:Sp}:∀{l:List Sp},mH (some q) l=true->q.f<q.t->(∀s∈l,nC s=true)/\(q::l).Pairwise Beh
 |[],_,_=>⟨by simp,by simp⟩|s::r,h,f=>by
  simp only[mH,bR]at h;obtain⟨⟨b,c⟩,d⟩:=h;have g:=(yC.1 b).1;obtain⟨k1,k2⟩:=yf2 d (by omega);refine⟨fun x a=>(dD.1 a).elim (fun e=>e▸b) (k1 x),iC.2 ⟨fun x a=>?_,k2⟩⟩;rcases dD.1 a with rfl|a;·exact DM.1 c
  ·exact(DM.1 c).trans (by omega) ((iC.1 k2).1 x a)
theorem vT:∀{l:List Sp},dO l=true↔(∀s∈l,nC s=true)/\Canon l:=by
 intro l;constructor
 ·intro h;cases l with
  |nil=>exact⟨by simp,⟨by simp,by simp⟩⟩|cons s r=>
   simp only[dO,mH,bR]at h;obtain⟨b,d⟩:=h;have c:=(yC.1 b).1;obtain⟨k1,k2⟩:=yf2 d (by omega);have j:∀x∈s::r,nC x=true:=fun x f=>(dD.1 f).elim (fun e=>e▸b) (k1 x);exact⟨j,⟨fun x f=>(yC.1 (j x f)).1.2.1,k2⟩⟩
 ·rintro⟨b,k⟩;have d:∀(l:List Sp)(q:Sp),(∀s∈l,nC s=true)->(q::l).Pairwise Beh->mH (some q) l=true:=by
   intro l;induction l with
   |nil=>intro q _ _;rfl|cons a r m=>
    intro q g i;simp only[mH,bR];exact⟨⟨g a (by simp),DM.2 ((iC.1 i).1 a (by simp))⟩,m a (fun s c=>g s (lC _ c)) (iC.1 i).2⟩
  cases l with
  |nil=>rfl|cons a r=>
   simp only[dO,mH,bR];exact⟨b a (by simp),d r a (fun s c=>b s (lC _ c)) k.beh⟩
theorem zq6{a:Sp}{l:List Sp}(h:Canon (a::l)){x:Ln}(f:eG (a::l) x=true):Le a.p a.f x.p x.n:=by
 obtain⟨s,c,e⟩:=rJ.1 f;obtain⟨b,d,g⟩:=jZ.1 e;rcases dD.1 c with rfl|c;·exact .inr ⟨b,d⟩
 ·have i:=h.ne a (by simp);rcases(iC.1 h.beh).1 s c with k|⟨k,k2⟩;·exact .inl (b▸k)
  ·exact .inr ⟨k.trans b,by omega⟩
theorem OX{a:Sp}{l:List Sp}(h:Canon (a::l)){x:Ln}(e:a.p=x.p)(j:x.n<=a.t):eG l x=false:=by
 rw[wJ];intro c;obtain⟨s,f,d⟩:=rJ.1 c;obtain⟨b,g,i⟩:=jZ.1 d;rcases(iC.1 h.beh).1 s f with k|⟨k,k2⟩;·rw[e,b]at k;exact tQ _ k
 ·omega
theorem WS:∀{l m:List Sp},Canon l->Canon m->(∀x,eG l x=eG m x)->l=m
 |[],[],_,_,_=>rfl|[],b::m,_,d,h=>by
  have:=h ⟨b.p,b.f⟩;have g:=d.ne b (by simp);have e:inS b ⟨b.p,b.f⟩=true:=jZ.2 ⟨rfl,by simp,g⟩;simp[eG,e]at this|a::l,[],c,_,h=>by
  have:=h ⟨a.p,a.f⟩;have g:=c.ne a (by simp);have e:inS a ⟨a.p,a.f⟩=true:=jZ.2 ⟨rfl,by simp,g⟩;simp[eG,e]at this|a::l,b::m,c,d,h=>by
  have v:=c.ne a (by simp);have w:=d.ne b (by simp);have q:eG (a::l) ⟨a.p,a.f⟩=true:=rJ.2 ⟨a,by simp,jZ.2 ⟨rfl,by simp,v⟩⟩;have r:eG (b::m) ⟨b.p,b.f⟩=true:=rJ.2 ⟨b,by simp,jZ.2 ⟨rfl,by simp,w⟩⟩;have t:=zq6 d (x:=⟨a.p,a.f⟩) (by rw[<-h];exact q);have u:=zq6 c (x:=⟨b.p,b.f⟩) (by rw[h];exact r);obtain⟨f,s⟩:=Le.anti u t;simp only at f s;have A:a.t=b.t:=by
   by_cases o:a.t<b.t
   ·have k1:eG (b::m) ⟨a.p,a.t⟩=true:=rJ.2 ⟨b,by simp,jZ.2 ⟨f.symm,by simp;omega,o⟩⟩;rw[<-h]at k1;have k2:=OX c (x:=⟨a.p,a.t⟩) rfl (by simp);have k3:inS a ⟨a.p,a.t⟩=false:=by rw[wJ];intro i;have:=(jZ.1 i).2.2;simp at this
    simp only[eG,List.any_cons,k3,Bool.false_or]at k1;rw[eG]at k2;rw[k2]at k1;cases k1
   ·by_cases p:b.t<a.t
    ·have k1:eG (a::l) ⟨b.p,b.t⟩=true:=rJ.2 ⟨a,by simp,jZ.2 ⟨f,by simp;omega,p⟩⟩;rw[h]at k1;have k2:=OX d (x:=⟨b.p,b.t⟩) rfl (by simp);have k3:inS b ⟨b.p,b.t⟩=false:=by rw[wJ];intro i;have:=(jZ.1 i).2.2;simp at this
     simp only[eG,List.any_cons,k3,Bool.false_or]at k1;rw[eG]at k2;rw[k2]at k1;cases k1
    ·omega
  have e:a=b:=by cases a;cases b;simp_all
  subst e;rw[WS c.tail d.tail fun x=>?_];have j:=h x;simp only[eG,List.any_cons]at j;cases n:inS a x with
  |false=>rw[n]at j;simpa[eG]using j|true=>
   obtain⟨k,y,z⟩:=jZ.1 n;rw[OX c k (by omega),OX d k (by omega)]
def kU(a:Sp):List Sp->List Sp
 |[]=>[a]|s::r=>if qX a s then a::kU s r else kU ⟨a.p,a.f,if a.t<s.t then s.t else a.t⟩ r
def mV:List Sp->List Sp
 |[]=>[]|s::r=>kU s r
def nF(a b:Sp):Prop:=Le a.p a.f b.p b.f
theorem ZS:∀(l:List Sp)(a:Sp),(∀s∈l,nC s=true)->nC a=true->(a::l).Pairwise nF->(∀s∈kU a l,nC s=true/\nF a s)/\Canon (kU a l)/\∀x,eG (kU a l) x=eG (a::l) x
 |[],a,_,g,_=>by
  have:=(yC.1 g).1;refine⟨fun s e=>?_,⟨fun s e=>?_,by simp[kU]⟩,fun x=>rfl⟩;·simp only[kU,gU]at e;subst e;exact⟨g,.inr ⟨rfl,by omega⟩⟩
  ·simp only[kU,gU]at e;subst e;omega|s::r,a,q,g,z=>by
  obtain⟨v,w⟩:=iC.1 z;have e:=q s (by simp);have u:=v s (by simp);have t:∀x∈r,nC x=true:=fun x d=>q x (lC _ d);have y:=(yC.1 g);have A:=(yC.1 e);unfold kU;split
  ·rename_i b;have b:=DM.1 b;obtain⟨i,m,p⟩:=ZS r s t e w;refine⟨fun x d=>?_,⟨fun x d=>?_,iC.2 ⟨fun x d=>?_,m.beh⟩⟩,fun x=>?_⟩
   ·rcases dD.1 d with rfl|d;·exact⟨g,.inr ⟨rfl,by omega⟩⟩
    ·exact⟨(i x d).1,Le.trans u (i x d).2⟩
   ·rcases dD.1 d with rfl|d;·omega
    ·exact m.ne x d
   ·have:=(i x d).2;rcases b with b|⟨b,B⟩<;>rcases this with k|⟨k,k2⟩;·exact .inl (BD b k)
    ·exact .inl (k▸b)
    ·exact .inl (b▸k)
    ·exact .inr ⟨b.trans k,by omega⟩
   ·have:=p x;simp only[eG,List.any_cons]at this⊢;rw[this]
  ·rename_i b;have b:¬Beh a s:=fun h=>b (DM.2 h);have o:a.p=s.p/\a.f<=s.f:=by
    rcases u with k|k;·exact absurd (.inl k) b
    ·exact k
   have C:s.f<=a.t:=by
    by_cases c:a.t<s.f;·exact absurd (.inr ⟨o.1,c⟩) b
    ·omega
   obtain⟨i,m,p⟩:=ZS r ⟨a.p,a.f,if a.t<s.t then s.t else a.t⟩ t (yC.2 ⟨by simp only;split<;>omega,y.2⟩) (iC.2 ⟨fun x d=>v x (lC _ d),(iC.1 w).2⟩);refine⟨i,m,fun x=>?_⟩;rw[p];simp only[eG,List.any_cons,<-Bool.or_assoc];congr 1;rw[Bool.eq_iff_iff,zD,jZ,jZ,jZ];simp only;constructor
   ·rintro⟨f,j,n⟩;by_cases c:x.n<a.t;·exact .inl ⟨f,j,c⟩
    ·exact .inr ⟨o.1▸f,by omega,by split at n<;>omega⟩
   ·rintro(⟨f,j,n⟩|⟨f,j,n⟩);·exact⟨f,j,by split<;>omega⟩
    ·exact⟨o.1.trans f,by omega,by split<;>omega⟩
theorem yZ9{l:List Sp}(h:∀s∈l,nC s=true)(b:l.Pairwise nF):dO (mV l)=true/\∀x,eG (mV l) x=eG l x:=by cases l with
 |nil=>exact⟨rfl,fun _=>rfl⟩|cons s r=>
  obtain⟨c,d,e⟩:=ZS r s (fun x a=>h x (lC _ a)) (h s (by simp)) b;exact⟨vT.2 ⟨fun x a=>(c x a).1,d⟩,e⟩
def lnS(s:Sp):List Ln:=(List.range (s.t-s.f).toNat).map fun(k:Nat)=>⟨s.p,s.f+k⟩
def AG(l:List Sp):List Ln:=l.flatMap lnS
def WB(a b:Ln):Bool:=Op.bytesLess a.p b.p||(a.p==b.p&&decide (a.n<b.n))
theorem zp2{a b:Ln}:WB a b=true↔Lt a.p a.n b.p b.n:=by
 unfold WB Lt;rw[zK7];simp
def pH(a b:Ln):Prop:=Le a.p a.n b.p b.n
def qE(a:Sp):List Ln->List Sp
 |[]=>[a]|x::r=>if a.p=x.p/\x.n<a.t then qE a r else if a.p=x.p/\x.n=a.t then qE ⟨a.p,a.f,a.t+1⟩ r else a::qE ⟨x.p,x.n,x.n+1⟩ r
def FP:List Ln->List Sp
 |[]=>[]|x::r=>qE ⟨x.p,x.n,x.n+1⟩ r
theorem zH2(x y:Ln):inS ⟨x.p,x.n,x.n+1⟩ y=(x==y):=by
 rw[Bool.eq_iff_iff,jZ,beq_iff_eq];simp only;constructor
 ·rintro⟨a,b,c⟩;cases x;cases y;simp only[Ln.mk.injEq]at*;exact⟨a,by omega⟩
 ·rintro rfl;exact⟨rfl,by omega,by omega⟩
theorem SP:∀(l:List Ln)(a:Sp),a.f<a.t->(∀x∈l,Le a.p (a.t-1) x.p x.n)->l.Pairwise pH->(∀s∈qE a l,nF a s)/\Canon (qE a l)/\∀x,eG (qE a l) x=(inS a x||l.contains x)
 |[],a,q,_,_=>by
  refine⟨fun s i=>?_,⟨fun s i=>?_,by simp[qE]⟩,fun x=>by simp[qE,eG]⟩;·simp only[qE,gU]at i;subst i;exact .inr ⟨rfl,by omega⟩
  ·simp only[qE,gU]at i;subst i;omega|y::r,a,q,u,D=>by
  obtain⟨w,t⟩:=iC.1 D;have v:=u y (by simp);have A:∀x∈r,Le a.p (a.t-1) x.p x.n:=fun x b=>u x (lC _ b);unfold qE;split
  ·rename_i h;obtain⟨e,p⟩:=h;have H:a.t-1<=y.n:=by
    rcases v with k|⟨_,k⟩;·rw[e]at k;exact absurd k (tQ _)
    ·exact k
   obtain⟨f,g,j⟩:=SP r a q A t;refine⟨f,g,fun x=>?_⟩;rw[j,pJ];cases E:x==y with
   |false=>rfl|true=>
    have:=beq_iff_eq.1 E;subst this;have:inS a x=true:=jZ.2 ⟨e,by omega,p⟩;rw[this];rfl
  ·rename_i h;split
   ·rename_i o;obtain⟨e,p⟩:=o;obtain⟨f,g,j⟩:=SP r ⟨a.p,a.f,a.t+1⟩ (by simp only;omega) (fun x b=>by
     have:=w x b;simp only[pH]at this;simp only;rw[<-e,p]at this;rcases this with k|⟨k,k2⟩;·exact .inl k
     ·exact .inr ⟨k,by omega⟩) t;refine⟨f,g,fun x=>?_⟩;rw[j,pJ,<-Bool.or_assoc];congr 1;rw[Bool.eq_iff_iff,zD,jZ,jZ,beq_iff_eq];simp only;constructor
    ·rintro⟨m,n,z⟩;by_cases c:x.n<a.t;·exact .inl ⟨m,n,c⟩
     ·refine .inr ?_;cases x;cases y;simp only[Ln.mk.injEq]at*;exact⟨m.symm.trans e,by omega⟩
    ·rintro(⟨m,n,z⟩|rfl);·exact⟨m,n,by omega⟩
     ·exact⟨e,by omega,by omega⟩
   ·rename_i o;have d:Beh a ⟨y.p,y.n,y.n+1⟩:=by
     rcases v with k|⟨k,k2⟩;·exact .inl k
     ·refine .inr ⟨k,?_⟩;simp only;have F:¬y.n<a.t:=fun c=>h ⟨k,c⟩;have G:¬y.n=a.t:=fun c=>o ⟨k,c⟩;omega
    obtain⟨f,g,j⟩:=SP r ⟨y.p,y.n,y.n+1⟩ (by simp only;omega) (fun x b=>by
     have:=w x b;simp only[pH]at this;simp only;rcases this with k|⟨k,k2⟩;·exact .inl k
     ·exact .inr ⟨k,by omega⟩) t;have C:nF a ⟨y.p,y.n,y.n+1⟩:=by
     rcases d with k|⟨k,k2⟩;·exact .inl k
     ·simp only at k2;exact .inr ⟨k,by simp only;omega⟩
    refine⟨fun x b=>?_,⟨fun x b=>?_,iC.2 ⟨fun x b=>?_,g.beh⟩⟩,fun x=>?_⟩
    ·rcases dD.1 b with rfl|b;·exact .inr ⟨rfl,by omega⟩
     ·exact Le.trans C (f x b)
    ·rcases dD.1 b with rfl|b;·exact q
     ·exact g.ne x b
    ·have:=f x b;rcases d with d|⟨d,B⟩<;>rcases this with k|⟨k,k2⟩;·exact .inl (BD d k)
     ·exact .inl (k▸d)
     ·exact .inl (d▸k)
     ·simp only at B k2;exact .inr ⟨d.trans k,by omega⟩
    ·have:=j x;rw[zH2]at this;rw[pJ,eG,List.any_cons,<-eG,this];congr 2;rw[Bool.eq_iff_iff,beq_iff_eq,beq_iff_eq];exact eq_comm
theorem xh8{l:List Ln}(a:l.Pairwise pH):Canon (FP l)/\∀x,eG (FP l) x=l.contains x:=by cases l with
 |nil=>exact⟨⟨by simp[FP],by simp[FP]⟩,fun _=>rfl⟩|cons y r=>
  obtain⟨c,d⟩:=iC.1 a;obtain⟨_,e,f⟩:=SP r ⟨y.p,y.n,y.n+1⟩ (by simp only;omega) (fun x b=>by
   have:=c x b;simp only[pH]at this;simp only;rcases this with k|⟨k,k2⟩;·exact .inl k
   ·exact .inr ⟨k,by omega⟩) d;refine⟨e,fun x=>?_⟩;rw[FP,f,zH2,pJ];congr 1;rw[Bool.eq_iff_iff,beq_iff_eq,beq_iff_eq];exact eq_comm
theorem ZM{s:Sp}{x:Ln}:x∈lnS s↔inS s x=true:=by
 rw[jZ];simp only[lnS,jE,jF];constructor;·rintro⟨k,d,rfl⟩;exact⟨rfl,by simp only;omega,by simp only;omega⟩
 ·rintro⟨a,b,c⟩;refine⟨(x.n-s.f).toNat,by omega,?_⟩;cases x;simp only[Ln.mk.injEq]at*;exact⟨a,by omega⟩
theorem ZL{l:List Sp}{x:Ln}:x∈AG l↔eG l x=true:=by
 rw[rJ,AG,List.mem_flatMap];constructor;·rintro⟨s,a,h⟩;exact⟨s,a,ZM.1 h⟩
 ·rintro⟨s,a,h⟩;exact⟨s,a,ZM.2 h⟩
theorem yX8(s:Sp):(lnS s).Pairwise pH:=by
 unfold lnS;rw[List.pairwise_map];refine List.pairwise_lt_range.imp fun{a b}h=>?_;exact .inr ⟨rfl,by simp only;omega⟩
theorem YZ:∀{l:List Sp},Canon l->(AG l).Pairwise pH
 |[],_=>by simp[AG]|s::r,h=>by
  rw[AG,List.flatMap_cons];refine IU.2 ⟨yX8 s,YZ h.tail,fun a e b f=>?_⟩;obtain⟨c,j,m⟩:=jZ.1 (ZM.1 e);obtain⟨u,i,g⟩:=rJ.1 (ZL.1 f);obtain⟨d,n,o⟩:=jZ.1 g;rcases(iC.1 h.beh).1 u i with k|⟨k,k2⟩;·exact .inl (c▸d▸k)
  ·exact .inr ⟨(c▸k.trans d),by omega⟩
def rK:List Ln->List Ln->List Ln
 |[],b=>b|x::a,[]=>x::a|x::a,y::b=>if WB x y then x::rK a (y::b)else y::rK (x::a) b termination_by a b=>a.length+b.length
theorem LD:∀(a b:List Ln)(x:Ln),x∈rK a b↔x∈a\/x∈b
 |[],b,x=>by simp[rK]|y::a,[],x=>by simp[rK]|y::a,z::b,x=>by
  unfold rK;split;·rw[dD,LD a (z::b) x,dD,dD,or_assoc]
  ·rw[dD,LD (y::a) b x,dD,dD];constructor
   ·rintro(h|h|h);·exact .inr (.inl h)
    ·exact .inl h
    ·exact .inr (.inr h)
   ·rintro(h|h|h);·exact .inr (.inl h)
    ·exact .inl h
    ·exact .inr (.inr h)termination_by a b=>a.length+b.length
theorem ZK:∀(a b:List Ln),a.Pairwise pH->b.Pairwise pH->(rK a b).Pairwise pH
 |[],b,_,e=>by simpa[rK]using e|y::a,[],d,_=>by simpa[rK]using d|y::a,z::b,d,e=>by
  obtain⟨g,m⟩:=iC.1 d;obtain⟨i,n⟩:=iC.1 e;unfold rK;split
  ·rename_i h;have j:pH y z:=by
    rcases zp2.1 h with k|⟨k,k2⟩;·exact .inl k
    ·exact .inr ⟨k,by omega⟩
   refine iC.2 ⟨fun x f=>?_,ZK a (z::b) m e⟩;rcases(LD _ _ _).1 f with c|c;·exact g x c
   ·rcases dD.1 c with rfl|c;·exact j
    ·exact Le.trans j (i x c)
  ·rename_i h;have l:pH z y:=Le.of_not fun k=>h (zp2.2 k);refine iC.2 ⟨fun x f=>?_,ZK (y::a) b d n⟩;rcases(LD _ _ _).1 f with c|c
   ·rcases dD.1 c with rfl|c;·exact l
    ·exact Le.trans l (g x c)
   ·exact i x c termination_by a b=>a.length+b.length
def eK(a b:List Sp):List Sp:=FP (rK (AG a) (AG b))
theorem zI9{a b:List Sp}(e:Canon a)(f:Canon b):Canon (eK a b)/\∀x,eG (eK a b) x=(eG a x||eG b x):=by
 obtain⟨c,d⟩:=xh8 (ZK _ _ (YZ e) (YZ f));refine⟨c,fun x=>?_⟩;rw[eK,d,Bool.eq_iff_iff,List.contains_iff_mem,LD,zD,ZL,ZL]
theorem LE{a b l:List Sp}(n:dO a=true)(o:dO b=true)(d:l.Perm (a++b))(p:l.Pairwise nF):mV l=eK a b/\dO (eK a b)=true:=by
 obtain⟨g,i⟩:=vT.1 n;obtain⟨j,k⟩:=vT.1 o;have m:∀s∈l,nC s=true:=fun s h=>by
  rcases iK.1 (d.mem_iff.1 h)with h|h;·exact g s h
  ·exact j s h
 obtain⟨f,t⟩:=yZ9 m p;obtain⟨q,r⟩:=zI9 i k;have e:mV l=eK a b:=WS (vT.1 f).2 q fun x=>by
  rw[t,r,Bool.eq_iff_iff,zD,rJ,rJ,rJ];constructor
  ·rintro⟨s,h,c⟩;rcases iK.1 (d.mem_iff.1 h)with h|h;·exact .inl ⟨s,h,c⟩
   ·exact .inr ⟨s,h,c⟩
  ·rintro(⟨s,h,c⟩|⟨s,h,c⟩);·exact⟨s,d.mem_iff.2 (iK.2 (.inl h)),c⟩
   ·exact⟨s,d.mem_iff.2 (iK.2 (.inr h)),c⟩
 exact⟨e,e▸f⟩
theorem KQ{a b:List Sp}(d:dO a=true)(e:dO b=true):dO (eK a b)=true/\∀x,eG (eK a b) x=(eG a x||eG b x):=by
 obtain⟨m,f⟩:=vT.1 d;obtain⟨n,g⟩:=vT.1 e;have l:((a++b).mergeSort fun x y=>decide (x.p<y.p)||(x.p==y.p&&decide (x.f<=y.f))).Pairwise nF:=by
  have h:∀x y:Sp,(decide (x.p<y.p)||(x.p==y.p&&decide (x.f<=y.f)))=true↔nF x y:=fun x y=>by simp[nF,Le]
  have k:=List.pairwise_mergeSort (le:=fun x y:Sp=>decide (x.p<y.p)||(x.p==y.p&&decide (x.f<=y.f))) (fun x y z i j=>(h x z).2 (Le.trans ((h x y).1 i) ((h y z).1 j))) (fun x y=>by
   by_cases c:nF x y;·rw[(h x y).2 c];rfl
   ·have:nF y x:=by
     have:=Le.of_not (p:=y.p) (n:=y.f) (q:=x.p) (m:=x.f) fun k=>c (by rcases k with k|⟨k,k2⟩;exact .inl k;exact .inr ⟨k,by omega⟩);exact this
    rw[(h y x).2 this];simp) (a++b);exact k.imp fun{x y}=>(h x y).1
 exact⟨(LE d e (List.mergeSort_perm _ _) l).2,(zI9 f g).2⟩
def Sp.row(s:Sp):List AV:=[.str s.p,.n s.f,.n s.t]
def jL:List AV->Option Sp
 |[.str p,.n f,.n t]=>some ⟨p,f,t⟩|_=>none
@[simp]theorem yD3(s:Sp):jL s.row=some s:=rfl
theorem PR{r:List AV}{s:Sp}(h:jL r=some s):r=s.row:=by
 unfold jL at h;split at h;·injection h with h;subst h;rfl
 ·cases h
def Ln.row(x:Ln):List AV:=[.str x.p,.n x.n]
def zt0:List AV->Option Ln
 |[.str p,.n n]=>some ⟨p,n⟩|_=>none
@[simp]theorem yC5(x:Ln):zt0 x.row=some x:=rfl
def aI(l:List Sp):List (List AV):=l.map Sp.row
@[simp]theorem xu8{l:List Sp}:(aI l).length=l.length:=by simp[aI]
theorem ze6{l:List Sp}{i:Nat}{s:Sp}(h:l[i]?=some s):(aI l)[i]?=some s.row:=by simp[aI,h]
@[simp]theorem DX(l:List Sp):dW jL (aI l)=some l:=mQ yD3 l
theorem rX{a:List (List AV)}{l:List Sp}(h:dW jL a=some l):a=aI l:=rC (enc:=Sp.row) (fun _ _=>PR) h
def ZF(l:List Ln):List (List AV):=l.map Ln.row
@[simp]theorem xQ5{l:List Ln}:(ZF l).length=l.length:=by simp[ZF]
@[simp]theorem xL1(l:List Ln):dW zt0 (ZF l)=some l:=mQ yC5 l
structure Org where
 inn:List Sp
 by_:List Sp
 lst:List Sp deriving DecidableEq
def Org.cells(o:Org):List AV:=[.sl (aI o.inn),.sl (aI o.by_),.sl (aI o.lst)]
def uV:List AV->Option Org
 |[.sl a,.sl b,.sl c]=>match dW jL a,dW jL b,dW jL c with
  |some a,some b,some c=>some ⟨a,b,c⟩|_,_,_=>none
 |_=>none
@[simp]theorem zt2(o:Org):uV o.cells=some o:=by simp[uV,Org.cells]
theorem PL{r:List AV}{o:Org}(h:uV r=some o):r=o.cells:=by
 unfold uV at h;split at h
 ·split at h
  ·rename_i a b c;injection h with h;subst h;rw[rX a,rX b,rX c];rfl
  ·cases h
 ·cases h
def okS(s:Sp):Bool:=decide (s.p.length<=2000000)
def okL(l:List Sp):Bool:=decide (l.length<=1000000)&&l.all okS
theorem xe2{l:List Sp}(h:okL l=true):l.length<=1000000/\∀s∈l,s.p.length<=2000000:=by simpa[okL,okS]using h
def okO(o:Org):Bool:=okL o.inn&&okL o.by_&&okL o.lst
theorem xe4{o:Org}(h:okO o=true):okL o.inn=true/\okL o.by_=true/\okL o.lst=true:=by simpa[okO,and_assoc]using h
theorem WK{G:Gam}(s:Sp)(a:Bool)(h:aA):opV G a h .box (some [.agg s.row])=some (.ptr h.length 0,h++[.cells s.row]):=jN (h:=h) (v:=.agg s.row) (by simp[AV.cells,Sp.row])
theorem OW{G:Gam}(o:Org)(a:Bool)(h:aA):opV G a h .box (some [.agg o.cells])=some (.ptr h.length 0,h++[.cells o.cells]):=jN (h:=h) (v:=.agg o.cells) (by simp[AV.cells,Org.cells])
theorem yb5{h:aA}{a b c:AV}{s:Sp}:bB 3 (h++[.cells [a,b,c]]) (.ptr h.length 0) (.agg s.row)=some (h++[.cells s.row]):=by
 have:=qM (h:=h++[Blk.cells [a,b,c]]) (l:=h.length) (n:=3) (vs:=[a,b,c]) (us:=s.row) (by simp) rfl rfl (by omega) rfl;simpa[-aQ]using this
theorem zG3{l:List Sp}{i:Nat}{s:Sp}(h:l[i]?=some s)(H:aA):bN 3 H (.sl (aI l)) (.n (i:Int))=some (.fptr s.row 0):=by
 have a:=ze6 h;have:s.row.length=3:=rfl;simp[bN,a,this]
theorem zJ8(s:Sp)(H:aA):aB 3 true H (.fptr s.row 0)=some (.agg s.row):=by simp[aB,cut,aD,Sp.row]
section
attribute[local congr]ite_congr
end
section
def uF:List AV->Option AV
 |[.agg r]=>match jL r with
  |some s=>some (.bool (pY s))|none=>none
 |_=>none
def uD:List AV->Option AV
 |[.agg a,.agg b]=>match jL a,jL b with
  |some a,some b=>some (.bool (qX a b))|_,_=>none
 |_=>none
theorem yY4{a b:Int}:ltB a b=decide (a<b):=rfl
attribute[local congr]ite_congr
theorem yU7{G:Gam}:PW G Mc.cp Rs.cp Ks.cp uF:=by
 intro l r a;unfold uF at a;split at a
 ·split at a
  ·rename_i m s h;injection a with a;subst a;obtain rfl:=PR h;have c:=fun k=>WK (G:=G) s k [];have i:∀b:aA,aB 1 false (.cells s.row::b) (.ptr 0 1)=some (.n s.f):=fun b=>bT (l:=0) rfl rfl;have j:∀b:aA,aB 1 false (.cells s.row::b) (.ptr 0 2)=some (.n s.t):=fun b=>bT (l:=0) rfl rfl;have e:pY s=(!ltB s.f 0&&ltB s.f s.t&&!ltB 1024 s.t):=by simp only[pY,yY4,<-decide_not,Int.not_lt]
   rw[aT,e];simp at c;cases d:ltB s.f 0<;>cases f:ltB s.f s.t<;>cases g:ltB 1024 s.t<;>simp[Mc.cp,Ks.cp,aC,c,i,j,d,f,g,aJ,Rs.cp,-aB]
  ·cases a
 ·cases a
theorem yq1{G:Gam}:PW G Mc.cv Rs.cv Ks.cv uD:=by
 intro t r c;unfold uD at c;split at c
 ·split at c
  ·rename_i q s a b k l;injection c with c;subst c;obtain rfl:=PR k;obtain rfl:=PR l;have f:=fun d=>WK (G:=G) a d [];have g:=fun d=>WK (G:=G) b d [.cells a.row];have m:aB 1 false [.cells a.row,.cells b.row] (.ptr 0 0)=some (.str a.p):=bT (l:=0) rfl rfl;have n:aB 1 false [.cells a.row,.cells b.row] (.ptr 0 2)=some (.n a.t):=bT (l:=0) rfl rfl;have o:aB 1 false [.cells a.row,.cells b.row] (.ptr 1 0)=some (.str b.p):=bT (l:=1) rfl rfl;have p:aB 1 false [.cells a.row,.cells b.row] (.ptr 1 1)=some (.n b.f):=bT (l:=1) rfl rfl;have e:qX a b=(Op.bytesLess a.p b.p||(a.p==b.p&&ltB a.t b.f)):=rfl;rw[aT,e];simp at f g;generalize a.row=q at*;generalize b.row=s at*;cases h:Op.bytesLess a.p b.p<;>cases i:a.p==b.p<;>cases j:ltB a.t b.f<;>simp[Mc.cv,Ks.cv,aC,f,g,m,n,o,p,eC,h,i,j,aJ,Rs.cv,-aB]
  ·cases c
 ·cases c
theorem xC5{G:Gam}(h:G Fn.cp=some (.pure uF))(s:Sp)(a:Bool)(H:aA):opV G a H (.call Fn.cp) (some [.agg s.row])=some (.bool (pY s),H):=cU h (us:=[.agg s.row]) rfl (by simp[uF]) (.inl rfl)
theorem ye8{G:Gam}{f:FuncId}(h:G f=some (.pure uD))(a b:Sp)(c:Bool)(H:aA):opV G c H (.call f) (some [.agg a.row,.agg b.row])=some (.bool (qX a b),H):=cU h (us:=[.agg a.row,.agg b.row]) rfl (by simp[uD]) (.inl rfl)
end
def tM(l:List Sp)(i:Nat):Option Sp:=if i=0 then none else l[i-1]?
theorem xj5{l:List Sp}{i:Nat}{s:Sp}(h:l[i]?=some s):tM l (i+1)=some s:=by simp[tM,h]
def yL:List AV->Option AV
 |[.sl a]=>match dW jL a with
  |some l=>if okL l=true then some (.bool (dO l))else none|none=>none
 |_=>none
theorem NK{G:Gam}{f:FuncId}(h:G f=some (.pure yL)){l:List Sp}(a:okL l=true)(b:Bool)(H:aA):opV G b H (.call f) (some [.sl (aI l)])=some (.bool (dO l),H):=cU h (us:=[.sl (aI l)]) rfl (by simp only[yL,DX];rw[if_pos a]) (.inl rfl)
theorem xi4{G:Gam}(a:G Fn.cl=some (.pure yH)){s:Bs}(c:s.length<=2000000)(b:Bool)(h:aA):opV G b h (.call Fn.cl) (some [.str s])=some (.n (if eH s then 0 else 2),h):=cU a (us:=[.str s]) rfl (tZ (A:=eStr) (R:=eInt) (f:=fun s=>if s.length<4294967281 then some (if eH s then 0 else 2)else none) (x:=s) (r:=if eH s then 0 else 2) (if_pos (by omega))) (.inl rfl)
theorem xi2(s:Bs):eqB (if eH s then 0 else 2) 0=eH s:=by cases eH s<;>rfl
theorem xG9{i:Nat}(a:0<i)(h:i<=big):IntKind.i64.wrap ((i:Int)-1)=((i-1:Nat):Int):=by
 unfold big at h;rw[i64_in _ ⟨by omega,by omega⟩];omega
theorem ye4{a:List (Nat×AV)}{h:aA}(b:cQ 0 a=true):trunc 0 a h=[]:=by unfold trunc;simp[b,bG]
theorem zJ5(G:Gam)(o:G Fn.cp=some (.pure uF))(n:G Fn.cv=some (.pure uD))(p:G Fn.cl=some (.pure yH))(l:List Sp)(D:l.length<=1000000)(r:∀s∈l,s.p.length<=2000000):∀(a:List Sp)(i:Nat),l.drop i=a->i<=l.length->cY G [3,4] Mc.bt_L0 0 [.blk 0,.seq (.seq (.reg [Kb 2 true]) .ret)] (aJ Rs.bt (.bool (mH (tM l i) a))) [(0,.sl (aI l)),(2,.F),(3,.junk),(4,.junk),(5,.sl (aI l)),(6,.n l.length),(7,.n i)] []
 |[],i,g,C=>by
  have J:=drop_nil g;have q:ltB (i:Int) (l.length:Int)=false:=dQ.2 (by omega);have e:mH (tM l i) []=true:=by cases tM l i<;>rfl
  refine bQ (Mc.bt_L0.eq_1) ?_;simp[q,e,fJ (n:=0) (h:=[]) rfl,aJ,Rs.bt]|s::a,i,g,C=>by
  obtain⟨q,h,F⟩:=lG g;have t:ltB (i:Int) (l.length:Int)=true:=cH.2 (by omega);have u:=iJ (i:=i) (by unfold big;omega);have w:=zG3 h;have x:=zJ8 s;have B:bB 3 [.cells [.str [],.n 0,.n 0]] (.ptr 0 0) (.agg s.row)=some [.cells s.row]:=yb5 (h:=[]);have A:aB 3 true [.cells s.row] (.ptr 0 0)=some (.agg s.row):=by simp[aB,cut,aD,Sp.row]
  have z:aB 1 false [.cells s.row] (.ptr 0 0)=some (.str s.p):=bT (l:=0) rfl rfl;have c:=xC5 o s;have d:=xi4 (G:=G) p (r s (gJ h));have b:=xi2 s.p;generalize(if eH s.p then(0:Int)else 2)=K at d b;have j:=zJ5 G o n p l D r a (i+1) F (by omega);rw[xj5 h]at j;refine bQ (Mc.bt_L0.eq_1) ?_;rw[fJ (n:=0) (h:=[]) rfl];by_cases m:i=0
  ·have e:mH (tM l i) (s::a)=(pY s&&eH s.p&&mH (some s) a):=by simp only[tM,if_pos m];rfl
   have f:ltB 0 (i:Int)=false:=dQ.2 (by omega);rw[e];generalize aI l=R at*;cases k1:pY s<;>cases k2:eH s.p<;>rw[k1]at c<;>rw[k2]at b<;>simp[t,w,x,B,A,z,c,d,b,f,u,aJ,Rs.bt,-aB,-aQ];refine dT ?_;rw[ye4 (by simp[cQ,low])];simpa[Rs.bt]using j
  ·obtain⟨y,v⟩:∃y,l[i-1]?=some y:=⟨_,gI (by omega)⟩;have f:ltB 0 (i:Int)=true:=cH.2 (by omega);have E:=xG9 (i:=i) (by omega) (by unfold big;omega);have H:=zG3 v;have I:=zJ8 y;have k:=ye8 n y s;have e:mH (tM l i) (s::a)=(pY s&&eH s.p&&qX y s&&mH (some s) a):=by simp only[tM,if_neg m,v];rfl
   rw[e];generalize aI l=R at*;cases k1:pY s<;>cases k3:qX y s<;>cases k2:eH s.p<;>rw[k1]at c<;>rw[k2]at b<;>rw[k3]at k<;>simp[t,w,H,x,I,B,A,z,c,d,k,b,f,u,E,aJ,Rs.bt,-aB,-aQ];refine dT ?_;rw[ye4 (by simp[cQ,low])];simpa[Rs.bt]using j
theorem yW5{G:Gam}(c:G Fn.cp=some (.pure uF))(b:G Fn.cv=some (.pure uD))(d:G Fn.cl=some (.pure yH)):PW G Mc.bt Rs.bt Ks.bt yL:=by
 intro h r a;unfold yL at a;split at a
 ·split at a
  ·rename_i l e;split at a
   ·rename_i f;injection a with a;subst a;obtain rfl:=rX e;obtain⟨k1,k2⟩:=xe2 f;have g:=zJ5 G c b d l k1 k2 l 0 rfl (by omega);rw[aT];simp[Mc.bt,Ks.bt,aC,aW];simpa[tM,dO]using g
   ·cases a
  ·cases a
 ·cases a
section
variable{α:Type}
end
theorem xv2(x:Sp):x.row.length=3:=rfl
abbrev P2:aA:=[.arr 2 0 [] true]
section
open Go.Lib Go.Sort Go.Shelf
set_option maxHeartbeats 1000000 in set_option maxRecDepth 100000 in theorem WX(x y:Int)(w:World):Calls Tryz.prog 211 #[.int .i64 x,.int .i64 y] w fun e w'=>e=.returned (.int .i64 (Lib.compareInt x y))/\w'=w:=by
 rcases Int.lt_trichotomy x y with h|h|h
 ·have h1:decide (x<y)=true:=decide_eq_true h;have h2:Lib.compareInt x y=-1:=by simp[Lib.compareInt,h]
  rw[h2];go_enter Tryz.func211,Tryz.ntmps211;go_wp2_with(go_at_call 300;refine(Tryz.cmp_isNaN_int2 _ _).mono ?_;rintro e w'⟨rfl,rfl⟩);go_ret;exact⟨rfl,rfl⟩
 ·subst h;have h1:decide (x<x)=false:=decide_eq_false (by omega);have h2:Lib.compareInt x x=0:=by simp[Lib.compareInt]
  rw[h2];go_enter Tryz.func211,Tryz.ntmps211;go_wp2_with(go_at_call 300;refine(Tryz.cmp_isNaN_int2 _ _).mono ?_;rintro e w'⟨rfl,rfl⟩);go_ret;exact⟨rfl,rfl⟩
 ·have h1:decide (x<y)=false:=decide_eq_false (by omega);have h3:decide (y<x)=true:=decide_eq_true h;have h2:Lib.compareInt x y=1:=by simp[Lib.compareInt,show¬x<y by omega,h]
  rw[h2];go_enter Tryz.func211,Tryz.ntmps211;go_wp2_with(go_at_call 300;refine(Tryz.cmp_isNaN_int2 _ _).mono ?_;rintro e w'⟨rfl,rfl⟩);go_ret;exact⟨rfl,rfl⟩
def or2(a b:Int):Int:=if a=0 then b else a
set_option maxHeartbeats 2000000 in set_option maxRecDepth 100000 in theorem yx4(b c:Nat)(x y:Int)(w:World)(hx:w.cell? ⟨b,0,none⟩=some (.int .i64 x))(hy:w.cell? ⟨b,1,none⟩=some (.int .i64 y))(_:2<=c):Calls Tryz.prog 210 #[.slice (some ⟨b,0,none⟩) 2 c] w fun e w'=>e=.returned (.int .i64 (or2 x y))/\w'=w:=by
 by_cases h:x=0
 ·subst h;by_cases k:y=0
  ·subst k;rw[show or2 0 0=0 from rfl];go_enter Tryz.func210,Tryz.ntmps210;go_wp2;refine wp_loop_rounds 3 ?_;rw[rounds_succ];go_wp2;rw[rounds_succ];go_wp2;rw[rounds_succ];go_wp2;go_ret;exact⟨rfl,rfl⟩
  ·have f1:(y==0)=false:=by simpa using k
   have f2:(y !=0)=true:=by simpa using k
   rw[show or2 0 y=y from rfl];go_enter Tryz.func210,Tryz.ntmps210;go_wp2;refine wp_loop_rounds 3 ?_;rw[rounds_succ];go_wp2;rw[rounds_succ];go_wp2;go_ret;exact⟨rfl,rfl⟩
 ·have f1:(x==0)=false:=by simpa using h
  have f2:(x !=0)=true:=by simpa using h
  rw[show or2 x y=x from if_neg h];go_enter Tryz.func210,Tryz.ntmps210;go_wp2;refine wp_loop_rounds 3 ?_;rw[rounds_succ];go_wp2;go_ret;exact⟨rfl,rfl⟩
end
section
open Go.Lib Go.Sort Go.Shelf
def pQ(x y:Sp):Int:=or2 (Lib.compareBytes x.p y.p) (Lib.compareInt x.f y.f)
def jH(x:Sp):List Value:=[.string ⟨x.p.toArray⟩,.int .i64 x.f,.int .i64 x.t]
def GrW(W b:World):Prop:=∃q a,b=Go.Sort.grow (W.drewN q) a
theorem GrW.refl(W:World):GrW W W:=⟨0,#[],by rw[Go.Sort.grow_empty];rfl⟩
theorem GrW.alloc{W a:World}(h:GrW W a)(o:Obj):GrW W (a.alloc o):=by
 obtain⟨q,b,rfl⟩:=h;exact⟨q,b++#[o],by rw[alloc_eq_grow,grow_grow]⟩
theorem GrW.drew{W a:World}(h:GrW W a):GrW W a.drew:=by
 obtain⟨q,b,rfl⟩:=h;exact⟨q+1,b,rfl⟩
theorem jV{w:World}{c:Array Value}{e:TypeId}{n i:Nat}(h:n=w.heap.size):(w.alloc (.cells c e)).cell? ⟨n,i,none⟩=c[i]?:=by
 subst h;have a:(w.alloc (.cells c e)).heap[w.heap.size]?=some (.cells c e):=World.alloc_heap_new w _;show(match(w.alloc (.cells c e)).heap[w.heap.size]? with|some (.cells c _ _)=>if(none:Option _).isSome then none else c[i]?|_=>none)=_;rw[a];rfl
set_option maxHeartbeats 4000000 in set_option maxRecDepth 100000 in theorem yy2(x y:Sp)(W:World):Calls Tryz.prog 315 #[.agg (jH x).toArray,.agg (jH y).toArray] W fun e w'=>e=.returned (.int .i64 (pQ x y))/\GrW W w':=by
 obtain⟨p,f,t⟩:=x;obtain⟨p',f',t'⟩:=y;have hs:∀W',Calls Tryz.prog 125 #[.string ⟨p.toArray⟩,.string ⟨p'.toArray⟩] W' fun e w'=>e=.returned (.int .i64 (Lib.compareBytes p p'))/\w'=W':=fun W'=>by
  have h:Calls Tryz.prog 125 #[.string ⟨p.toArray⟩,.string ⟨p'.toArray⟩] W' fun e w'=>e=.returned (.int .i64 (Lib.compareBytes (ByteArray.mk p.toArray).data.toList (ByteArray.mk p'.toArray).data.toList))/\w'=W':=Tryz.strings_Compare ⟨p.toArray⟩ ⟨p'.toArray⟩ W';simpa using h
 have hi:∀W',Calls Tryz.prog 211 #[.int .i64 f,.int .i64 f'] W' fun e w'=>e=.returned (.int .i64 (Lib.compareInt f f'))/\w'=W':=fun W'=>WX f f' W';show Calls Tryz.prog 315 #[.agg #[.string ⟨p.toArray⟩,.int .i64 f,.int .i64 t],.agg #[.string ⟨p'.toArray⟩,.int .i64 f',.int .i64 t']] W _;have e:pQ ⟨p,f,t⟩ ⟨p',f',t'⟩=or2 (Lib.compareBytes p p') (Lib.compareInt f f'):=rfl;rw[e];generalize Lib.compareBytes p p'=c1 at hs⊢;generalize Lib.compareInt f f'=c2 at hi⊢;go_enter Tryz.func315,Tryz.ntmps315;go_wp2;go_region_held3(fun w'=>w'.cell? ⟨W.heap.size,0,none⟩=some (.string ⟨p.toArray⟩)/\w'.cell? ⟨W.heap.size,1,none⟩=some (.int .i64 f)/\w'.cell? ⟨W.heap.size+1,0,none⟩=some (.string ⟨p'.toArray⟩)/\w'.cell? ⟨W.heap.size+1,1,none⟩=some (.int .i64 f'))(go_keep)(first|(go_at_call 125;refine(hs _).mono ?_;rintro e w'⟨rfl,rfl⟩)|(go_at_call 211;refine(hi _).mono ?_;rintro e w'⟨rfl,rfl⟩)|(go_at_call 210;refine(yx4 _ _ c1 c2 _ (by(try simp only[World.cell?_drew]);rw[jV (by simp)];rfl) (by(try simp only[World.cell?_drew]);rw[jV (by simp)];rfl) (by omega)).mono ?_;rintro e w'⟨rfl,rfl⟩));all_goals go_wp2
 all_goals go_ret
 all_goals exact⟨rfl,by repeat(first|exact GrW.refl _|apply GrW.alloc|apply GrW.drew)⟩
end
section
open Go.Lib Go.Sort Go.Shelf
instance:Inhabited Sp:=⟨⟨[],0,0⟩⟩
theorem zr7:∀a b:Bs,Lib.compareBytes a b=0↔a=b
 |[],[]=>by simp[Lib.compareBytes]|[],_::_=>by simp[Lib.compareBytes]|_::_,[]=>by simp[Lib.compareBytes]|a::x,b::y=>by
  have g:=zr7 x y;simp only[Lib.compareBytes];by_cases c:a<b
  ·have:a≠b:=fun e=>by subst e;exact UInt8.lt_irrefl _ c
   simp[c,this]
  ·by_cases d:b<a
   ·have:a≠b:=fun e=>by subst e;exact UInt8.lt_irrefl _ d
    simp[c,d,this]
   ·have f:a=b:=UInt8.le_antisymm (UInt8.not_lt.1 d) (UInt8.not_lt.1 c);subst f;simpa[c]using g
theorem zq7(x y:Sp):Go.Proofs.ltOf pQ x y=true↔Lt x.p x.f y.p y.f:=by
 have a:=WY x.p y.p;have b:=zr7 x.p y.p;unfold Go.Proofs.ltOf pQ or2 Lt;rw[fD];by_cases c:Lib.compareBytes x.p y.p=0
 ·rw[if_pos c];have e:=b.1 c;have:¬x.p<y.p:=by rw[e];exact tQ _
  simp only[e,true_and,Lib.compareInt];split;·rename_i h;simp[h]
  ·split<;>simp_all
 ·rw[if_neg c];have e:¬x.p=y.p:=fun h=>c (b.2 h);simp only[e,false_and,or_false];have:(Lib.compareBytes x.p y.p<0)↔x.p<y.p:=by
   constructor;·intro h;have:=a.symm.trans (decide_eq_true h);simpa using this
   ·intro h;have:=a.trans (decide_eq_true h);simpa using this
  exact this
theorem WU(x y:Sp):Go.Proofs.ltOf pQ x y=false↔nF y x:=by
 rw[wJ,Ne,zq7];constructor;·intro h;exact Le.of_not h
 ·rintro(h|⟨h,a⟩)(k|⟨k,k2⟩);·exact tQ _ (BD h k)
  ·rw[k]at h;exact tQ _ h
  ·rw[h]at k;exact tQ _ k
  ·omega
theorem yc7:Go.Sort.SWO (Go.Proofs.ltOf pQ)where
 irrefl x:=(WU x x).2 (.inr ⟨rfl,by omega⟩)
 trans x y z a b:=by
  rw[zq7]at a b⊢;rcases a with h|⟨h,c⟩<;>rcases b with k|⟨k,d⟩;·exact .inl (BD h k)
  ·exact .inl (k▸h)
  ·exact .inl (h▸k)
  ·exact .inr ⟨h.trans k,by omega⟩
 ntrans x y z a b:=by
  rw[WU]at a b⊢;exact Le.trans b a
def gX(a:List Sp):List Sp:=(pdq (Go.Proofs.ltOf pQ) a.toArray 0 a.toArray.size (Lib.bitLen a.toArray.size) true true).toList
theorem GE(a:List Sp):(gX a).Perm a/\(gX a).Pairwise nF/\(gX a).length=a.length:=by
 obtain⟨c,d⟩:=pdq_sorts (Go.Proofs.ltOf pQ) yc7 a.toArray 0 a.toArray.size (Lib.bitLen a.toArray.size) true true (lD _) (bP _) (Or.inl rfl);unfold gX;generalize pdq (Go.Proofs.ltOf pQ) a.toArray 0 a.toArray.size (Lib.bitLen a.toArray.size) true true=b at c d⊢;have l:b.size=a.length:=by rw[c.1];simp
 refine⟨?_,?_,by simpa using l⟩
 ·have:=c.2.2;rw[show b.extract 0 a.toArray.size=b by rw[<-c.1];exact Array.extract_size]at this;simpa using this
 ·rw[List.pairwise_iff_getElem];intro i j e h g;have f:i<b.size:=by simpa using e
  have k:j<b.size:=by simpa using h
  have:=d i j (lD _) g (by simp;omega);rw[kO b j k,kO b i f,WU]at this;simpa using this
theorem EB(x:Sp):(jH x).length=3:=rfl
theorem YA(a:List Sp):(Go.Sort.flatK jH 3 a.toArray).toList=(a.map jH).flatten:=by
 apply kL;intro i;by_cases c:i<a.length*3
 ·have d:i/3<a.length:=by omega
  have b:i%3<3:=by omega
  have f:(Go.Sort.flatK jH 3 a.toArray).toList[i]?=some ((jH a[i/3])[i%3]'(by rw[EB];exact b)):=by
   rw[gI (by simp;exact c)];have:=Go.Sort.get_flatK jH 3 a.toArray i (by simpa using c);rw[kO _ i (by simpa using c)]at this;rw[Array.getElem_toList,this];rw[kO a.toArray (i/3) (by simpa using d),List.getElem_toArray,kO _ (i%3) (by rw[EB];exact b)]
  have e:=QJ jH EB a (i/3) (i%3) a[i/3] _ (by simp[d]) (gI (by rw[EB];exact b));rw[show i/3*3+i%3=i by omega]at e;rw[f,e]
 ·rw[uM.2 (by simp;omega),uM.2 (by rw[QK jH EB];omega)]
theorem zU8{C:Cx}:∀a:List Sp,RelL C (a.map Sp.row).flatten (a.map jH).flatten
 |[]=>.nil|⟨p,f,t⟩::r=>.cons (.str p) (.cons (.int .i64 f) (.cons (.int .i64 t) (zU8 r)))
theorem zU9{C:Cx}:∀(b:List Sp){a:List Value},RelL C (b.map Sp.row).flatten a->a=(b.map jH).flatten
 |[],a,h=>h.inv_nil|⟨p,f,t⟩::r,a,h=>by
  obtain⟨k,g,rfl,c,h⟩:=RelL.inv_cons (a:=.str p) h;obtain⟨l,i,rfl,d,h⟩:=RelL.inv_cons (a:=.n f) h;obtain⟨m,j,rfl,e,h⟩:=RelL.inv_cons (a:=.n t) h;rw[eD c,dK d,dK e,zU9 r h];rfl
theorem xf4(c:List Sp):∀u∈(c.map jH).flatten,u.oneCell'=true:=fun u a=>by
 obtain⟨l,b,a⟩:=List.mem_flatten.1 a;obtain⟨x,_,rfl⟩:=jE.1 b;simp[jH]at a;rcases a with rfl|rfl|rfl<;>rfl
theorem yS5{B:Base}{C:Cx}{h:aA}{w:World}(m:Inv B C h w){l g:Nat}{a:List Sp}{r:RowAt}{o:Bool}(n:h[l]?=some (.arr 3 g (a.map Sp.row) o))(d:C.ar l g=some (some r)):Go.Sort.HoldsK jH 3 w r.block 0 a.toArray/\r.block<w.heap.size:=by
 rcases m.ok l _ n with⟨k1,_⟩|⟨q,i,k1,k2,k3,k4,k5,k6,k7,k8,p,k9,k10,k11,k12⟩;·rw[d]at k1;cases k1
 rw[d]at k1;injection k1 with k1;injection k1 with k1;subst k1;refine⟨fun j c=>?_,fM k6⟩;have e:=zU9 a k8;rw[<-YA]at e;have f:j<(Go.Sort.flatK jH 3 a.toArray).toList.length:=by simpa using c
 have k:j<r.cap*r.size:=by rw[k11];simp at c k3;omega
 refine⟨?_,by rw[eT];exact RowAt.thaw k6 k⟩;rw[eT,cell_of_heap k6,<-uJ];have b:(i.toList.take ((a.map Sp.row).length*r.size))[j]?=some ((Go.Sort.flatK jH 3 a.toArray).toList[j]'f):=by rw[e];exact gI f
 rw[fS]at b;split at b;·rw[b,kO _ j c];simp
 ·cases b
def wA(a:FuncId):List AV->aA->Option (AV×aA)
 |[.own l c n,.fn g []],h=>match h[l]? with
  |some (.arrX false none 3 e d true)=>match dW jL d with
   |some b=>if g=a/\c=e/\n=b.length/\n<=big then some (.tup [],h.set l (.arr 3 c (aI (gX b)) true))else none|none=>none
  |_=>none
 |[.nils,.fn g []],h=>if g=a then some (.tup [],h)else none|_,_=>none
theorem yo4:∀w,(isAgg 58).run Tryz.prog w=.ok true w:=qI (by kernel_rfl)
theorem xs5:∀w,(Go.sizeOf 58).run Tryz.prog w=.ok 3 w:=jC (by kernel_rfl)
theorem xu2(a b c:Nat)(d:Array Sp)(w:World)(h:HoldsK jH 3 w a b d)(i:a<w.heap.size)(j:d.size<4611686018427387904):Calls Tryz.prog 314 #[.slice (some ⟨a,b,none⟩) d.size c,.func (.func 315) #[] #[]] w fun e k=>e=.returned (.tuple #[])/\∃n g,k=Go.Proofs.sortWorldK jH 3 w a b n (pdq (Go.Proofs.ltOf pQ) d 0 d.size (Lib.bitLen d.size) true true) g:=AnyQ.slices_SortFunc_eq Tryz.sortSpan 3 yo4 xs5 jH EB (fun x v f=>by simp[jH]at f;rcases f with rfl|rfl|rfl<;>rfl) pQ yc7 315 #[] a b c d w (Go.Proofs.enters_of Tryz.func315 (by kernel_rfl) rfl) (fun m g l _ x y=>yy2 x y _) h i j
theorem ya7(p:Option Addr)(a:Nat)(w:World):Calls Tryz.prog 314 #[.slice p 0 a,.func (.func 315) #[] #[]] w fun e b=>e=.returned (.tuple #[])/\b=w:=AnyF.slices_SortFunc_none Tryz.sortSpan p a _ w
theorem zx7{C:Cx}{g:FuncId}{v:Value}(h:Rel C (.fn g []) v):v=.func (.func g) #[] #[]:=by cases h with|fn _ _ b a _=>
 have:b=#[]:=by apply IH;simpa using a.symm
 subst this;rfl
theorem xu3(J:Gv):gG Tryz.prog J 314 (wA 315):=by
 intro a1 C h w a2 r h' G a3 s d a;unfold wA at a;split at a
 ·rename_i l Z n g;split at a
  ·rename_i b2 b1 t;split at a
   ·rename_i b M;have:=rX M;subst this;split at a
    ·rename_i k;obtain⟨rfl,rfl,rfl,K⟩:=k;simp only[aE,aR]at a;obtain⟨rfl,rfl⟩:=a;obtain⟨v,A,u,o,d⟩:=d.inv_cons;obtain⟨B,A,rfl,y,d⟩:=d.inv_cons;have:=d.inv_nil;subst this;have z:G=#[v,B]:=by apply kK;simpa using u
     subst z;obtain rfl:=zx7 y;obtain⟨s1,s2,F⟩:=GE b;by_cases D:b=[]
     ·subst D;have S:gX []=[]:=List.length_eq_zero_iff.1 F;have O:h.set l (.arr 3 Z (aI (gX [])) true)=h:=by
       obtain⟨P,e⟩:=aF.1 t;refine kL fun i=>?_;rw[iZ];split;·rename_i I;subst I;rw[t];simp[S,aI]
       ·rfl
      have x:∃p f,v=.slice p 0 f:=by cases o with
       |ownnil _ _ j=>exact⟨_,_,rfl⟩|own _ _ _ r j L=>exact⟨_,_,rfl⟩
      obtain⟨p,f,rfl⟩:=x;rw[O];refine(ya7 p f w).mono fun e H m=>?_;obtain⟨rfl,rfl⟩:=m;exact⟨_,C,rfl,.refl C,s,.tup [] #[] rfl (fun i c v h=>by simp at h),.refl _ _⟩
     have h0:0<b.length:=zH.2 D;generalize Q:b.length=n at o;cases o with
     |ownnil _ _ j=>omega|own _ _ _ r j L=>
      obtain⟨V,W⟩:=yS5 s t j;have k:=xu2 r.block 0 r.cap b.toArray w V W (by unfold big at K;simp;omega);have T:pdq (Go.Proofs.ltOf pQ) b.toArray 0 b.toArray.size (Lib.bitLen b.toArray.size) true true=(gX b).toArray:=by unfold gX;simp
      rw[T]at k;rw[List.size_toArray,Q]at k;refine k.mono fun e H m=>?_;obtain⟨rfl,q,E,rfl⟩:=m;obtain⟨X,Y⟩:=zg3 s (rows':=(gX b).map Sp.row) (F:=Go.Sort.flatK jH 3 (gX b).toArray) t j (by simpa[aI]using F) (fun b3 U=>by obtain⟨c1,_,rfl⟩:=jE.1 U;rfl) (by rw[YA];exact zU8 _) (by rw[YA];exact xf4 _) (w':=Go.Proofs.sortWorldK jH 3 w r.block 0 q (gX b).toArray E) rfl rfl rfl (os:=E) rfl;exact⟨_,C,rfl,.refl C,X,.tup [] #[] rfl (fun i c v h=>by simp at h),Y⟩
    ·cases a
   ·cases a
  ·cases a
 ·rename_i g;split at a
  ·rename_i N;subst N;simp only[aE,aR]at a;obtain⟨rfl,rfl⟩:=a;obtain⟨v,A,u,o,d⟩:=d.inv_cons;obtain⟨B,A,rfl,y,d⟩:=d.inv_cons;have:=d.inv_nil;subst this;have z:G=#[v,B]:=by apply kK;simpa using u
   subst z;obtain rfl:=zx7 y;have x:∃p f,v=.slice p 0 f:=by cases o with|nils=>exact⟨_,_,rfl⟩
   obtain⟨p,f,rfl⟩:=x;refine(ya7 p f w).mono fun e H m=>?_;obtain⟨rfl,rfl⟩:=m;exact⟨_,C,rfl,.refl C,s,.tup [] #[] rfl (fun i c v h=>by simp at h),.refl _ _⟩
  ·cases a
 ·cases a
end
end Go.Proofs.YtpefhfiehfkocaaGreatDoor
