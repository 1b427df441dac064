/- Readers -/
import Derived.Test.YtdebajodkallbaaGreatDoorRmJ
namespace Go.Proofs.YtdebajodkallbaaGreatDoor
open Go.RowKit Go.IntWalk
theorem xh1{G:Gam}(K:G Fn.a9=some (.pure uP))(L:G Fn.b0=some (.gen nT)):GW G Mc.ah Rs.ah Ks.ah lW:=by
 intro U h r X j;unfold lW at j;split at j
 ·rename_i l u;split at j
  ·rename_i tg s k f;split at j
   ·rename_i a1;simp only[aT,dF]at j;obtain⟨rfl,rfl⟩:=j;have Z:l<h.length:=(aV.1 f).1;have W:aB 1 false h (.ptr l 1)=some (.n k):=by simp[aB,f,cut,aE]
    have V:aB 1 false h (.ptr l 0)=some (.str s):=by simp[aB,f,cut,aE]
    rw[aM];by_cases C:k=0
    ·subst C;have g:∀a,opV G a h (.call Fn.a9) (some [.str s,.n 65536,.int .u8 58])=some (iZ (fY 65536 58 s 0 0),h):=fun a=>by
      have M:uP [.str s,.n 65536,.int .u8 58]=some (iZ (fY 65536 58 s 0 0)):=by
       simp only[uP];rw[if_pos ⟨by unfold big;omega,by omega,by omega,by omega,by omega⟩];rfl
      exact bF K (us:=[.str s,.n 65536,.int .u8 58]) rfl M (.inl (by cases fY 65536 58 s 0 0<;>rfl))
     have m:∀e:Int,opV G false h (.call Fn.b0) (some [.ptr l 0,.n e])=some (.tup [],h.set l (bR tg ⟨[],e⟩)):=fun e=>by rw[eX L];simp[nT,f]
     have H:ltB (-1) 0=true:=rfl;simp only[bG];rw[if_neg (by simp)];cases p:fY 65536 58 s 0 0 with
     |short=>
      rw[p]at g;simp[Mc.ah,aC,Ks.ah,f,g,iZ,m,H,dM,Rs.ah]|corrupt=>
      rw[p]at g;simp[Mc.ah,aC,Ks.ah,f,g,iZ,m,H,dM,Rs.ah]|ok n i=>
      rw[p]at g;obtain⟨k1,k2,k3⟩:=DV p;have N:i+1<=s.length:=by
       have:=congrArg List.length k1;simp only[bX,hJ,AB]at this;omega
      have v:ltB (i:Int) 0=false:=bC.2 (by omega);have y:IntKind.i64.wrap ((i:Int)+1)=(i:Int)+1:=i64_in _ ⟨by omega,by omega⟩;have T:IntKind.i64.wrap ((n:Int)+1)=(n:Int)+1:=i64_in _ ⟨by omega,by omega⟩;obtain⟨d,B⟩:∃d,d=s.drop (i+1):=⟨_,rfl⟩;have Y:d.length=s.length-(i+1):=by rw[B];simp
      have w:∀a,opV G a h (.slc none true false false) (some [.str s,.n ((i:Int)+1)])=some (.str d,h):=fun a=>by rw[B];exact WY N
      dsimp only;rw[<-B];by_cases I:d.length<=n
      ·have o:ltB (n:Int) (d.length:Int)=false:=bC.2 (by omega);rw[lX I];simp[Mc.ah,aC,Ks.ah,f,aI,g,iZ,m,v,y,w,o,dM,Rs.ah]
      ·have o:ltB (n:Int) (d.length:Int)=true:=aO.2 (by omega);obtain⟨c,F⟩:∃c,d[n]?=some c:=⟨_,jT (by omega)⟩;rw[F];have D:∀a h,opV G a h .istr (some [.str d,.n n])=some (.int .u8 c.toNat,h):=fun a h=>jX F;by_cases z:c=44
       ·subst z;by_cases A:u<(n:Int)
        ·have E:ltB u (n:Int)=true:=aO.2 A;simp only[ne_eq,xP,bY,if_pos A];simp[Mc.ah,aC,Ks.ah,f,aI,g,iZ,m,v,y,w,o,D,E,dM,Rs.ah]
        ·have E:ltB u (n:Int)=false:=bC.2 (by omega);simp only[ne_eq,xP,bY,if_neg A];have Q:∀a h,opV G a h (.slc none false true false) (some [.str d,.n n])=some (.str (d.take n),h):=fun a h=>LH (by omega);have S:∀a h,opV G a h (.slc none true false false) (some [.str d,.n ((n:Int)+1)])=some (.str (d.drop (n+1)),h):=fun a h=>SA (k:=n+1) (by omega) (by omega);simp[Mc.ah,aC,Ks.ah,f,aI,g,iZ,v,y,T,w,o,D,E,Q,S,bE,AV.cells,bK,bR,dM,Rs.ah]
       ·have P:eqB (c.toNat:Int) 44=false:=eU.2 fun e=>z (rP.1 (by simp;omega));simp only[ne_eq,z,not_false_eq_true,bD];simp[Mc.ah,aC,Ks.ah,f,aI,g,iZ,m,v,y,w,o,D,P,dM,Rs.ah]
    ·have q:eqB k 0=false:=eU.2 C;have J:bG u ⟨s,k⟩=([],⟨s,k⟩):=zI1 C;rw[J];have O:h.set l (bR tg ⟨s,k⟩)=h:=uI f;simp[Mc.ah,aC,Ks.ah,f,q,O,dM,Rs.ah]
   ·cases j
  ·cases j
 ·cases j
def sV:List AV->aA->Option AV
 |[.ptr l 0],h=>match h[l]? with
  |some (.cellsT _ [.str s,.n a])=>some (.n (jC ⟨s,a⟩))|_=>none
 |_,_=>none
theorem zb3{G:Gam}:LW G Mc.ce Rs.ce Ks.ce sV:=by
 intro j h r a;unfold sV at a;split at a
 ·rename_i l;split at a
  ·rename_i tg s g d;injection a with a;subst a;have m:aB 1 false h (.ptr l 1)=some (.n g):=by simp[aB,d,cut,aE]
   have k:aB 1 false h (.ptr l 0)=some (.str s):=by simp[aB,d,cut,aE]
   rw[aM];by_cases i:g=0
   ·subst i;by_cases e:s=[]
    ·have f:aW .neq (.str s) (.str [])=some (.F):=by simp[aW,dV,e]
     simp[Mc.ce,aC,Ks.ce,d,e,jC,fP,Rs.ce];try simp[e]at f
     try simp[f]
    ·have f:aW .neq (.str s) (.str [])=some (.T):=by simp[aW,dV,e]
     simp[Mc.ce,aC,Ks.ce,d,f,jC,e,fP,Rs.ce]
   ·have q:eqB g 0=false:=eU.2 i;simp[Mc.ce,aC,Ks.ce,d,q,jC,i,fP,Rs.ce]
  ·cases a
 ·cases a
theorem zV7{G:Gam}:LW G Mc.d6 Rs.d6 Ks.d6 sV:=zb3
def MR:List AV->aA->Option (AV×aA)
 |[.str s],h=>some (.ptr h.length 0,h++[bR none ⟨s,0⟩])|_,_=>none
theorem yb5{G:Gam}:GW G Mc.dq Rs.dq Ks.dq MR:=by
 intro d h r e a;unfold MR at a;split at a
 ·rename_i s;simp only[aT,dF]at a;obtain⟨rfl,rfl⟩:=a;rw[aM];simp[Mc.dq,aC,Ks.dq,eO,AV.cells,bK,bR,dM,Rs.dq]
 ·cases a
def rE:List AV->Option AV
 |[.n n]=>if 0<=n/\n<=281474976710656 then some (.tup [.str (bQ n.toNat),.n 0])else some (.tup [.str [],.n 3])|_=>none
def rG:List AV->Option AV
 |[.str s]=>if 1000000<s.length then none else if s.length<=65536 then some (.tup [.str (cM s),.n 0])else some (.tup [.str [],.n 10])|_=>none
theorem yb8{G:Gam}(k:G Fn.d7=some (.pure sX)):PW G Mc.b9 Rs.b9 Ks.b9 rE:=by
 intro o r a;unfold rE at a;split at a
 ·rename_i n;rw[aM];by_cases i:n<0
  ·rw[if_neg (by omega)]at a;injection a with a;subst a;have d:ltB n 0=true:=aO.2 i;simp[Mc.b9,aC,Ks.b9,d,aD,Rs.b9]
  ·have d:ltB n 0=false:=bC.2 (by omega);by_cases j:281474976710656<n
   ·rw[if_neg (by omega)]at a;injection a with a;subst a;have e:ltB 281474976710656 n=true:=aO.2 j;simp[Mc.b9,aC,Ks.b9,d,e,aD,Rs.b9]
   ·rw[if_pos ⟨by omega,by omega⟩]at a;injection a with a;subst a;have e:ltB 281474976710656 n=false:=bC.2 (by omega);have g:∀f h,opV G f h (.call Fn.d7) (some [.n n])=some (.str (Lib.decDigits n.toNat),h):=fun f h=>bF k (us:=[.n n]) rfl (by simp only[sX];rw[if_pos ⟨by omega,by omega⟩,zx3 (by omega)]) (.inl rfl);have p:=vN 15 n.toNat (by omega);have m:=wO (a:=Lib.decDigits n.toNat) (b:=[59]) (by unfold dP;simp;omega);simp[Mc.b9,aC,Ks.b9,d,e,g,m,bQ,aD,Rs.b9]
 ·cases a
theorem yb7{G:Gam}(k:G Fn.ap=some (.pure (jG 15))):PW G Mc.ck Rs.ck Ks.ck rE:=by
 intro o r a;unfold rE at a;split at a
 ·rename_i n;rw[aM];by_cases i:n<0
  ·rw[if_neg (by omega)]at a;injection a with a;subst a;have d:ltB n 0=true:=aO.2 i;simp[Mc.ck,aC,Ks.ck,d,aD,Rs.ck]
  ·have d:ltB n 0=false:=bC.2 (by omega);by_cases j:281474976710656<n
   ·rw[if_neg (by omega)]at a;injection a with a;subst a;have e:ltB 281474976710656 n=true:=aO.2 j;simp[Mc.ck,aC,Ks.ck,d,e,aD,Rs.ck]
   ·rw[if_pos ⟨by omega,by omega⟩]at a;injection a with a;subst a;have e:ltB 281474976710656 n=false:=bC.2 (by omega);have g:∀f h,opV G f h (.call Fn.ap) (some [.n n])=some (.str (Lib.decDigits n.toNat),h):=fun f h=>bF k (us:=[.n n]) rfl (by simp only[jG];rw[if_pos ⟨by omega,by omega⟩]) (.inl rfl);have p:=vN 15 n.toNat (by omega);have m:=wO (a:=Lib.decDigits n.toNat) (b:=[59]) (by unfold dP;simp;omega);simp[Mc.ck,aC,Ks.ck,d,e,g,m,bQ,aD,Rs.ck]
 ·cases a
theorem yd4{G:Gam}(i:G Fn.d7=some (.pure sX)):PW G Mc.cx Rs.cx Ks.cx rG:=by
 intro o r a;unfold rG at a;split at a
 ·rename_i s;split at a;·cases a
  ·rename_i p;rw[aM];split at a
   ·rename_i k;injection a with a;subst a;have d:ltB 65536 (s.length:Int)=false:=bC.2 (by omega);have g:∀f h,opV G f h (.call Fn.d7) (some [.n (s.length:Int)])=some (.str (Lib.decDigits s.length),h):=fun f h=>bF i (us:=[.n (s.length:Int)]) rfl (by simp only[sX];rw[if_pos ⟨by omega,by omega⟩,zx3 (by omega)];simp) (.inl rfl);have q:=vN 15 s.length (by omega);have m:=wO (a:=Lib.decDigits s.length) (b:=[58]) (by unfold dP;simp;omega);have e:=wO (a:=Lib.decDigits s.length++[58]) (b:=s) (by unfold dP;simp;omega);have n:=wO (a:=Lib.decDigits s.length++[58]++s) (b:=[44]) (by unfold dP;simp;omega);simp only[iN]at e n;have j:(Lib.decDigits s.length).length+(s.length+1)+1<=dP:=by unfold dP;omega
    simp[Mc.cx,aC,Ks.cx,aI,d,g,m,e,j,cM,aD,Rs.cx]
   ·rename_i k;injection a with a;subst a;have d:ltB 65536 (s.length:Int)=true:=aO.2 (by omega);simp[Mc.cx,aC,Ks.cx,aI,d,aD,Rs.cx]
 ·cases a
theorem yd3{G:Gam}(i:G Fn.ap=some (.pure (jG 15))):PW G Mc.c5 Rs.c5 Ks.c5 rG:=by
 intro o r a;unfold rG at a;split at a
 ·rename_i s;split at a;·cases a
  ·rename_i p;rw[aM];split at a
   ·rename_i k;injection a with a;subst a;have d:ltB 65536 (s.length:Int)=false:=bC.2 (by omega);have g:∀f h,opV G f h (.call Fn.ap) (some [.n (s.length:Int)])=some (.str (Lib.decDigits s.length),h):=fun f h=>bF i (us:=[.n (s.length:Int)]) rfl (by simp only[jG];rw[if_pos ⟨by omega,by omega⟩];simp) (.inl rfl);have q:=vN 15 s.length (by omega);have m:=wO (a:=Lib.decDigits s.length) (b:=[58]) (by unfold dP;simp;omega);have e:=wO (a:=Lib.decDigits s.length++[58]) (b:=s) (by unfold dP;simp;omega);have n:=wO (a:=Lib.decDigits s.length++[58]++s) (b:=[44]) (by unfold dP;simp;omega);simp only[iN]at e n;have j:(Lib.decDigits s.length).length+(s.length+1)+1<=dP:=by unfold dP;omega
    simp[Mc.c5,aC,Ks.c5,aI,d,g,m,e,j,cM,aD,Rs.c5]
   ·rename_i k;injection a with a;subst a;have d:ltB 65536 (s.length:Int)=true:=aO.2 (by omega);simp[Mc.c5,aC,Ks.c5,aI,d,aD,Rs.c5]
 ·cases a
section
variable{h x:aA}{l:Nat}{tg:Option TypeId}{r r':Rd}{ts:List Touch}{b c:Blk}{t:Touch}
end
theorem XU{lo hi:Int}{s:Bs}{e:Int}(a:s.length<=1000000):(rdNum lo hi ⟨s,e⟩).2.rest.length<=1000000:=by
 unfold rdNum;split;·exact a
 ·split
  ·split;·simp
   ·simp;omega
  ·simp
  ·simp
theorem BR{most:Int}{s:Bs}{e:Int}(a:s.length<=1000000):(bG most ⟨s,e⟩).2.rest.length<=1000000:=by
 unfold bG;split;·exact a
 ·split
  ·split;·simp
   ·split;·simp
    ·split;·simp
     ·simp;omega
  ·simp
  ·simp
section
variable{G:Gam}{h x:aA}{l:Nat}{tg:Option TypeId}{r:Rd}{ts:List Touch}
end
def iB(b:Bun):AV:=.agg [.str b.man,.sl (gU b.pap),.sl (gU b.src)]
instance:DecidableEq Touch:=fun a b=>decidable_of_iff (a.path=b.path/\a.dig=b.dig) (by cases a;cases b;simp)
instance:DecidableEq Bun:=fun a b=>decidable_of_iff (a.man=b.man/\a.pap=b.pap/\a.src=b.src) (by cases a;cases b;simp)
def xW:AV->Option Bun
 |.agg [.str m,.sl p,.sl q]=>match gT vM p,gT vM q with
  |some p,some q=>some ⟨m,p,q⟩|_,_=>none
 |_=>none
theorem IW(b:Bun):xW (iB b)=some b:=by simp[xW,iB]
theorem DY{v:AV}{b:Bun}(h:xW v=some b):v=iB b:=by
 unfold xW at h;split at h
 ·split at h
  ·rename_i m p q e f a d;injection h with h;subst h;obtain rfl:=oC (fun r x=>UE) a;obtain rfl:=oC (fun r x=>UE) d;rfl
  ·cases h
 ·cases h
def vO(a:Int):List Touch->Int->Bool
 |[],_=>true|f::r,n=>if 300<f.path.length then false else if a<n+f.dig.length then false else vO a r (n+f.dig.length)
def BC(a d:Int)(t:List Touch):Bool:=if a<t.length then false else vO d t 0
def CO:List AV->Option AV
 |[.sl a,.n n,.n m]=>match gT vM a with
  |some t=>if t.length<big/\(t.all fun f=>decide (f.dig.length<=4294967296))=true/\m<=4294967296/\n<=1000 then some (.bool (BC n m t))else none|none=>none
 |_=>none
theorem zr7(G:Gam)(t:List Touch)(m a:Int)(C:m<=1000)(F:a<=4294967296)(B:t.length<big)(w:∀f∈t,f.dig.length<=4294967296):∀(g:List Touch)(i:Nat)(n:Int),t.drop i=g->0<=n->n<=4294967296\/n=0->vO a g n=vO a t 0->cY G [9] Mc.bc_L0 0 [.blk 0,.seq (.seq (.reg [Kb 6 true]) .ret)] (aD Rs.bc (.bool (vO a t 0))) [(0,.sl (gU t)),(1,.n m),(2,.n a),(6,.F),(7,.n n),(9,.junk),(14,.sl (gU t)),(15,.n t.length),(16,.n i)] []
 |[],i,n,p,A,E,d=>by
  have M:=drop_nil p;have q:ltB (i:Int) (t.length:Int)=false:=bC.2 (by omega);rw[<-d];refine aJ (Mc.bc_L0.eq_1) ?_;rw[lT (n:=0) rfl];simp[bM,q,vO,aD,Rs.bc]|f::g,i,n,p,A,E,d=>by
  obtain⟨N,y,I⟩:=eT p;have q:ltB (i:Int) (t.length:Int)=true:=aO.2 (by omega);have H:=dT (i:=i) (by omega);have K:=xt2 y;have s:∀z h,opV G z h (.iadr 2) (some [.sl (gU t),.n i])=some (.fptr [.str f.path,.str f.dig] 0,h):=fun z h=>by rw[eV rfl];simp[dH,bA,K]
  have L:=w f (fB y);have v:IntKind.i64.wrap (n+(f.dig.length:Int))=n+(f.dig.length:Int):=i64_in _ ⟨by omega,by omega⟩;refine aJ (Mc.bc_L0.eq_1) ?_;rw[lT (n:=0) rfl];by_cases j:300<f.path.length
  ·have e:ltB 300 (f.path.length:Int)=true:=aO.2 (by omega);rw[<-d];simp[bM,q,s,cut,aE,aU,AV.cells,bE,bK,aB,aI,v,e,vO,j,aD,Rs.bc]
  ·have e:ltB 300 (f.path.length:Int)=false:=bC.2 (by omega);by_cases k:a<n+f.dig.length
   ·have u:ltB a (n+(f.dig.length:Int))=true:=aO.2 k;rw[<-d];simp[bM,q,s,cut,aE,aU,AV.cells,bE,bK,aB,aI,v,e,u,vO,j,k,aD,Rs.bc]
   ·have u:ltB a (n+(f.dig.length:Int))=false:=bC.2 (by omega);rw[vO,if_neg j,if_neg k]at d;have J:=zr7 G t m a C F B w g (i+1) (n+f.dig.length) I (by omega) (.inl (by omega)) d;simp[bM,q,s,cut,aE,aU,AV.cells,bE,bK,aB,aI,v,e,u,H];refine cZ ?_;have tr:∀o x,bW 0 o=true->trunc 0 o [x]=[]:=fun o x D=>by unfold trunc;simp[D,cV]
    rw[tr _ _ (by simp[bM,bW,low])];simpa[bM]using J
theorem zY5{G:Gam}:PW G Mc.bc Rs.bc Ks.bc CO:=by
 intro p r d;unfold CO at d;split at d
 ·rename_i a n m;split at d
  ·rename_i t k;split at d
   ·rename_i j;injection d with d;subst d;obtain⟨e,f,g,i⟩:=j;obtain rfl:a=gU t:=oC (fun r x=>UE) k;rw[aM];unfold BC;by_cases c:n<t.length
    ·have q:ltB n (t.length:Int)=true:=aO.2 c;rw[if_pos c];simp[Mc.bc,aC,Ks.bc,aI,q,aD,Rs.bc]
    ·have q:ltB n (t.length:Int)=false:=bC.2 (by omega);rw[if_neg c];have o:=zr7 G t n m i g e (by simpa using f) t 0 0 rfl (by omega) (.inr rfl) rfl;simp[Mc.bc,aC,Ks.bc,aI,q];refine cZ ?_;simpa[bM,lT (n:=0) (h:=[]) rfl]using o
   ·cases d
  ·cases d
 ·cases d
def JJ(b:Bun):Bool:=decide (b.man.length<=20000)&&(BC 30 8000 b.pap&&BC 30 8000 b.src)
def GE:List AV->Option AV
 |[a]=>match xW a with
  |some b=>if b.pap.length<big/\b.src.length<big/\(b.pap.all fun f=>decide (f.dig.length<=4294967296))=true/\(b.src.all fun f=>decide (f.dig.length<=4294967296))=true then some (.bool (JJ b))else none|none=>none
 |_=>none
theorem zY6{G:Gam}(j:G Fn.bc=some (.pure CO)):PW G Mc.ci Rs.ci Ks.ci GE:=by
 intro s r d;unfold GE at d;split at d
 ·rename_i a;split at d
  ·rename_i b q;split at d
   ·rename_i p;injection d with d;subst d;obtain⟨k,m,n,o⟩:=p;obtain rfl:=DY q;have k1:∀e h,opV G e h (.call Fn.bc) (some [.sl (gU b.pap),.n 30,.n 8000])=some (.bool (BC 30 8000 b.pap),h):=fun e h=>bF j (us:=[.sl (gU b.pap),.n 30,.n 8000]) rfl (by simp only[CO,zo5];rw[if_pos ⟨k,n,by omega,by omega⟩]) (.inl rfl);have k2:∀e h,opV G e h (.call Fn.bc) (some [.sl (gU b.src),.n 30,.n 8000])=some (.bool (BC 30 8000 b.src),h):=fun e h=>bF j (us:=[.sl (gU b.src),.n 30,.n 8000]) rfl (by simp only[CO,zo5];rw[if_pos ⟨m,o,by omega,by omega⟩]) (.inl rfl);rw[aM];unfold JJ;by_cases g:b.man.length<=20000
    ·have f:ltB 20000 (b.man.length:Int)=false:=bC.2 (by omega);cases i:BC 30 8000 b.pap with
     |true=>simp[Mc.ci,aC,Ks.ci,iB,aB,cut,aE,aI,f,k1,k2,g,i,aD,Rs.ci]|false=>simp[Mc.ci,aC,Ks.ci,iB,aB,cut,aE,aI,f,k1,g,i,aD,Rs.ci]
    ·have f:ltB 20000 (b.man.length:Int)=true:=aO.2 (by omega);simp[Mc.ci,aC,Ks.ci,iB,aB,cut,aE,aI,f,g,aD,Rs.ci]
   ·cases d
  ·cases d
 ·cases d
section
variable{G:Gam}
end
def WR(b:Bun):Prop:=b.pap.length<big/\b.src.length<big/\(b.pap.all fun f=>decide (f.dig.length<=4294967296))=true/\(b.src.all fun f=>decide (f.dig.length<=4294967296))=true
instance(b:Bun):Decidable (WR b):=inferInstanceAs(Decidable (_/\_/\_/\_))
theorem VX(a b:Bs):(Op.bytesLess a b||a==b)=!(Op.bytesLess b a):=by induction a generalizing b with
 |nil=>cases b<;>rfl|cons x n m=>cases b with
  |nil=>rfl|cons y f=>
   have h:=m f;simp only[Op.bytesLess];by_cases d:x=y
   ·subst d;simpa using h
   ·have k:¬y=x:=fun e=>d e.symm;have o:x.toNat≠y.toNat:=fun e=>d (rP.1 e);have g:(x==y)=false:=by simp[d]
    have i:(y==x)=false:=by simp[k]
    have j:(x::n==y::f)=false:=by simp[d]
    rw[g,i,j];simp only[eW,uZ];rw[Bool.eq_iff_iff];simp only[fU,lK,AI,UInt8.lt_iff_toNat_lt];omega
def zS5:Bs:=[112,97,112,101,114]
def zS6:Bs:=[115,111,117,114,99,101]
structure Stand where
 np:Nat
 ns:Nat
 lp:Bs
 ls:Bs
theorem index_one(c:UInt8):∀s:Bs,(c∈s->∃a b,s=a++c::b/\c∉a/\Lib.cut s [c]=(a,b,true))/\(c∉s->Lib.cut s [c]=(s,[],false)):=by
 intro s;refine⟨fun h=>?_,fun h=>?_⟩
 ·rcases Lib.index_spec s [c]with⟨d,g⟩|⟨i,d,g,e,h4⟩
  ·obtain⟨j,p,n⟩:=List.mem_iff_getElem.1 h;have:=g j (by omega);simp only[Lib.occAt,xN p,n]at this;simp at this
  ·have f:=Lib.index_room s [c] (by omega);rw[d]at f;have m:i<s.length:=by simp at f;omega
   have k:=xN m;have o:s[i]=c:=by
    simp only[Lib.occAt,k]at e;have h5:c=s[i]:=by simpa[List.isPrefixOf]using e
    exact h5.symm
   refine⟨s.take i,s.drop (i+1),?_,?_,?_⟩;·conv=>lhs;rw[<-oZ i s,k,o]
   ·intro u;obtain⟨j,p,n⟩:=List.mem_iff_getElem.1 u;have q:j<i:=by simp at p;omega
    have:=h4 j q;simp only[List.getElem_take]at n;simp only[Lib.occAt,xN (show j<s.length by omega),n]at this;simp at this
   ·unfold Lib.cut;rw[if_pos (by rw[d];omega),d];simp
 ·rcases Lib.index_spec s [c]with⟨d,g⟩|⟨i,d,g,e,h4⟩
  ·unfold Lib.cut;rw[if_neg (by rw[d];omega)]
  ·exfalso;have f:=Lib.index_room s [c] (by omega);rw[d]at f;have m:i<s.length:=by simp at f;omega
   have k:=xN m;simp only[Lib.occAt,k]at e;have o:c=s[i]:=by simpa[List.isPrefixOf]using e
   exact h (by rw[o];exact HV m)
theorem YY(c:UInt8):∀(a b:Bs),c∉a->dG c (a++c::b)=a::dG c b
 |[],b,_=>by simp[dG]|x::a,b,h=>by
  have d:x≠c:=fun e=>h (by simp[e]);have:=YY c a b (fun e=>h (by simp[e]));simp[dG,d,this]
theorem YZ(c:UInt8):∀(a:Bs),c∉a->dG c a=[a]
 |[],_=>by simp[dG]|x::a,h=>by
  have d:x≠c:=fun e=>h (by simp[e]);have:=YZ c a (fun e=>h (by simp[e]));simp[dG,d,this]
theorem zO9(c:UInt8):∀(s:Bs)(w:Bs),w∈dG c s->w.length<=s.length
 |[],w,h=>by simp[dG]at h;subst h;simp|b::r,w,h=>by
  have d:=zO9 c r;unfold dG at h;split at h
  ·rcases fE.1 h with rfl|h;·simp
   ·have:=d w h;simp;omega
  ·cases a:dG c r with
   |nil=>exact absurd a (CD c r)|cons x e=>
    simp only[a]at h;rcases fE.1 h with rfl|h;·have:=d x (by rw[a];simp);simp;omega
    ·have:=d w (by rw[a];simp[h]);simp;omega
theorem PY(x:Bs):∀(a:List Bs)(i:Nat),(!ltB (idxFrom x i a) 0)=a.contains x
 |[],i=>by simp[idxFrom,ltB]|y::r,i=>by
  simp only[idxFrom,vA];by_cases h:x=y;·subst h;simp[ltB]
  ·have:=PY x r (i+1);simp[h,this]
section
variable{G:Gam}{h:aA}
end
structure MapsP(sd:Stand)(ml:List (Bs×Bs))(mn:List (Bs×Nat)):Prop where
 lp:(sG zS5 ml).getD []=sd.lp
 ls:(sG zS6 ml).getD []=sd.ls
 np:(sG zS5 mn).getD 0=sd.np
 ns:(sG zS6 mn).getD 0=sd.ns
section
variable{G:Gam}{ml:List (Bs×Bs)}{mn:List (Bs×Nat)}
end
end Go.Proofs.YtdebajodkallbaaGreatDoor
