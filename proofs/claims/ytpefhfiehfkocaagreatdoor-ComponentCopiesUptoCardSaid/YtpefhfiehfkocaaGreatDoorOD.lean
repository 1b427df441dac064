/- slices -/
import Derived.Test.YtpefhfiehfkocaaGreatDoorOB
namespace Go.Proofs.YtpefhfiehfkocaaGreatDoor
open Go.RowKit Go.IntWalk
def BU:List AV->aA->Option (AV×aA)
 |[.tsl [[.sl c],[.sl d]]],h=>match dW jL c,dW jL d with
  |some a,some b=>if a.length+b.length<=1000000 then(if a++b=[]then some (.nils,h++[.arr 3 0 [] true])else some (.own (h.length+1) (a++b).length (a++b).length,h++[.arr 3 0 [] true,.arr 3 (a++b).length (aI (a++b)) true]))else none|_,_=>none
 |_,_=>none
theorem xu6(a b:List Sp):aI (a++b)=aI a++aI b:=by simp[aI]
theorem xs6(l:List Sp):dH 3 (aI l)=true:=ya0 xv2 l
theorem zq4{G:Gam}{s:Bool}{P:aA}{L:Nat}(c:L=P.length)(x y:List Sp)(e:x.length+y.length<=1000000):opV G s (P++[.arr 3 x.length (aI x) true]) (.app false 3 32) (some [.own L x.length x.length,.sl (aI y)])=some (.own L (x++y).length (x++y).length,P++[.arr 3 (x++y).length (aI (x++y)) true]):=by
 subst c;by_cases a:y=[]
 ·subst a;rw[fG rfl];simp[bC,lZ,rowsOf,aI,dH,nH]
 ·have d:(P++[Blk.arr 3 x.length (aI x) true])[P.length]?=some (.arr 3 x.length (aI x) true):=by simp
  have:=SK (G:=G) (s:=s) (h:=P++[Blk.arr 3 x.length (aI x) true]) (n:=3) (b:=32) (l:=P.length) (ver:=x.length) (k:=x.length) (x:=.sl (aI y)) (new:=aI y) (rows:=aI x) rfl d (by simp) (xs6 y) (by simpa[aI]using a) (by simp;unfold dJ;omega) (by simp;unfold dJ;omega);rw[this];simp[xu6]
theorem yy8{G:Gam}{ks:List MK}{Q:aS}{a c:List (List AV)}{v2 v5 v6 v8 v25 v26 v27:AV}{H:aA}(w:a.length+c.length<=1000000)(g:∀f,exM G .normal ks Q f [(0,.tsl [[.sl a],[.sl c]]),(2,v2),(3,.n ((a.length+c.length:Nat):Int)),(5,.junk),(6,v6),(8,v8),(9,.tsl [[.sl a],[.sl c]]),(10,.n 2),(11,.n 2),(25,v25),(26,v26),(27,v27)] H):cY G [5] Mc.bd_L0 H.length (.blk 0::ks) Q [(0,.tsl [[.sl a],[.sl c]]),(2,v2),(3,.n 0),(5,v5),(6,v6),(8,v8),(9,.tsl [[.sl a],[.sl c]]),(10,.n 2),(11,.n 0),(25,v25),(26,v26),(27,v27)] H:=by
 have j:ltB 0 2=true:=rfl;have k:ltB 1 2=true:=rfl;have m:ltB 2 2=false:=rfl;have r:IntKind.i64.wrap (a.length:Int)=a.length:=i64_in _ ⟨by omega,by omega⟩;have s:IntKind.i64.wrap ((a.length:Int)+(c.length:Int))=((a.length+c.length:Nat):Int):=by rw[i64_in _ ⟨by omega,by omega⟩];omega
 have p:ltB (a.length:Int) 0=false:=dQ.2 (by omega);have q:ltB ((a.length+c.length:Nat):Int) 0=false:=dQ.2 (by omega);have t:IntKind.i64.wrap 1=1:=rfl;have u:IntKind.i64.wrap (1+1)=2:=rfl;have n:aW H 1 (.sl a)=some (.n (a.length:Int)):=rfl;have o:aW H 1 (.sl c)=some (.n (c.length:Int)):=rfl;have h:bN 1 H (.tsl [[.sl a],[.sl c]]) (.n 0)=some (.fptr [.sl a] 0):=rfl;have i:bN 1 H (.tsl [[.sl a],[.sl c]]) (.n 1)=some (.fptr [.sl c] 0):=rfl;have d:aB 1 false H (.fptr [.sl a] 0)=some (.sl a):=rfl;have e:aB 1 false H (.fptr [.sl c] 0)=some (.sl c):=rfl;generalize(a.length+c.length)=N at*;generalize v:AV.tsl [[.sl a],[.sl c]]=T at*;refine bQ (Mc.bd_L0.eq_1) ?_;rw[fJ rfl];simp[j,h,d,n,r,p,t,-aB,-aW];refine dT ?_;rw[fJ rfl];refine bQ (Mc.bd_L0.eq_1) ?_;rw[fJ rfl];simp[k,i,e,o,s,q,-aB,-aW];refine dT ?_;rw[fJ rfl];refine bQ (Mc.bd_L0.eq_1) ?_;rw[fJ rfl];simp;exact g _
theorem zs1{G:Gam}{ks:List MK}{Q:aS}{a c:List (List AV)}{v2 v3 v5 v8 v9 v10 v11 h i j:AV}{H d e:aA}(f:d.length=H.length)(g:e.length=H.length)(k:opV G false H (.app false 3 32) (some [h,.sl a])=some (i,d))(m:opV G false d (.app false 3 32) (some [i,.sl c])=some (j,e))(q:∀p,exM G .normal ks Q p [(0,.tsl [[.sl a],[.sl c]]),(2,v2),(3,v3),(5,v5),(6,j),(8,.junk),(9,v9),(10,v10),(11,v11),(25,.tsl [[.sl a],[.sl c]]),(26,.n 2),(27,.n 2)] e):cY G [8] Mc.bd_L1 H.length (.blk 2::ks) Q [(0,.tsl [[.sl a],[.sl c]]),(2,v2),(3,v3),(5,v5),(6,h),(8,v8),(9,v9),(10,v10),(11,v11),(25,.tsl [[.sl a],[.sl c]]),(26,.n 2),(27,.n 0)] H:=by
 have t:ltB 0 2=true:=rfl;have u:ltB 1 2=true:=rfl;have v:ltB 2 2=false:=rfl;have w:IntKind.i64.wrap 1=1:=rfl;have y:IntKind.i64.wrap (1+1)=2:=rfl;have r:∀H,bN 1 H (.tsl [[.sl a],[.sl c]]) (.n 0)=some (.fptr [.sl a] 0):=fun _=>rfl;have s:∀H,bN 1 H (.tsl [[.sl a],[.sl c]]) (.n 1)=some (.fptr [.sl c] 0):=fun _=>rfl;have n:∀H,aB 1 false H (.fptr [.sl a] 0)=some (.sl a):=fun _=>rfl;have o:∀H,aB 1 false H (.fptr [.sl c] 0)=some (.sl c):=fun _=>rfl;generalize z:AV.tsl [[.sl a],[.sl c]]=T at*;refine bQ (Mc.bd_L1.eq_1) ?_;rw[fJ rfl];simp[t,r,n,k,w,-aB];refine dT ?_;rw[fJ f];refine bQ (Mc.bd_L1.eq_1) ?_;rw[fJ f];simp[u,s,o,m,-aB];refine dT ?_;rw[fJ g];refine bQ (Mc.bd_L1.eq_1) ?_;rw[fJ g];simp;exact q _
theorem yy9{G:Gam}(C:G Fn.dt=some (.gen (uC 3))):GW G Mc.bd Rs.bd Ks.bd BU:=by
 intro W h r X c;unfold BU at c;split at c
 ·rename_i Z rb;split at c
  ·rename_i a b J K;split at c
   ·rename_i D;obtain rfl:=rX J;obtain rfl:=rX K;have L:(a++b).length=a.length+b.length:=iS;have M:(aI a).length+(aI b).length<=1000000:=by simpa using D
    have n:∀(x y:List AV)(H:aA),aW H 1 (.tsl [x,y])=some (.n 2):=fun x y H=>rfl;have k:(h++[Blk.arr 3 0 [] true]).length=h.length+1:=by simp
    have o:=fun f Q g i V j S T U e=>yy8 (G:=G) (ks:=f) (Q:=Q) (v2:=g) (v5:=i) (v6:=V) (v8:=j) (v25:=S) (v26:=T) (v27:=U) (H:=h++[Blk.arr 3 0 [] true]) M e;rw[k]at o;rw[aT];by_cases m:a++b=[]
    ·rw[if_pos m]at c;injection c with c;injection c with k s;subst k s;obtain⟨rfl,rfl⟩:=List.append_eq_nil_iff.1 m;have q:∀H:aA,opV G false H (.call Fn.dt) (some [.nils,.n 0])=some (.nils,H):=fun H=>by rw[dV C];simp[uC]
     have B:∀H:aA,opV G false H (.app false 3 32) (some [.nils,.sl []])=some (.nils,H):=fun H=>by rw[fG rfl];simp[bC,lZ,rowsOf,dH,nH]
     simp[Mc.bd,Ks.bd,aC,n,-aW];refine o _ _ _ _ _ _ _ _ _ fun t=>?_;simp[aI,q,n,-aW];have d:=fun f Q g w i j z u v e=>zs1 (G:=G) (ks:=f) (Q:=Q) (v2:=g) (v3:=w) (v5:=i) (v8:=j) (v9:=z) (v10:=u) (v11:=v) (H:=h++[Blk.arr 3 0 [] true]) rfl rfl (B _) (B _) e;rw[k]at d;refine d _ _ _ _ _ _ _ _ _ fun t=>?_;simp[eF,Rs.bd]
    ·rw[if_neg m]at c;injection c with c;injection c with E F;subst E F;have Y:0<a.length+b.length:=by rw[<-L];exact zH.2 m
     have q:opV G false (h++[.arr 3 0 [] true]) (.call Fn.dt) (some [.nils,.n ((a.length+b.length:Nat):Int)])=some (.own (h.length+1) 0 0,h++[.arr 3 0 [] true,.arr 3 0 [] true]):=by
      rw[dV C];simp only[uC];rw[if_pos ⟨by omega,by omega⟩];simp
     have p:=zq4 (G:=G) (s:=false) (P:=h++[.arr 3 0 [] true]) (L:=h.length+1) (by simp) [] a (by simp;omega);have A:=zq4 (G:=G) (s:=false) (P:=h++[.arr 3 0 [] true]) (L:=h.length+1) (by simp) a b D;simp only[jU,kN,jT,qW]at p A;have O:aI []=[]:=rfl;rw[O]at p;simp[Mc.bd,Ks.bd,aC,n,-aW];refine o _ _ _ _ _ _ _ _ _ fun t=>?_;have d:=fun f Q g w i j z u v e=>zs1 (G:=G) (ks:=f) (Q:=Q) (v2:=g) (v3:=w) (v5:=i) (v8:=j) (v9:=z) (v10:=u) (v11:=v) (H:=h++[Blk.arr 3 0 [] true,Blk.arr 3 0 [] true]) (by simp) (by simp) p A e;have s:(h++[Blk.arr 3 0 [] true,Blk.arr 3 0 [] true]).length=h.length+2:=by simp
     rw[s]at d;simp only[xu8];generalize I:(a.length+b.length)=N at*;simp[q,n,-aW];refine d _ _ _ _ _ _ _ _ _ fun t=>?_;simp[eF,Rs.bd];exact I
   ·cases c
  ·cases c
 ·cases c
def yR:List AV->aA->Option (AV×aA)
 |[.own l c n],h=>match h[l]? with
  |some (.arrX false none 3 e d true)=>match dW jL d with
   |some a=>if c=e/\n=a.length/\a.length<=1000000 then some (.sl (aI (mV (gX a))),h.set l (.arr 3 c (aI (gX a)) true))else none|none=>none
  |_=>none
 |[.nils],h=>some (.sl [],h)|_,_=>none
theorem ZR(cur:Sp):∀l,(kU cur l).length<=l.length+1
 |[]=>by simp[kU]|s::r=>by
  unfold kU;split;·have:=ZR s r;simp;omega
  ·have:=ZR ⟨cur.p,cur.f,if cur.t<s.t then s.t else cur.t⟩ r;simp;omega
theorem yZ8(l:List Sp):(mV l).length<=l.length:=by cases l with
 |nil=>simp[mV]|cons s r=>have:=ZR s r;simp[mV];omega
def MH(P:aA)(os:List Sp):aA:=P++[.arr 3 0 [] true,.arr 3 os.length (aI os) true]
section
variable{P x:aA}{os:List Sp}{l:Nat}{b:Blk}
theorem DA:(MH P os).length=P.length+2:=by simp[MH]
theorem ym8(a:P[l]?=some b):(MH P os++x)[l]?=some b:=by unfold MH;rw[jT];exact jY a
theorem VK:(MH P os++x)[P.length+1]?=some (.arr 3 os.length (aI os) true):=by unfold MH;rw[jT,dY (by simp)];simp
theorem zm4{os':List Sp}:(MH P os++x).set (P.length+1) (.arr 3 os'.length (aI os') true)=MH P os'++x:=by unfold MH;rw[jT,gK _ _ (by simp),jT];simp
theorem VJ{a:List (Nat×AV)}(d:bG P.length P=true)(c:cQ (P.length+2) a=true):trunc (P.length+2) a (MH P os++x)=MH P os:=by
 refine yE DA c ?_;unfold MH;refine xH (AJ (by omega) d) ?_;have:∀l:List Sp,gR (P.length+2) (.arr 3 l.length (aI l) true)=true:=fun l=>rfl;simp[bG]
theorem ym7{G:Gam}{s:Sp}(a:os.length<big):opV G false (MH P os++x) (.app false 3 32) (some [.own (P.length+1) os.length os.length,.tsl [s.row]])=some (.own (P.length+1) (os++[s]).length (os++[s]).length,MH P (os++[s])++x):=by
 have:=tI (G:=G) (s:=false) (e:=Sp.row) (n:=3) (b:=32) (x:=s) (VK (P:=P) (os:=os) (x:=x)) rfl (by omega) a;rw[this];congr 2;exact zm4 (os':=os++[s])
end
theorem xu7(dn:List Sp)(cur:Sp):(aI (dn++[cur]))[dn.length]?=some cur.row:=by simp[aI]
theorem zN9{G:Gam}(O:G Fn.cv=some (.pure uD)){P:aA}{l g:Nat}{S:List Sp}(T:P[l]?=some (.arr 3 g (aI S) true))(hl:l<P.length)(m:bG P.length P=true)(hS:S.length<=1000000)(R:List Sp):∀(p:List Sp)(i:Nat)(os:List Sp)(_ _:AV),S.drop i=p->os.length<=i->i<=S.length->((os=[]/\R=mV p)\/∃dn cur,os=dn++[cur]/\R=dn++kU cur p)->cY G [5,6] Mc.al_L0 (P.length+2) [.blk 0,.seq (.seq (.reg [zm 46 3,zM 2 46]) .ret)] (jM P.length Rs.al (.sl (aI R)) P) [(0,.own l g S.length),(2,.own P.length 0 0),(3,.own (P.length+1) os.length os.length),(5,.junk),(6,.junk),(9,.own l g S.length),(10,.n S.length),(11,.n i)] (MH P os)
 |[],i,os,v5,v6,I,w,hi,a=>by
  have d3:=drop_nil I;have n:ltB (i:Int) (S.length:Int)=false:=dQ.2 (by omega);have b1:R=os:=by
   rcases a with⟨rfl,h⟩|⟨dn,cur,rfl,h⟩;·simpa[mV]using h
   ·simpa[kU]using h
  subst b1;refine bQ (Mc.al_L0.eq_1) ?_;rw[show MH P R=MH P R++[]by simp,VJ m (by simp[aY,cQ,low];omega)];simp[n,jM,OG,Rs.al];have b2:(MH P R)[P.length+1]?=some (.arr 3 R.length (aI R) true):=by have:=VK (P:=P) (os:=R) (x:=[]);simpa using this
  refine⟨P++[.arr 3 0 [] true,.arr 3 R.length (aI R) false],?_,KU,m⟩;have c1:(MH P R).set (P.length+1) (.arr 3 R.length (aI R) false)=P++[.arr 3 0 [] true,.arr 3 R.length (aI R) false]:=by unfold MH;rw[gK _ _ (by simp)];simp
  simp[frz,view,rowsOf,b2,owns,dC,jX,c1,lN]|s::p,i,os,v5,v6,I,w,hi,a=>by
  obtain⟨e1,W,c2⟩:=lG I;have n:ltB (i:Int) (S.length:Int)=true:=cH.2 (by omega);have J:=iJ (i:=i) (by unfold big;omega);have U:∀(os:List Sp)(x:aA),(MH P os++x)[l]?=some (.arr 3 g (aI S) true):=fun os x=>ym8 T;have ia:∀(os:List Sp)(x:aA),bN 3 (MH P os++x) (.own l g S.length) (.n (i:Int))=some (.eptr l g i 0):=fun os x=>KO (U os x) (by simp) (ze6 W) rfl;have l3:∀(os:List Sp)(x:aA),aB 3 true (MH P os++x) (.eptr l g i 0)=some (.agg s.row):=fun os x=>by rw[KS (U os x) (ze6 W)];simp[cut,aD,Sp.row]
  have sn:∀os:List Sp,bB 3 (MH P os++[.cells [.str [],.n 0,.n 0]]) (.ptr (P.length+2) 0) (.agg s.row)=some (MH P os++[.cells s.row]):=fun os=>by
   have:=yb5 (h:=MH P os) (a:=.str []) (b:=.n 0) (c:=.n 0) (s:=s);rwa[DA]at this
  have Z:∀os:List Sp,aB 3 true (MH P os++[.cells s.row]) (.ptr (P.length+2) 0)=some (.agg s.row):=fun os=>by
   have e:(MH P os++[Blk.cells s.row])[P.length+2]?=some (.cells s.row):=by rw[<-DA (P:=P) (os:=os)];simp
   exact EP e rfl
  have d1:∀os:List Sp,aB 1 false (MH P os++[.cells s.row]) (.ptr (P.length+2) 2)=some (.n s.t):=fun os=>by
   have e:(MH P os++[Blk.cells s.row])[P.length+2]?=some (.cells s.row):=by rw[<-DA (P:=P) (os:=os)];simp
   exact bT e rfl
  have N:∀q h,opV G q h (.bsl false 3) (some [.agg s.row])=some (.tsl [s.row],h):=fun q h=>by rw[gF rfl];rfl
  have j:=ym7 (G:=G) (P:=P) (x:=[.cells s.row]) (os:=os) (s:=s) (by unfold big;omega);have r:opV G false (MH P os) (.alloc [.str [],.n 0,.n 0]) (some [])=some (.ptr (P.length+2) 0,MH P os++[.cells [.str [],.n 0,.n 0]]):=by rw[iH,DA]
  have K:=fun o h1 h2=>zN9 O T hl m hS R p (i+1) o .junk .junk c2 h1 (by omega) h2;have E:∀(o:List Sp)F,cQ (P.length+2) F=true->trunc (P.length+2) F (MH P o++[.cells s.row])=MH P o:=fun o F hf=>VJ m hf;refine bQ (Mc.al_L0.eq_1) ?_;rw[show MH P os=MH P os++[]by simp,VJ m (by simp[aY,cQ,low];omega)];have z:=ia os [];have A:=l3 os [];simp only[iR]at z A;rcases a with⟨rfl,a⟩|⟨dn,cur,rfl,a⟩
  ·have D:IntKind.i64.wrap (-1)=-1:=rfl;have u:ltB (-1) 0=true:=rfl;have f:=K [s] (by simp) (.inr ⟨[],s,rfl,by rw[a,mV];rfl⟩);have k:=E [s];have C:=sn [];have B:=Z [];simp only[jU,kN]at j r;have one:[s].length=1:=rfl;rw[one]at j f;generalize MH P []=L at*;generalize Q:MH P [s]=M at*;simp[n,J,z,A,r,C,B,N,j,D,u,-aB,-aQ,-gF,-iH];refine dT ?_;rw[k _ (by simp[aY,cQ,low];omega)];simpa[Rs.al]using f
  ·have c:(dn++[cur]).length=dn.length+1:=by simp
   have D:IntKind.i64.wrap (((dn.length+1:Nat):Int)-1)=(dn.length:Int):=by rw[i64_in _ ⟨by omega,by rw[c]at w;omega⟩];omega
   have u:ltB (dn.length:Int) 0=false:=dQ.2 (by omega);have y:=xu7 dn cur;have C:=sn (dn++[cur]);have B:=Z (dn++[cur]);have a1:=d1 (dn++[cur]);have d:=VK (P:=P) (os:=dn++[cur]) (x:=[.cells s.row]);have X:bN 3 (MH P (dn++[cur])++[.cells s.row]) (.own (P.length+1) (dn.length+1) (dn.length+1)) (.n (dn.length:Int))=some (.eptr (P.length+1) (dn.length+1) dn.length 0):=by rw[c]at d;exact KO d (by simp) y rfl
   have Y:aB 3 true (MH P (dn++[cur])++[.cells s.row]) (.eptr (P.length+1) (dn.length+1) dn.length 0)=some (.agg cur.row):=by rw[c]at d;rw[KS d y];simp[cut,aD,Sp.row]
   have c3:aB 1 false (MH P (dn++[cur])++[.cells s.row]) (.eptr (P.length+1) (dn.length+1) dn.length 2)=some (.n cur.t):=by rw[c]at d;rw[KS d y];simp[cut,aD,Sp.row]
   have t:=ye8 O cur s;cases v:qX cur s with
   |true=>
    rw[v]at t;have f:=K (dn++[cur]++[s]) (by rw[iS];simp at w⊢;omega) (.inr ⟨dn++[cur],s,rfl,by rw[a,kU,if_pos v];simp⟩);have k:=E (dn++[cur]++[s]);have b3:(dn++[cur]++[s]).length=dn.length+1+1:=by simp
    rw[b3]at j f;rw[c]at j;rw[c];generalize MH P (dn++[cur])=L at*;generalize Q:MH P (dn++[cur]++[s])=M at*;generalize dn.length=a2 at*;simp[n,J,z,A,r,C,B,X,Y,N,j,D,u,t,-aB,-aQ,-gF,-iH,-Int.natCast_add];refine dT ?_;rw[k _ (by simp[aY,cQ,low];omega)];simpa[Rs.al]using f|false=>
    rw[v]at t;have f:=K (dn++[⟨cur.p,cur.f,if cur.t<s.t then s.t else cur.t⟩]) (by simp at w⊢;omega) (.inr ⟨dn,_,rfl,by rw[a,kU,if_neg (by rw[v];exact Bool.false_ne_true)]⟩);have V:(dn++[(⟨cur.p,cur.f,if cur.t<s.t then s.t else cur.t⟩:Sp)]).length=dn.length+1:=by simp
    have k:=E (dn++[⟨cur.p,cur.f,if cur.t<s.t then s.t else cur.t⟩]);have mx:∀(q:Bool)(H:aA),opV G q H .max (some [.n cur.t,.n s.t])=some (.n (if cur.t<s.t then s.t else cur.t),H):=fun q H=>by rw[bW rfl];simp[bV,LC]
    have d2:opV G false (MH P (dn++[cur])++[.cells [.str [],.n 0,.n 0]]) (.st 3) (some [.ptr (P.length+2) 0,.agg s.row])=some (.junk,MH P (dn++[cur])++[.cells s.row]):=by rw[xN,C];rfl
    have so:opV G true (MH P (dn++[cur])++[.cells s.row]) (.st 1) (some [.eptr (P.length+1) (dn.length+1) dn.length 2,.n (if cur.t<s.t then s.t else cur.t)])=some (.junk,MH P (dn++[⟨cur.p,cur.f,if cur.t<s.t then s.t else cur.t⟩])++[.cells s.row]):=by
     rw[c]at d;rw[SL (n:=1) d y rfl (by omega) rfl (by simp[Sp.row]) rfl rfl];congr 2;have:=zm4 (P:=P) (os:=dn++[cur]) (x:=[.cells s.row]) (os':=dn++[⟨cur.p,cur.f,if cur.t<s.t then s.t else cur.t⟩]);rw[V]at this;rw[<-this];congr 2;simp[aI,Sp.row,bF]
    rw[V]at f;rw[c];generalize MH P (dn++[cur])=L at*;generalize(if cur.t<s.t then s.t else cur.t)=a3 at*;generalize Q:MH P (dn++[⟨cur.p,cur.f,a3⟩])=M at*;generalize dn.length=a2 at*;simp[n,J,z,A,r,d2,B,a1,X,Y,c3,so,mx,D,u,t,-aB,-aQ,-gF,-iH,-Int.natCast_add,-xN];refine dT ?_;rw[k _ (by simp[aY,cQ,low];omega)];simpa[Rs.al]using f
theorem xa0{G:Gam}(s:G Fn.cv=some (.pure uD))(m:G Fn.ds=some (.gen (wA Fn.dy))):∀f h r i,bA h.length f=true->bG h.length h=true->yR f h=some (r,i)->wpM G Mc.al (jM h.length Rs.al r i) [] (aC Ks.al f) h:=by
 intro f h r i E p a;unfold yR at a;split at a
 ·rename_i l d n;split at a
  ·rename_i K F o;split at a
   ·rename_i c z;split at a
    ·rename_i y;obtain⟨rfl,rfl,w⟩:=y;obtain rfl:=rX z;simp only[aE,aR]at a;obtain⟨rfl,rfl⟩:=a;obtain⟨I,J,q⟩:=GE c;have j:l<h.length:=(aF.1 o).1;have u:(h.set l (.arr 3 d (aI (gX c)) true))[l]?=some (.arr 3 d (aI (gX c)) true):=by simp[j]
     have e:(h.set l (.arr 3 d (aI (gX c)) true)).length=h.length:=by simp
     have v:bG h.length (h.set l (.arr 3 d (aI (gX c)) true))=true:=KX p rfl;have k:=zN9 s u (by rw[e];exact j) (by rw[e];exact v) (by rw[q];exact w) (mV (gX c)) (gX c) 0 [] .junk .junk rfl (by simp) (by omega) (.inl ⟨rfl,rfl⟩);rw[e,q]at k;have g:opV G false (h++[.arr 3 0 [] true]) (.call Fn.ds) (some [.own l d c.length,.fn Fn.dy []])=some (.tup [],h.set l (.arr 3 d (aI (gX c)) true)++[.arr 3 0 [] true]):=by
      rw[dV m];have A:(h++[Blk.arr 3 0 [] true])[l]?=some (.arr 3 d (aI c) true):=jY o;simp only[wA,A,DX];rw[if_pos ⟨trivial,trivial,trivial,by unfold big;omega⟩,oI _ _ j]
     have t:h.set l (.arr 3 d (aI (gX c)) true)++[.arr 3 0 [] true,.arr 3 0 [] true]=MH (h.set l (.arr 3 d (aI (gX c)) true)) []:=rfl;generalize h.set l (.arr 3 d (aI (gX c)) true)=P at*;rw[aT];simp[Mc.al,Ks.al,aC,g,t,e];simpa[DA,e]using k
    ·cases a
   ·cases a
  ·cases a
 ·simp only[aE,aR]at a;obtain⟨rfl,rfl⟩:=a;have g:∀H:aA,opV G false H (.call Fn.ds) (some [.nils,.fn Fn.dy []])=some (.tup [],H):=fun H=>by rw[dV m];simp[wA]
  rw[aT];simp[Mc.al,Ks.al,aC,g];have D:ltB 0 0=false:=rfl;refine bQ (Mc.al_L0.eq_1) ?_;rw[fJ (by simp)];simp[jM,OG,Rs.al];have B:(h++[Blk.arr 3 0 [] true,Blk.arr 3 0 [] true])[h.length+1]?=some (.arr 3 0 [] true):=by rw[dY (by simp)];simp
  refine⟨h++[.arr 3 0 [] true,.arr 3 0 [] false],?_,KU,p⟩;have C:(h++[Blk.arr 3 0 [] true,Blk.arr 3 0 [] true]).set (h.length+1) (.arr 3 0 [] false)=h++[.arr 3 0 [] true,.arr 3 0 [] false]:=by rw[gK _ _ (by simp)];simp
  simp[frz,view,rowsOf,owns,dC,jX,C]
 ·cases a
section
def qO(a b:List Sp):List Sp×Int:=if dO a&&dO b then(eK a b,0)else([],1)
def yK:List AV->Option AV
 |[.sl c,.sl d]=>match dW jL c,dW jL d with
  |some a,some b=>if okL a=true/\okL b=true/\a.length+b.length<=1000000 then some (.tup [.sl (aI (qO a b).1),.n (qO a b).2])else none|_,_=>none
 |_=>none
theorem yk4{a b:List Sp}(c:okL a=true)(d:okL b=true)(e:a.length+b.length<=1000000):yK [.sl (aI a),.sl (aI b)]=some (.tup [.sl (aI (qO a b).1),.n (qO a b).2]):=by simp only[yK,DX];rw[if_pos ⟨c,d,e⟩]
theorem yf3{l:List Sp}(h:dO l=true)(c:l.length<=1000000):okL l=true:=by
 have a:=(vT.1 h).1;simp only[okL,bR,fD,fK];refine⟨c,fun s d=>?_⟩;have:=xi3 ((yC.1 (a s d)).2);simp[okS];omega
theorem zJ1{a b:List Sp}(c:dO a=true)(d:dO b=true):mV (gX (a++b))=eK a b:=(LE c d (GE _).1 (GE _).2.1).1
theorem YQ{a b:List Sp}(d:dO a=true)(e:dO b=true):(eK a b).length<=a.length+b.length:=by
 have c:=yZ8 (gX (a++b));rw[zJ1 d e,(GE _).2.2,iS]at c;exact c
attribute[local congr]ite_congr
theorem yW4{G:Gam}(u:G Fn.bt=some (.pure yL))(s:G Fn.bd=some (.gen BU))(t:G Fn.al=some (.gen yR)):PW G Mc.cf Rs.cf Ks.cf yK:=by
 intro J r c;unfold yK at c;split at c
 ·split at c
  ·rename_i a b B C;split at c
   ·rename_i A;injection c with c;subst c;obtain⟨y,z,p⟩:=A;obtain rfl:=rX B;obtain rfl:=rX C;have g:=NK u y;have i:=NK u z;have v:rowsOf [Blk.arr 3 0 [] true,Blk.arr 3 0 [] true] (.own 1 0 0)=some []:=rfl;rw[aT];cases d:dO a with
    |false=>
     rw[d]at g;have e:qO a b=([],1):=by simp[qO,d]
     rw[e];generalize aI a=j at*;generalize aI b=k at*;simp[Mc.cf,Ks.cf,aC,g,v,aJ,Rs.cf,aI]|true=>
     rw[d]at g;cases f:dO b with
     |false=>
      rw[f]at i;have e:qO a b=([],1):=by simp[qO,f]
      rw[e];generalize aI a=j at*;generalize aI b=k at*;simp[Mc.cf,Ks.cf,aC,g,i,v,aJ,Rs.cf,aI]|true=>
      rw[f]at i;have e:qO a b=(eK a b,0):=by simp[qO,d,f]
      rw[e];have q:∀w h,opV G w h (.bsl false 1) (some [.sl (aI a),.sl (aI b)])=some (.tsl [[.sl (aI a)],[.sl (aI b)]],h):=fun w h=>by rw[gF rfl];rfl
      have D:=zJ1 d f;by_cases o:a++b=[]
      ·have E:eK a b=[]:=by
        have:=YQ d f;rw[<-iS,o]at this;exact List.length_eq_zero_iff.1 (by simpa using this)
       have m:opV G false [.arr 3 0 [] true] (.call Fn.bd) (some [.tsl [[.sl (aI a)],[.sl (aI b)]]])=some (.nils,[.arr 3 0 [] true,.arr 3 0 [] true]):=by rw[dV s];simp only[BU,DX];rw[if_pos p,if_pos o];rfl
       have n:∀H,opV G false H (.call Fn.al) (some [.nils])=some (.sl [],H):=fun H=>by rw[dV t];rfl
       rw[E];generalize aI a=j at*;generalize aI b=k at*;simp[Mc.cf,Ks.cf,aC,g,i,q,m,n,aJ,Rs.cf,aI,-gF]
      ·have m:opV G false [.arr 3 0 [] true] (.call Fn.bd) (some [.tsl [[.sl (aI a)],[.sl (aI b)]]])=some (.own 2 (a++b).length (a++b).length,[.arr 3 0 [] true,.arr 3 0 [] true,.arr 3 (a++b).length (aI (a++b)) true]):=by rw[dV s];simp only[BU,DX];rw[if_pos p,if_neg o];rfl
       have n:opV G false [.arr 3 0 [] true,.arr 3 0 [] true,.arr 3 (a++b).length (aI (a++b)) true] (.call Fn.al) (some [.own 2 (a++b).length (a++b).length])=some (.sl (aI (eK a b)),[.arr 3 0 [] true,.arr 3 0 [] true,.arr 3 (a++b).length (aI (gX (a++b))) true]):=by
        rw[dV t];simp only[yR,oG,wL,DX];rw[if_pos ⟨trivial,trivial,by rw[iS];exact p⟩,D];rfl
       generalize(a++b).length=N at*;generalize aI (gX (a++b))=I at*;generalize aI (a++b)=F at*;generalize aI a=j at*;generalize aI b=k at*;simp[Mc.cf,Ks.cf,aC,g,i,q,m,n,aJ,Rs.cf,-gF]
   ·cases c
  ·cases c
 ·cases c
def nM(o:Org):Bool:=dO o.inn&&dO o.by_&&dO o.lst
def yU:List AV->Option AV
 |[.agg a]=>match uV a with
  |some o=>if okO o=true then some (.bool (nM o))else none|none=>none
 |_=>none
theorem zg5{G:Gam}{f:FuncId}(h:G f=some (.pure yU)){o:Org}(a:okO o=true)(c:Bool)(H:aA):opV G c H (.call f) (some [.agg o.cells])=some (.bool (nM o),H):=cU h (us:=[.agg o.cells]) (by simp[Org.cells,cV,view]) (by simp only[yU,zt2];rw[if_pos a]) (.inl rfl)
theorem xc4{G:Gam}(d:G Fn.bt=some (.pure yL)):PW G Mc.c0 Rs.c0 Ks.c0 yU:=by
 intro v r a;unfold yU at a;split at a
 ·split at a
  ·rename_i m o n;split at a
   ·rename_i p;injection a with a;subst a;obtain rfl:=PL n;obtain⟨k1,k2,k3⟩:=xe4 p;have e:=fun u=>OW (G:=G) o u [];have q:∀c:aA,aB 1 false (.cells o.cells::c) (.ptr 0 0)=some (.sl (aI o.inn)):=fun c=>bT (l:=0) rfl rfl;have s:∀c:aA,aB 1 false (.cells o.cells::c) (.ptr 0 1)=some (.sl (aI o.by_)):=fun c=>bT (l:=0) rfl rfl;have t:∀c:aA,aB 1 false (.cells o.cells::c) (.ptr 0 2)=some (.sl (aI o.lst)):=fun c=>bT (l:=0) rfl rfl;have f:=NK d k1;have g:=NK d k2;have h:=NK d k3;rw[aT];unfold nM;simp at e;generalize o.cells=m at*;cases i:dO o.inn<;>rw[i]at f<;>cases j:dO o.by_<;>rw[j]at g<;>cases k:dO o.lst<;>rw[k]at h<;>simp[Mc.c0,Ks.c0,aC,e,q,s,t,f,g,h,aJ,Rs.c0,-aB]
   ·cases a
  ·cases a
 ·cases a
end
def setRow(l:List Sp):List AV:=[.sl (aI l)]
def DV:List AV->Option (List Sp)
 |[.sl r]=>dW jL r|_=>none
@[simp]theorem yD0(l:List Sp):DV (setRow l)=some l:=by simp[DV,setRow]
theorem yC9{r:List AV}{l:List Sp}(h:DV r=some l):r=setRow l:=by
 unfold DV at h;split at h;·rw[rX h];rfl
 ·cases h
def joinL:List Sp->List (List Sp)->List Sp
 |a,[]=>a|a,l::r=>joinL (eK a l) r
def lV:List (List Sp)->Nat
 |[]=>0|l::r=>l.length+lV r
def yT:List AV->Option AV
 |[.sl a]=>match dW DV a with
  |some L=>if(L.all dO)=true/\lV L<=1000000/\L.length<=100 then some (.sl (aI (joinL [] L)))else none|none=>none
 |_=>none
theorem QU:∀(L:List (List Sp))(a:List Sp),dO a=true->(L.all dO)=true->dO (joinL a L)=true/\(joinL a L).length<=a.length+lV L/\∀x,eG (joinL a L) x=(eG a x||L.any fun l=>eG l x)
 |[],a,h,_=>⟨h,by simp[joinL,lV],fun x=>by simp[joinL]⟩|l::r,a,h,c=>by
  simp only[sL,bR]at c;obtain⟨d,e⟩:=KQ h c.1;have i:=YQ h c.1;obtain⟨f,j,g⟩:=QU r (eK a l) d c.2;refine⟨f,by simp only[joinL,lV];omega,fun x=>?_⟩;simp only[joinL,List.any_cons];rw[g,e,Bool.or_assoc]
abbrev P33(b:Bool):aA:=[.arr 3 0 [] true,.arr 3 0 [] b]
theorem xr7{L:List (List Sp)}{i:Nat}{l:List Sp}(h:L[i]?=some l):(L.map setRow)[i]?=some (setRow l):=by simp[h]
theorem zP0{G:Gam}(h:G Fn.cf=some (.pure yK))(L:List (List Sp))(r:L.length<=100)(R:List Sp):∀(e:List (List Sp))(i:Nat)(a:List Sp)(b:Bool)(X:AV)(_:AV),L.drop i=e->i<=L.length->(X=.sl (aI a)\/(X=.own 1 0 0/\a=[]))->dO a=true->(e.all dO)=true->a.length+lV e<=1000000->R=joinL a e->cY G [5] Mc.a7_L0 2 [.blk 0,.seq (.seq (.reg [zm 19 3,zM 2 19]) .ret)] (aJ Rs.a7 (.sl (aI R))) [(0,.sl (L.map setRow)),(2,.own 0 0 0),(3,X),(5,.junk),(6,.sl (L.map setRow)),(7,.n L.length),(8,.n i)] (P33 b)
 |[],i,a,b,X,q,k,u,j,f,d,p,g=>by
  have M:=drop_nil k;have m:ltB (i:Int) (L.length:Int)=false:=dQ.2 (by omega);simp only[joinL]at g;subst g;have y:view (P33 b) X=some (.sl (aI R)):=by
   rcases j with rfl|⟨rfl,rfl⟩;·rfl
   ·rfl
  refine bQ (Mc.a7_L0.eq_1) ?_;rw[fJ (n:=2) rfl];simp[m,y,aJ,Rs.a7]|l::e,i,a,b,X,q,k,u,j,f,d,p,g=>by
  obtain⟨O,A,B⟩:=lG k;simp only[sL,bR]at d;simp only[lV]at p;have m:ltB (i:Int) (L.length:Int)=true:=cH.2 (by omega);have z:=iJ (i:=i) (by unfold big;omega);have t:=xr7 A;have C:∀H,bN 1 H (.sl (L.map setRow)) (.n (i:Int))=some (.fptr (setRow l) 0):=fun H=>by
   have:(setRow l).length=1:=rfl;simp[bN,t,this]
  have D:∀H,aB 1 false H (.fptr (setRow l) 0)=some (.sl (aI l)):=fun H=>by simp[aB,cut,aD,setRow]
  have n:=yk4 (yf3 f (by omega)) (yf3 d.1 (by omega)) (a:=a) (b:=l) (by omega);have w:qO a l=(eK a l,0):=by simp[qO,f,d.1]
  rw[w]at n;have v:=(KQ f d.1).1;have N:=YQ f d.1;have E:=fun c=>zP0 h L r R e (i+1) (eK a l) c (.sl (aI (eK a l))) .junk B (by omega) (.inl rfl) v d.2 (by omega) g;obtain⟨c,s⟩:∃c,opV G false (P33 b) (.call Fn.cf) (some [X,.sl (aI l)])=some (.tup [.sl (aI (eK a l)),.n 0],P33 c):=by
   rcases j with rfl|⟨rfl,rfl⟩;·exact⟨b,cU h (us:=[.sl (aI a),.sl (aI l)]) rfl n (.inr rfl)⟩
   ·refine⟨false,?_⟩;rw[xf8 h (us:=[.sl (aI []),.sl (aI l)]) rfl n rfl];rfl
  have F:=E c;have I:∀o,trunc 2 o (P33 c)=P33 c:=fun o=>fJ rfl;refine bQ (Mc.a7_L0.eq_1) ?_;rw[fJ (n:=2) rfl];generalize P33 b=J at*;generalize P33 c=K at*;simp[m,C,D,s,z,-aB];refine dT ?_;rw[I];simpa[Rs.a7]using F
theorem xc3{G:Gam}(g:G Fn.cf=some (.pure yK)):PW G Mc.a7 Rs.a7 Ks.a7 yT:=by
 intro j r a;unfold yT at a;split at a
 ·split at a
  ·rename_i L i;split at a
   ·rename_i h;injection a with a;subst a;obtain⟨d,e,f⟩:=h;obtain rfl:=rC (enc:=setRow) (fun r x=>yC9) i;have c:=zP0 g L f (joinL [] L) L 0 [] true (.own 1 0 0) .junk rfl (by omega) (.inr ⟨rfl,rfl⟩) rfl d (by simpa using e) rfl;rw[aT];simp[Mc.a7,Ks.a7,aC];simpa using c
   ·cases a
  ·cases a
 ·cases a
theorem vS{G:Gam}(h:G Fn.a7=some (.pure yT)){L:List (List Sp)}(a:(L.all dO)=true)(c:lV L<=1000000)(d:L.length<=100)(e:Bool)(H:aA):opV G e H (.call Fn.a7) (some [.tsl (L.map setRow)])=some (.sl (aI (joinL [] L)),H):=cU h (us:=[.sl (L.map setRow)]) rfl (by
 have:dW DV (L.map setRow)=some L:=mQ yD0 L;simp only[yT,this];rw[if_pos ⟨a,c,d⟩]) (.inr rfl)
theorem zg6{l m:List Sp}(a:dO l=true)(c:dO m=true)(h:∀x,eG l x=eG m x):l=m:=WS (vT.1 a).2 (vT.1 c).2 h
theorem QV{a:List Sp}(c:dO a=true):joinL [] [a]=a:=by
 obtain⟨d,_,e⟩:=QU [a] [] rfl (by simp[c]);exact zg6 d c fun x=>by rw[e];simp[eG]
theorem QW{a b:List Sp}(c:dO a=true)(d:dO b=true):joinL [] [a,b]=eK a b:=by
 obtain⟨e,_,f⟩:=QU [a,b] [] rfl (by simp[c,d]);obtain⟨g,h⟩:=KQ c d;exact zg6 e g fun x=>by rw[f,h];simp[eG]
theorem yW0{a b c:List Sp}(d:dO a=true)(e:dO b=true)(f:dO c=true):joinL [] [a,b,c]=eK a (eK b c):=by
 obtain⟨g,_,h⟩:=QU [a,b,c] [] rfl (by simp[d,e,f]);obtain⟨i,j⟩:=KQ e f;obtain⟨k1,k2⟩:=KQ d i;exact zg6 g k1 fun x=>by rw[h,k2,j];simp[eG]
def oNil:Org:=⟨[],[],[]⟩
def unE(a b:Org):Org×Int:=if nM a&&nM b then(⟨eK a.inn b.inn,eK a.by_ b.by_,eK a.lst b.lst⟩,0)else(oNil,1)
def YY(o:Org):List Sp:=eK o.inn (eK o.by_ o.lst)
def DL(o:Org)(r:Int):Org:=if r=2 then⟨[],YY o,[]⟩else if r=3 then⟨[],o.by_,eK o.inn o.lst⟩else o
def nT(o:Org)(r:Int):Org×Int:=if nM o then(if r<1\/3<r then(oNil,3)else(DL o r,0))else(oNil,1)
def smO(o:Org):Bool:=okO o&&decide (o.inn.length<=100000)&&decide (o.by_.length<=100000)&&decide (o.lst.length<=100000)
theorem ze2{o:Org}(h:smO o=true):okO o=true/\o.inn.length<=100000/\o.by_.length<=100000/\o.lst.length<=100000:=by simpa[smO,and_assoc]using h
def oA:List AV->Option AV
 |[.agg c,.agg d]=>match uV c,uV d with
  |some a,some b=>if smO a=true/\smO b=true then some (.tup [.agg (unE a b).1.cells,.n (unE a b).2])else none|_,_=>none
 |_=>none
def pD:List AV->Option AV
 |[.agg c,.n r]=>match uV c with
  |some a=>if smO a=true then some (.tup [.agg (nT a r).1.cells,.n (nT a r).2])else none|_=>none
 |_=>none
theorem ZU{o:Org}(h:nM o=true):dO o.inn=true/\dO o.by_=true/\dO o.lst=true:=by simpa[nM,and_assoc]using h
theorem YU(H:aA){l:Nat}{o:Org}(h:H[l]?=some (.cells o.cells)):aB 3 true H (.ptr l 0)=some (.agg o.cells):=EP h rfl
theorem SA:oNil.cells=[.sl [],.sl [],.sl []]:=rfl
theorem xc2{G:Gam}(u:G Fn.c0=some (.pure yU))(o:G Fn.a7=some (.pure yT)):PW G Mc.b3 Rs.b3 Ks.b3 oA:=by
 intro Z c1 d;unfold oA at d;split at d
 ·split at d
  ·rename_i f g a b J K;split at d
   ·rename_i v;injection d with d;subst d;obtain rfl:=PL J;obtain rfl:=PL K;obtain⟨F,W,X,Y⟩:=ze2 v.1;obtain⟨H,b2,b3,b4⟩:=ze2 v.2;have k:=fun i=>OW (G:=G) a i [];have m:=fun i=>OW (G:=G) b i [.cells a.cells];have p:∀x y:Blk,aB 3 true [.cells a.cells,x,y] (.ptr 0 0)=some (.agg a.cells):=fun x y=>YU _ rfl;have w:∀y:Blk,aB 3 true [.cells a.cells,.cells b.cells,y] (.ptr 1 0)=some (.agg b.cells):=fun y=>YU _ rfl;have L:∀c:aA,aB 1 false (.cells a.cells::c) (.ptr 0 0)=some (.sl (aI a.inn)):=fun c=>bT (l:=0) rfl rfl;have M:∀c:aA,aB 1 false (.cells a.cells::c) (.ptr 0 1)=some (.sl (aI a.by_)):=fun c=>bT (l:=0) rfl rfl;have N:∀c:aA,aB 1 false (.cells a.cells::c) (.ptr 0 2)=some (.sl (aI a.lst)):=fun c=>bT (l:=0) rfl rfl;have O:∀c:aA,aB 1 false (.cells a.cells::.cells b.cells::c) (.ptr 1 0)=some (.sl (aI b.inn)):=fun c=>bT (l:=1) rfl rfl;have Q:∀c:aA,aB 1 false (.cells a.cells::.cells b.cells::c) (.ptr 1 1)=some (.sl (aI b.by_)):=fun c=>bT (l:=1) rfl rfl;have S:∀c:aA,aB 1 false (.cells a.cells::.cells b.cells::c) (.ptr 1 2)=some (.sl (aI b.lst)):=fun c=>bT (l:=1) rfl rfl;have j:=zg5 u F;have n:=zg5 u H;rw[aT];simp at k m;cases f:nM a with
    |false=>
     rw[f]at j;have e:unE a b=(oNil,1):=by simp[unE,f]
     rw[e,SA];generalize a.cells=s at*;generalize b.cells=t at*;simp[Mc.b3,Ks.b3,aC,k,m,p,j,eB,aJ,Rs.b3,-aB];simp[aB,cut,aD]|true=>
     rw[f]at j;cases g:nM b with
     |false=>
      rw[g]at n;have e:unE a b=(oNil,1):=by simp[unE,g]
      rw[e,SA];generalize a.cells=s at*;generalize b.cells=t at*;simp[Mc.b3,Ks.b3,aC,k,m,p,w,j,n,eB,aJ,Rs.b3,-aB];simp[aB,cut,aD]|true=>
      rw[g]at n;obtain⟨z,A,B⟩:=ZU f;obtain⟨C,D,E⟩:=ZU g;have e:unE a b=(⟨eK a.inn b.inn,eK a.by_ b.by_,eK a.lst b.lst⟩,0):=by simp[unE,f,g]
      have I:∀(x y:List (List AV))i h,opV G i h (.bsl false 1) (some [.sl x,.sl y])=some (.tsl [[.sl x],[.sl y]],h):=fun x y i h=>by rw[gF rfl];rfl
      have q:=vS o (L:=[a.inn,b.inn]) (by simp[z,C]) (by simp[lV];omega) (by simp);have r:=vS o (L:=[a.by_,b.by_]) (by simp[A,D]) (by simp[lV];omega) (by simp);have u3:=vS o (L:=[a.lst,b.lst]) (by simp[B,E]) (by simp[lV];omega) (by simp);rw[QW z C]at q;rw[QW A D]at r;rw[QW B E]at u3;simp only[fE,pN,setRow]at q r u3;rw[e];simp only[Org.cells];rw[show[AV.sl (aI a.inn),.sl (aI a.by_),.sl (aI a.lst)]=a.cells from rfl,show[AV.sl (aI b.inn),.sl (aI b.by_),.sl (aI b.lst)]=b.cells from rfl];generalize a.cells=s at*;generalize b.cells=t at*;generalize aI (eK a.inn b.inn)=T at*;generalize aI (eK a.by_ b.by_)=U at*;generalize aI (eK a.lst b.lst)=V at*;simp[Mc.b3,Ks.b3,aC,k,m,p,w,L,M,N,O,Q,S,j,n,I,q,r,u3,eB,aJ,Rs.b3,-aB,-gF];simp[aB,cut,aD]
   ·cases d
  ·cases d
 ·cases d
section
variable{os:List Sp}{cur:Sp}{dn:List Sp}
end
theorem xc1{G:Gam}(S:G Fn.c0=some (.pure yU))(n:G Fn.a7=some (.pure yT)):PW G Mc.bs Rs.bs Ks.bs pD:=by
 intro Z r d;unfold pD at d;split at d
 ·rename_i g i;split at d
  ·rename_i a T;split at d
   ·rename_i U;injection d with d;subst d;obtain rfl:=PL T;obtain⟨N,W,X,Y⟩:=ze2 U;have o:=fun f=>OW (G:=G) a f [];have t:∀x:Blk,aB 3 true [.cells a.cells,x] (.ptr 0 0)=some (.agg a.cells):=fun x=>YU _ rfl;have B:∀j:aA,aB 1 false (.cells a.cells::j) (.ptr 0 0)=some (.sl (aI a.inn)):=fun j=>bT (l:=0) rfl rfl;have C:∀j:aA,aB 1 false (.cells a.cells::j) (.ptr 0 1)=some (.sl (aI a.by_)):=fun j=>bT (l:=0) rfl rfl;have D:∀j:aA,aB 1 false (.cells a.cells::j) (.ptr 0 2)=some (.sl (aI a.lst)):=fun j=>bT (l:=0) rfl rfl;have m:=zg5 S N;have H:∀(x:List (List AV))f h,opV G f h (.bsl false 1) (some [.sl x])=some (.tsl [[.sl x]],h):=fun x f h=>by rw[gF rfl];rfl
    have O:∀(x y:List (List AV))f h,opV G f h (.bsl false 1) (some [.sl x,.sl y])=some (.tsl [[.sl x],[.sl y]],h):=fun x y f h=>by rw[gF rfl];rfl
    have Q:∀(x y z:List (List AV))f h,opV G f h (.bsl false 1) (some [.sl x,.sl y,.sl z])=some (.tsl [[.sl x],[.sl y],[.sl z]],h):=fun x y z f h=>by rw[gF rfl];rfl
    rw[aT];simp at o;cases g:nM a with
    |false=>
     rw[g]at m;have e:nT a i=(oNil,1):=by simp[nT,g]
     rw[e,SA];generalize a.cells=v at*;simp[Mc.bs,Ks.bs,aC,o,t,m,eB,aJ,Rs.bs,-aB];simp[aB,cut,aD]|true=>
     rw[g]at m;obtain⟨p,q,s⟩:=ZU g;by_cases J:i=1
     ·subst J;obtain⟨b,A⟩:∃b:Org,b=a:=⟨_,rfl⟩;have e:nT a 1=(b,0):=by rw[A];simp[nT,g,DL]
      have I:b.cells=[AV.sl (aI a.inn),.sl (aI a.by_),.sl (aI a.lst)]:=by rw[A];rfl
      have u:eqB 1 1=true:=rfl;have c:=vS n (L:=[a.inn]) (by simp[p]) (by simp[lV];omega) (by simp);have k:=vS n (L:=[a.by_]) (by simp[q]) (by simp[lV];omega) (by simp);have u3:=vS n (L:=[a.lst]) (by simp[s]) (by simp[lV];omega) (by simp);rw[QV p]at c;rw[QV q]at k;rw[QV s]at u3;simp only[fE,pN,setRow]at c k u3;rw[e,I];clear e I A;generalize a.cells=v at*;generalize aI a.inn=F at*;generalize aI a.by_=M at*;generalize aI a.lst=V at*;simp[Mc.bs,Ks.bs,aC,o,t,B,C,D,m,H,c,k,u3,eB,aJ,Rs.bs,-aB,-gF];simp[aB,cut,aD]
     ·have u:eqB i 1=false:=gM.2 J;by_cases K:i=2
      ·subst K;have e:nT a 2=(⟨[],YY a,[]⟩,0):=by simp[nT,g,DL]
       have w:eqB 2 2=true:=rfl;have c:=vS n (L:=[a.inn,a.by_,a.lst]) (by simp[p,q,s]) (by simp[lV];omega) (by simp);rw[yW0 p q s]at c;simp only[fE,pN,setRow]at c;rw[e];simp only[Org.cells,YY,show aI []=[]from rfl];rw[show[AV.sl (aI a.inn),.sl (aI a.by_),.sl (aI a.lst)]=a.cells from rfl];generalize a.cells=v at*;generalize aI (eK a.inn (eK a.by_ a.lst))=F at*;simp[Mc.bs,Ks.bs,aC,o,t,B,C,D,m,u,Q,c,eB,aJ,Rs.bs,-aB,-gF];simp[aB,cut,aD]
      ·have w:eqB i 2=false:=gM.2 K;by_cases L:i=3
       ·subst L;have e:nT a 3=(⟨[],a.by_,eK a.inn a.lst⟩,0):=by simp[nT,g,DL]
        have E:eqB 3 3=true:=rfl;have c:=vS n (L:=[a.by_]) (by simp[q]) (by simp[lV];omega) (by simp);have k:=vS n (L:=[a.inn,a.lst]) (by simp[p,s]) (by simp[lV];omega) (by simp);rw[QV q]at c;rw[QW p s]at k;simp only[fE,pN,setRow]at c k;rw[e];simp only[Org.cells,show aI []=[]from rfl];rw[show[AV.sl (aI a.inn),.sl (aI a.by_),.sl (aI a.lst)]=a.cells from rfl];generalize a.cells=v at*;generalize aI (eK a.inn a.lst)=F at*;generalize aI a.by_=M at*;simp[Mc.bs,Ks.bs,aC,o,t,B,C,D,m,u,w,H,O,c,k,eB,aJ,Rs.bs,-aB,-gF];simp[aB,cut,aD]
       ·have E:eqB i 3=false:=gM.2 L;have e:nT a i=(oNil,3):=by
         simp only[nT,g,aM];rw[if_pos (by omega)]
        rw[e,SA];generalize a.cells=v at*;simp[Mc.bs,Ks.bs,aC,o,t,m,u,w,E,eB,aJ,Rs.bs,-aB];simp[aB,cut,aD]
   ·cases d
  ·cases d
 ·cases d
end Go.Proofs.YtpefhfiehfkocaaGreatDoor
