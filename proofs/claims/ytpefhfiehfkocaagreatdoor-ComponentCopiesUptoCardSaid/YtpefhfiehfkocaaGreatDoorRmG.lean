/- strings -/
import Derived.Test.YtpefhfiehfkocaaGreatDoorRmA
namespace Go.Proofs.YtpefhfiehfkocaaGreatDoor
open Go.RowKit Go.IntWalk
theorem yh6{G:Gam}(d:G Fn.dw=some (.pure yF)):PW G Mc.c7 Rs.c7 Ks.c7 yF:=by
 intro f r b;have a:=b;unfold yF at a;split at a
 ·rename_i s;split at a
  ·injection a with e;subst e;have c:∀st h,opV G st h (.call Fn.dw) (some [.str s])=some (.str s,h):=fun st h=>cU d (us:=[.str s]) rfl b (.inl rfl);rw[aT];simp[Mc.c7,aC,Ks.c7,c,aJ,Rs.c7]
  ·cases a
 ·cases a
theorem yk6{G:Gam}(d:G Fn.du=some (.pure qR)):PW G Mc.c9 Rs.c9 Ks.c9 qR:=by
 intro f r b;have a:=b;unfold qR at a;split at a
 ·rename_i s t;injection a with e;subst e;have c:∀st h,opV G st h (.call Fn.du) (some [.str s,.str t])=some (.bool (t.isPrefixOf s),h):=fun st h=>cU d (us:=[.str s,.str t]) rfl b (.inl rfl);rw[aT];simp[Mc.c9,aC,Ks.c9,c,aJ,Rs.c9]
 ·cases a
def MJ(x k:Int):Int:=oo (sl x (an (IntKind.u64.wrap k) 63)) (sr x (IntKind.u64.wrap (64-an (IntKind.u64.wrap k) 63)))
def NX:List AV->Option AV:=F2 (gV .u64) eInt (gV .u64) fun x k=>some (MJ x k)
theorem xn3(G:Gam):PW G Mc.c1 Rs.c1 Ks.c1 NX:=zi3 fun x k r h=>by
 injection h with h;subst h;rw[aT];have a:0<=an (IntKind.u64.wrap k) 63:=yf7 _;have b:0<=IntKind.u64.wrap (64-an (IntKind.u64.wrap k) 63):=yf7 _;simp[Mc.c1,aC,Ks.c1,gV,eInt,Rs.c1,zp4 a,zp5 b,MJ]
theorem uZ{cs:List Int}{i:Nat}(a:i<cs.length):(wd cs)[i]?=some (.u (cs.getD i 0)):=by simp[List.getD,gI a]
theorem yL1{cs:List Int}{i:Nat}(a:i<cs.length):(nm cs)[i]?=some (.n (cs.getD i 0)):=by simp[List.getD,gI a]
theorem MV(a:List Int)(i:Nat)(x:Int):(wd a).set i (.u x)=wd (a.set i x):=by simp[List.map_set]
theorem xU(i:Nat):∃x:Nat,x=i%5/\x<5/\bY .rem (.n i) (.n 5)=some (.n x):=by
 refine⟨i%5,rfl,Nat.mod_lt _ (by decide),?_⟩;have e:((i:Int).tmod 5)=((i%5:Nat):Int):=by rw[Int.tmod_eq_emod_of_nonneg (by omega)];omega
 simp only[bY,jJ];simp[e]
theorem xk1{i:Nat}(b:i<1000):∃y:Nat,y=i/5/\bY .quo (.n i) (.n 5)=some (.n y):=by
 refine⟨i/5,rfl,?_⟩;have e:((i:Int).tdiv 5)=((i/5:Nat):Int):=by rw[IJ (by omega)];omega
 have a:IntKind.i64.wrap ((i/5:Nat):Int)=((i/5:Nat):Int):=mC (by omega) (by omega);simp only[bY,jJ];simp only[reduceCtorEq,or_self,bH,aM,e,a];simp
def nI(a:List Int)(i:Nat):List Int->List Int
 |[]=>a|w::r=>nI (a.set (i%5) (xo (a.getD (i%5) 0) w)) (i+1) r
theorem zs0:∀(r:List Int)(a:List Int)(i:Nat),(nI a i r).length=a.length
 |[],_,_=>rfl|w::r,a,i=>by rw[nI,zs0 r];simp
abbrev h4(st b c a:List Int):aA:=[.cells (wd st),.cells (nm b),.cells (wd c),.cells (wd a)]
abbrev rH(st r:List Int)(c:Int)(p q a b d e f g i j k m n o:AV):List (Nat×AV):=[(0,.agg (wd st)),(1,.agg (nm r)),(2,.u c),(3,.ptr 0 0),(4,.ptr 1 0),(6,.ptr 2 0),(7,.ptr 3 0),(8,p),(9,q),(10,a),(11,b),(12,d),(13,e),(14,f),(15,g),(16,i),(17,j),(18,k),(30,m),(31,n),(69,o)]
theorem zV9(G:Gam)(st b:List Int)(z:st.length=25)(c:Int)(f:List Int){ks:List MK}{Q:aS}:∀(rest:List Int)(i:Nat)(a:List Int),st.drop i=rest->i<=25->a.length=5->(∀q,exM G .normal ks Q q (rH st b c .junk .junk .junk .junk .junk .junk .junk .junk .junk (.agg (wd st)) (.n 25) .junk .junk .junk) (h4 st b f (nI a i rest)))->cY G [8,9] Mc.au_L0 4 (.blk 0::ks) Q (rH st b c .junk .junk .junk .junk .junk .junk .junk .junk .junk (.agg (wd st)) (.n i) .junk .junk .junk) (h4 st b f a)
 |[],i,a,j,r,n,d=>by
  have u:=drop_nil j;have e:i=25:=by omega
  subst e;have H:ltB 25 25=false:=rfl;refine bQ (Mc.au_L0.eq_1) ?_;rw[eJ (n:=4) rfl];have:=d;simp only[nI]at this;simp;simpa using this _|w::rest,i,a,j,r,n,d=>by
  obtain⟨u,B,D⟩:=lG j;have t:ltB i 25=true:=cH.2 (by omega);have A:=iJ (i:=i) (by unfold big;omega);obtain⟨x,E,C,y⟩:=xU i;simp only[nI,<-E]at d;have F:=fun k h=>za0 (G:=G) (s:=k) (h:=h) (len:=25) (i:=i) (k:=.i64) (cs:=wd st) (v:=.u w) (by omega) (by simp[B]);have m:=fun k h=>qC (G:=G) (s:=k) (h:=h) (len:=5) (size:=1) (l:=3) (off:=0) (i:=x) (k:=.i64) C (by decide);have p:=sV (uZ (cs:=a) (i:=x) (by omega));have g:=NC (h:=h4 st b f a) (l:=3) (off:=x) (vs:=wd a) (k:=.u64) (n:=xo (a.getD x 0) w) rfl (by simp;omega);rw[MV]at g;have o:=zV9 G st b z c f rest (i+1) (a.set x (xo (a.getD x 0) w)) D (by omega) (by simpa using n) d;generalize a.getD x 0=v at p g o;simp only[eT,sQ,List.set]at m g;refine bQ (Mc.au_L0.eq_1) ?_;rw[eJ (n:=4) rfl];simp[t,F,y,m,p,g,A,-aQ];refine dT ?_;rw[eJ (n:=4) rfl];simpa[rH,h4,wd]using o
def qN(b a:List Int)(t:List Int)(i:Nat):List Int->List Int
 |[]=>t|w::r=>qN b a (t.set (i/5+5*((2*(i%5)+3*(i/5))%5)) (MJ (xo w (xo (a.getD ((i%5+4)%5) 0) (MJ (a.getD ((i%5+1)%5) 0) 1))) (b.getD i 0))) (i+1) r
theorem ye5(b a:List Int):∀(r t:List Int)(i:Nat),(qN b a t i r).length=t.length
 |[],_,_=>rfl|w::r,t,i=>by rw[qN,ye5 b a r];simp
abbrev h5(st b c a t:List Int):aA:=[.cells (wd st),.cells (nm b),.cells (wd c),.cells (wd a),.cells (wd t)]
theorem zW0(G:Gam)(D:G Fn.c1=some (.pure NX))(st f:List Int)(Z:st.length=25)(W:f.length=25)(c:Int)(m d:List Int)(P:d.length=5){ks:List MK}{Q:aS}:∀(rest:List Int)(i:Nat)(t:List Int),st.drop i=rest->i<=25->t.length=25->(∀O,exM G .normal ks Q O (rH st f c .junk .junk (.ptr 4 0) .junk .junk .junk .junk .junk .junk (.agg (wd st)) (.n 25) (.agg (wd st)) (.n 25) .junk) (h5 st f m d (qN f d t i rest)))->cY G [11,12,13,14] Mc.au_L1 5 (.blk 2::ks) Q (rH st f c .junk .junk (.ptr 4 0) .junk .junk .junk .junk .junk .junk (.agg (wd st)) (.n 25) (.agg (wd st)) (.n i) .junk) (h5 st f m d t)
 |[],i,t,p,S,I,j=>by
  have V:=drop_nil p;have e:i=25:=by omega
  subst e;refine bQ (Mc.au_L1.eq_1) ?_;rw[eJ (n:=5) rfl];have:=j;simp only[qN]at this;simp;simpa using this _|f3::rest,i,t,p,S,I,j=>by
  obtain⟨V,hx,e1⟩:=lG p;have U:ltB i 25=true:=cH.2 (by omega);have hw:=iJ (i:=i) (by unfold big;omega);obtain⟨x,e2,g2,Y⟩:=xU i;obtain⟨y,e3,X⟩:=xk1 (i:=i) (by omega);have g3:y<5:=by omega
  obtain⟨r,d1,b3,F⟩:=xU (x+4);obtain⟨q,b2,b1,E⟩:=xU (x+1);obtain⟨z,f1,h1,H⟩:=xU (2*x+3*y);simp only[qN,<-e2,<-e3,<-d1,<-b2,<-f1]at j;have J:IntKind.i64.wrap ((x:Int)+4)=((x+4:Nat):Int):=mC (by omega) (by omega);have K:IntKind.i64.wrap ((x:Int)+1)=((x+1:Nat):Int):=mC (by omega) (by omega);have w3:IntKind.i64.wrap (2*(x:Int))=2*x:=mC (by omega) (by omega);have w4:IntKind.i64.wrap (3*(y:Int))=3*y:=mC (by omega) (by omega);have L:IntKind.i64.wrap (2*(x:Int)+3*y)=((2*x+3*y:Nat):Int):=by rw[mC (by omega) (by omega)];omega
  have w6:IntKind.i64.wrap (5*(z:Int))=5*z:=mC (by omega) (by omega);have M:IntKind.i64.wrap ((y:Int)+5*z)=((y+5*z:Nat):Int):=by rw[mC (by omega) (by omega)];omega
  have ia:=fun b h=>za0 (G:=G) (s:=b) (h:=h) (len:=25) (i:=i) (k:=.i64) (cs:=wd st) (v:=.u f3) (by omega) (by simp[hx]);have u:=fun b h=>qC (G:=G) (s:=b) (h:=h) (len:=5) (size:=1) (l:=3) (off:=0) (i:=r) (k:=.i64) b3 (by decide);have v:=fun b h=>qC (G:=G) (s:=b) (h:=h) (len:=5) (size:=1) (l:=3) (off:=0) (i:=q) (k:=.i64) b1 (by decide);have w:=fun b h=>qC (G:=G) (s:=b) (h:=h) (len:=25) (size:=1) (l:=1) (off:=0) (i:=i) (k:=.i64) (by omega) (by decide);have o:=fun b h=>qC (G:=G) (s:=b) (h:=h) (len:=25) (size:=1) (l:=4) (off:=0) (i:=y+5*z) (k:=.i64) (by omega) (by decide);have A:=sV (uZ (cs:=d) (i:=r) (by omega));have B:=sV (uZ (cs:=d) (i:=q) (by omega));have C:=sV (yL1 (cs:=f) (i:=i) (by omega));have N:∀a k b h,opV G b h (.call Fn.c1) (some [.u a,.n k])=some (.u (MJ a k),h):=fun a k b h=>cU D rfl (zi4 (A:=gV .u64) (B:=eInt) (R:=gV .u64) (x:=a) (y:=k) rfl) (.inl rfl);have n:=fun f2=>NC (h:=h5 st f m d t) (l:=4) (off:=y+5*z) (vs:=wd t) (k:=.u64) (n:=f2) rfl (by simp;omega);simp only[MV]at n;have g:=zW0 G D st f Z W c m d P rest (i+1) _ e1 (by omega) (by rw[gT];exact I) j;generalize d.getD r 0=v4 at A g;generalize d.getD q 0=v1 at B g;generalize f.getD i 0=vo at C g;simp only[eT,sQ,List.set]at u v w o n;generalize y+5*z=g1 at M o n g;generalize 2*x+3*y=d2 at L H;generalize x+4=d3 at J F;generalize x+1=d4 at K E;refine bQ (Mc.au_L1.eq_1) ?_;rw[eJ (n:=5) rfl];simp[U,ia,Y,X,J,K,w3,w4,L,w6,M,F,E,H,u,v,w,o,A,B,C,N,n,hw,-aQ];refine dT ?_;rw[eJ (n:=5) rfl];simpa[rH,h5,wd]using g
def rL(t:List Int):Nat->Nat->List Int->List Int
 |0,_,a=>a|n+1,i,a=>rL t n (i+1) (a.set i (xo (t.getD i 0) (an (nt (t.getD (i-i%5+(i+1)%5) 0)) (t.getD (i-i%5+(i+2)%5) 0))))
theorem ZP(t:List Int):∀(n i:Nat)(a:List Int),(rL t n i a).length=a.length
 |0,_,_=>rfl|n+1,i,a=>by rw[rL,ZP t n];simp
theorem zW1(G:Gam)(st d:List Int)(c:Int)(o m t:List Int)(U:t.length=25){ks:List MK}{Q:aS}:∀(n i:Nat)(a:List Int),n+i=25->a.length=25->(∀K,exM G .normal ks Q K (rH st d c .junk .junk (.ptr 4 0) .junk .junk .junk .junk .junk .junk (.agg (wd st)) (.n 25) (.agg (wd st)) (.n 25) (.n 25)) (h5 (rL t n i a) d o m t))->cY G [15,16] Mc.au_L2 5 (.blk 4::ks) Q (rH st d c .junk .junk (.ptr 4 0) .junk .junk .junk .junk .junk .junk (.agg (wd st)) (.n 25) (.agg (wd st)) (.n 25) (.n i)) (h5 a d o m t)
 |0,i,a,O,C,j=>by
  have e:i=25:=by omega
  subst e;refine bQ (Mc.au_L2.eq_1) ?_;rw[eJ (n:=5) rfl];have:=j;simp only[rL]at this;simp;simpa using this _|n+1,i,a,O,C,j=>by
  have N:ltB i 25=true:=cH.2 (by omega);have V:=iJ (i:=i) (by unfold big;omega);obtain⟨x,Y,d3,S⟩:=xU i;obtain⟨f,W,b3,D⟩:=xU (i+1);obtain⟨g,X,c3,E⟩:=xU (i+2);simp only[rL,<-Y,<-W,<-X]at j;have e3:x<=i:=by omega
  obtain⟨q,P⟩:∃q:Nat,q=i-x:=⟨_,rfl⟩;rw[<-P]at j;have b1:q<=20:=by omega
  have Z:IntKind.i64.wrap ((i:Int)-x)=(q:Nat):=by rw[mC (by omega) (by omega)];omega
  have F:IntKind.i64.wrap ((i:Int)+1)=((i+1:Nat):Int):=mC (by omega) (by omega);have H:IntKind.i64.wrap ((i:Int)+2)=((i+2:Nat):Int):=mC (by omega) (by omega);have I:IntKind.i64.wrap ((q:Int)+f)=((q+f:Nat):Int):=mC (by omega) (by omega);have J:IntKind.i64.wrap ((q:Int)+g)=((q+g:Nat):Int):=mC (by omega) (by omega);have z:=fun b h=>qC (G:=G) (s:=b) (h:=h) (len:=25) (size:=1) (l:=4) (off:=0) (i:=i) (k:=.i64) (by omega) (by decide);have p:=fun b h=>qC (G:=G) (s:=b) (h:=h) (len:=25) (size:=1) (l:=4) (off:=0) (i:=q+f) (k:=.i64) (by omega) (by decide);have r:=fun b h=>qC (G:=G) (s:=b) (h:=h) (len:=25) (size:=1) (l:=4) (off:=0) (i:=q+g) (k:=.i64) (by omega) (by decide);have A:=fun b h=>qC (G:=G) (s:=b) (h:=h) (len:=25) (size:=1) (l:=0) (off:=0) (i:=i) (k:=.i64) (by omega) (by decide);have B:=sV (uZ (cs:=t) (i:=i) (by omega));have u:=sV (uZ (cs:=t) (i:=q+f) (by omega));have w:=sV (uZ (cs:=t) (i:=q+g) (by omega));have y:=fun v=>NC (h:=h5 a d o m t) (l:=0) (off:=i) (vs:=wd a) (k:=.u64) (n:=v) rfl (by simp;omega);simp only[MV]at y;have k:=zW1 G st d c o m t U n (i+1) _ (by omega) (by rw[gT];exact C) j;generalize t.getD i 0=v0 at B k;generalize t.getD (q+f) 0=v1 at u k;generalize t.getD (q+g) 0=v2 at w k;simp only[eT,sQ,List.set]at z p r A y;generalize q+f=d1 at I p u;generalize q+g=d2 at J r w;have b2:∀e:Nat,e=i+1->True:=fun _ _=>trivial;obtain⟨e1,L⟩:∃e:Nat,e=i+1:=⟨_,rfl⟩;obtain⟨e2,M⟩:∃e:Nat,e=i+2:=⟨_,rfl⟩;rw[<-L]at F D V k;rw[<-M]at H E;refine bQ (Mc.au_L2.eq_1) ?_;rw[eJ (n:=5) rfl];simp[N,S,Z,F,H,I,J,D,E,z,p,r,A,B,u,w,y,xC2,-GO,-aQ];refine dT ?_;rw[eJ (n:=5) rfl];simpa[rH,h5,wd]using k
def jO(st a:List Int)(c:Int):List Int:=let t:=qN a (nI (List.replicate 5 0) 0 st) (List.replicate 25 0) 0 st
 let m:=rL t 25 0 st
 m.set 0 (xo (m.getD 0 0) c)
theorem TD{st a:List Int}{c:Int}:(jO st a c).length=st.length:=by simp[jO,ZP]
def NY:List AV->Option AV:=F3 (pT rW) (pT rN) (gV .u64) (pT rW) fun st a c=>if st.length=25/\a.length=25 then some (jO st a c)else none
theorem xn8(G:Gam)(U:G Fn.c1=some (.pure NX)):PW G Mc.au Rs.au Ks.au NY:=yj5 fun st a c r h=>by
 split at h
 ·rename_i V;obtain⟨d,I⟩:=V;injection h with h;subst h;rw[aT];simp only[zu5,yF9];obtain⟨z,u⟩:∃z,z=List.replicate 25 (0:Int):=⟨_,rfl⟩;obtain⟨y,q⟩:∃y,y=List.replicate 5 (0:Int):=⟨_,rfl⟩;have X:zz25=wd z:=by rw[u];rfl
  have Y:[AV.int .u64 0,.u 0,.u 0,.u 0,.u 0]=wd y:=by rw[q];rfl
  have w:z.length=25:=by rw[u];simp
  have K:y.length=5:=by rw[q];simp
  have x:=fun i Q g=>zV9 G st a d c z (ks:=i) (Q:=Q) st 0 y rfl (by omega) K g;have o:=fun i Q g=>zW0 G U st a d I c z (nI y 0 st) (by rw[zs0];exact K) (ks:=i) (Q:=Q) st 0 z rfl (by omega) w g;have j:=fun i Q g=>zW1 G st a c z (nI y 0 st) (qN a (nI y 0 st) z 0 st) (by rw[ye5];exact w) (ks:=i) (Q:=Q) 25 0 st rfl d g;have k:(rL (qN a (nI y 0 st) z 0 st) 25 0 st).length=25:=by rw[ZP];exact d
  have J:jO st a c=(rL (qN a (nI y 0 st) z 0 st) 25 0 st).set 0 (xo ((rL (qN a (nI y 0 st) z 0 st) 25 0 st).getD 0 0) c):=by simp only[jO,<-u,<-q]
  rw[J];clear J;generalize nI y 0 st=p at x o j k⊢;generalize qN a p z 0 st=t at o j k⊢;generalize rL t 25 0 st=m at j k⊢;have E:=sV (uZ (cs:=m) (i:=0) (by omega));have A:=fun v=>NC (h:=h5 m a z p t) (l:=0) (off:=0) (vs:=wd m) (k:=.u64) (n:=v) rfl (by simp;omega);simp only[MV]at A;have O:∀f h,opV G f h (.aadr 25 1) (some [.ptr 0 0,.n 0])=some (.ptr 0 0,h):=fun f h=>by simpa using qC (G:=G) (s:=f) (h:=h) (len:=25) (size:=1) (l:=0) (off:=0) (i:=0) (k:=.i64) (by omega) (by decide)
  generalize m.getD 0 0=N at E A⊢;obtain⟨b,H⟩:∃b,b=m.set 0 (xo N c):=⟨_,rfl⟩;have n:b.length=25:=by rw[H];simpa using k
  have B:=A (xo N c);rw[<-H]at B⊢;have M:=qM (h:=h5 b a z p t) (l:=2) (vs:=wd z) (us:=wd b) rfl (by simpa using w) (by simpa using n) (by omega) (uO (fun _=>rfl) b);have C:=fun f h=>jN (G:=G) (s:=f) (h:=h) (v:=.agg (wd st)) (by intro e;have:=congrArg List.length e;simp[AV.cells,d]at this);have D:=fun f h=>jN (G:=G) (s:=f) (h:=h) (v:=.agg (nm a)) (by intro e;have:=congrArg List.length e;simp[AV.cells,I]at this);have k1:=JQ (vs:=wd st) (n:=25) (by simpa using d);have k2:=JQ (vs:=wd b) (n:=25) (by simpa using n);have k3:(wd st).length=25:=by simpa using d
  have k4:(wd b).length=25:=by simpa using n
  have L:aD true 25 (wd st)=some (.agg (wd st)):=by simp[aD,d]
  have W:aD true 25 (wd b)=some (.agg (wd b)):=by simp[aD,n]
  have P:(AV.agg (wd st)).cells=wd st:=rfl;have S:(AV.agg (nm a)).cells=nm a:=rfl;simp only[P,S]at C D;simp only[List.set]at B M;simp only[Mc.au,X];simp only[Y];simp[rH,h4]at x;simp[rH,h5]at o j;simp only[wd,nm]at*;simp[aC,Ks.au,gV,C,D,k1,L];refine x _ _ (fun F=>?_);simp[k1,L];refine o _ _ (fun F=>?_);simp;refine j _ _ (fun F=>?_);simp[O,E,B,M,k2,W,Rs.au,-aQ]
 ·cases h
def offsL:List Int:=[0,1,62,28,27,36,44,6,55,20,3,10,43,25,39,41,45,15,21,8,18,2,61,56,14]
def constL:List Int:=[1,32898,9223372036854808714,9223372039002292224,32907,2147483649,9223372039002292353,9223372036854808585,138,136,2147516425,2147483658,2147516555,9223372036854775947,9223372036854808713,9223372036854808579,9223372036854808578,9223372036854775936,32778,9223372039002259466,9223372039002292353,9223372036854808704,2147483649,9223372039002292232]
theorem xd6:offsL.length=25:=rfl
theorem yz0:constL.length=24:=rfl
def VF:List AV->Option AV:=F0 (.agg (nm offsL))
theorem xd7(G:Gam):PW G Mc.c6 Rs.c6 Ks.c6 VF:=zi2 (by
 rw[aT];simp[Mc.c6,aC,Ks.c6,Rs.c6,eB,AV.cells,bF,bE,offsL,cut,aD])
def VD:List AV->Option AV:=F0 (.agg (wd constL))
theorem yz1(G:Gam):PW G Mc.c5 Rs.c5 Ks.c5 VD:=zi2 (by
 rw[aT];simp[Mc.c5,aC,Ks.c5,Rs.c5,eB,AV.cells,bF,bE,constL,cut,aD])
def lH(f:List Int->Int->List Int)(st:List Int):List Int->List Int
 |[]=>st|c::r=>lH f (f st c) r
theorem LZ{f:List Int->Int->List Int}(a:∀st c,(f st c).length=st.length):∀(r st:List Int),(lH f st r).length=st.length
 |[],_=>rfl|c::r,st=>by rw[lH,LZ a r,a]
abbrev SR(d _off a:List Int)(b c:AV):List (Nat×AV):=[(0,.agg (wd d)),(1,.ptr 0 0),(2,.ptr 1 0),(3,.ptr 2 0),(5,b),(7,.agg (wd a)),(8,c)]
abbrev ST(st z a:List Int):aA:=[.cells (wd st),.cells (wd z),.cells (nm a)]
theorem zR8(G:Gam)(a:List Int)(f:List Int->Int->List Int)(q:∀st c,(f st c).length=st.length)(p:∀st c,st.length=25->∀b h,opV G b h (.call Fn.au) (some [.agg (wd st),.agg (nm a),.u c])=some (.agg (wd (f st c)),h))(b d z:List Int)(m:a.length=25)(w:d.length=24){ks:List MK}{Q:aS}:∀(rest:List Int)(i:Nat)(st:List Int),d.drop i=rest->i<=24->st.length=25->(∀v,exM G .normal ks Q v (SR b a d .junk (.n 24)) (ST (lH f st rest) z a))->cY G [5] Mc.co_L0 3 (.blk 0::ks) Q (SR b a d .junk (.n i)) (ST st z a)
 |[],i,st,k,x,g,j=>by
  have A:=drop_nil k;have e:i=24:=by omega
  subst e;refine bQ (Mc.co_L0.eq_1) ?_;rw[eJ (n:=3) rfl];have:=j;simp only[lH]at this;simp;simpa using this _|c::rest,i,st,k,x,g,j=>by
  obtain⟨A,C,D⟩:=lG k;have y:ltB i 24=true:=cH.2 (by omega);have B:=iJ (i:=i) (by unfold big;omega);have E:=fun b h=>za0 (G:=G) (s:=b) (h:=h) (len:=24) (i:=i) (k:=.i64) (cs:=wd d) (v:=.u c) (by omega) (by simp[C]);have o:=p st c g;have n:(f st c).length=25:=by rw[q];exact g
  simp only[lH]at j;have t:=zR8 G a f q p b d z m w rest (i+1) (f st c) D (by omega) n j;have k1:=JQ (vs:=wd st) (n:=25) (by simpa using g);have F:aD true 25 (wd st)=some (.agg (wd st)):=by simp[aD,g]
  have k2:=JQ (vs:=nm a) (n:=25) (by simpa using m);have H:aD true 25 (nm a)=some (.agg (nm a)):=by simp[aD,m]
  generalize f st c=r at o n t;have u:=qM (h:=ST st z a) (l:=0) (vs:=wd st) (us:=wd r) rfl (by simpa using g) (by simpa using n) (by omega) (uO (fun _=>rfl) r);simp only[List.set]at u;refine bQ (Mc.co_L0.eq_1) ?_;rw[eJ (n:=3) rfl];simp[y,E,k1,k2,F,H,o,u,B,-aQ];refine dT ?_;rw[eJ (n:=3) rfl];simpa[SR]using t
theorem xn6{G:Gam}(d:G Fn.au=some (.pure NY)){st a:List Int}{c:Int}(f:st.length=25)(e:a.length=25)(g:Bool)(h:aA):opV G g h (.call Fn.au) (some [.agg (wd st),.agg (nm a),.u c])=some (.agg (wd (jO st a c)),h):=by
 have b:=yj6 (A:=pT rW) (B:=pT rN) (C:=gV .u64) (R:=pT rW) (f:=fun st a c=>if st.length=25/\a.length=25 then some (jO st a c)else none) (x:=st) (y:=a) (z:=c) (r:=jO st a c) (if_pos ⟨f,e⟩);generalize jO st a c=r at b⊢;exact cU d (us:=[.agg (wd st),.agg (nm a),.u c]) (by simp) b (.inr (by simp[owns,eZ]))
def NU:List AV->Option AV:=F1 (pT rW) (pT rW) fun st=>if st.length=25 then some (lH (fun st c=>jO st offsL c) st constL)else none
theorem yn3(G:Gam)(F:G Fn.c6=some (.pure VF))(E:G Fn.c5=some (.pure VD))(H:G Fn.au=some (.pure NY)):PW G Mc.co Rs.co Ks.co NU:=vY fun st r h=>by
 split at h
 ·rename_i b;injection h with h;subst h;rw[aT];simp only[zu5];have t:∀a h,opV G a h (.call Fn.c6) (some [])=some (.agg (nm offsL),h):=fun a h=>cU F rfl rfl (.inr rfl);have q:∀a h,opV G a h (.call Fn.c5) (some [])=some (.agg (wd constL),h):=fun a h=>cU E rfl rfl (.inr rfl);have i:=xd6;have u:=yz0;obtain⟨z,n⟩:∃z,z=List.replicate 25 (0:Int):=⟨_,rfl⟩;have M:zz25=wd z:=by rw[n];rfl
  have L:[AV.int .i64 0,.n 0,.n 0,.n 0,.n 0,.n 0,.n 0,.n 0,.n 0,.n 0,.n 0,.n 0,.n 0,.n 0,.n 0,.n 0,.n 0,.n 0,.n 0,.n 0,.n 0,.n 0,.n 0,.n 0,.n 0]=nm z:=by rw[n];rfl
  have A:z.length=25:=by rw[n];simp
  have v:∀st c,st.length=25->∀a h,opV G a h (.call Fn.au) (some [.agg (wd st),.agg (nm offsL),.u c])=some (.agg (wd (jO st offsL c)),h):=fun st c b a h=>xn6 H b i a h;have x:∀st c,(jO st offsL c).length=st.length:=fun st c=>TD;generalize k:(fun(st:List Int)(c:Int)=>jO st offsL c)=f;have w:∀st c,st.length=25->∀a h,opV G a h (.call Fn.au) (some [.agg (wd st),.agg (nm offsL),.u c])=some (.agg (wd (f st c)),h):=by rw[<-k];exact v
  have y:∀st c,(f st c).length=st.length:=by rw[<-k];exact x
  clear v x k;generalize offsL=j at t i w⊢;generalize constL=d at q u⊢;have o:=fun J Q I=>zR8 G j f y w st d z i u (ks:=J) (Q:=Q) d 0 st rfl (by omega) b I;have g:(lH f st d).length=25:=by rw[LZ y];exact b
  generalize lH f st d=m at o g⊢;have p:=fun a h=>jN (G:=G) (s:=a) (h:=h) (v:=.agg (wd st)) (by intro e;have:=congrArg List.length e;simp[AV.cells,b]at this);have D:(AV.agg (wd st)).cells=wd st:=rfl;simp only[D]at p;have B:=qM (h:=[.cells (wd st),.cells (wd z),.cells (nm z)]) (l:=2) (vs:=nm z) (us:=nm j) rfl (by simpa using A) (by simpa using i) (by omega) (uO (fun _=>rfl) j);have C:=qM (h:=ST m z j) (l:=1) (vs:=wd z) (us:=wd m) rfl (by simpa using A) (by simpa using g) (by omega) (uO (fun _=>rfl) m);have k1:=JQ (vs:=wd m) (n:=25) (by simpa using g);have K:aD true 25 (wd m)=some (.agg (wd m)):=by simp[aD,g]
  simp only[List.set]at B C;simp only[Mc.co,M,L];simp[SR]at o;simp[aC,Ks.co,p,t,q,B,-aQ];refine o _ _ (fun N=>?_);simp[k1,K,C,Rs.co,-aQ]
 ·cases h
section
variable{G:Gam}{s:Bool}{h:aA}
end
theorem zV1(i:Nat):∃x:Nat,x=i%8/\x<8/\bY .rem (.n i) (.n 8)=some (.n x):=by
 refine⟨i%8,rfl,Nat.mod_lt _ (by decide),?_⟩;have e:((i:Int).tmod 8)=((i%8:Nat):Int):=by rw[Int.tmod_eq_emod_of_nonneg (by omega)];omega
 simp only[bY,jJ];simp[e]
theorem zT6{i:Nat}(b:i<1000):∃y:Nat,y=i/8/\bY .quo (.n i) (.n 8)=some (.n y):=by
 refine⟨i/8,rfl,?_⟩;have e:((i:Int).tdiv 8)=((i/8:Nat):Int):=by rw[IJ (by omega)];omega
 have a:IntKind.i64.wrap ((i/8:Nat):Int)=((i/8:Nat):Int):=mC (by omega) (by omega);simp only[bY,jJ];simp only[reduceCtorEq,or_self,bH,aM,e,a];simp
theorem yp4{h:aA}{x:AV}{rows:List (List AV)}{i:Nat}{v:AV}{k:IntKind}(a:rowsOf h x=some rows)(b:rows[i]?=some [v]):∃pt,bN 1 h x (.int k i)=some pt/\aB 1 false h pt=some v:=by
 cases x<;>first|(simp[rowsOf]at a;done)|skip
 case sl d=>
  simp only[rowsOf,aE]at a;subst a;exact⟨.fptr [v] 0,by simp[bN,b],by simp[cut,aD]⟩
 case tsl d=>
  simp only[rowsOf,aE]at a;subst a;exact⟨.fptr [v] 0,by simp[bN,b],by simp[cut,aD]⟩
 case nils=>
  simp only[rowsOf,aE]at a;subst a;simp at b
 case own l m n=>
  simp only[rowsOf]at a;split at a
  ·rename_i o p d q e;split at a
   ·rename_i c;obtain⟨rfl,j⟩:=c;injection a with a;subst a;have g:=(aF.1 b).1;simp only[sM]at g;have f:d[i]?=some [v]:=by rw[<-b,fS,if_pos (by omega)]
    have c:(0:Int)<=i/\(i:Int)<n:=⟨by omega,by omega⟩;exact⟨.eptr l m i 0,by simp[bN,e,j,c,f],by simp[aB,e,f,cut,aD]⟩
   ·cases a
  ·cases a
theorem xo2{h:aA}{x:AV}{b:List (List AV)}{l:Nat}{i g:List AV}(a:rowsOf h x=some b)(c:h[l]?=some (.cells i)):rowsOf (h.set l (.cells g)) x=some b:=by
 cases x<;>first|(simp[rowsOf]at a;done)|skip
 case own f j n=>
  have d:l≠f:=fun e=>by subst e;simp[rowsOf,c]at a
  simp only[rowsOf]at a⊢;rw[iZ,if_neg d];exact a
 all_goals exact a
theorem zK6{h:aA}{x:AV}{b:List (List AV)}(a:rowsOf h x=some b):aW h 1 x=some (.n b.length):=by
 cases x<;>first|(simp[rowsOf]at a;done)|skip
 case own d e n=>
  simp only[rowsOf]at a;split at a
  ·split at a
   ·rename_i c;injection a with a;subst a;simp[wN c.2]
   ·cases a
  ·cases a
 all_goals(simp only[rowsOf,aE]at a;subst a;rfl)
def aK(bs:List Int):List (List AV):=bs.map fun n=>[AV.int .u8 n]
def mL(st:List Int)(i:Nat):List Int->List Int
 |[]=>st|b::r=>mL (st.set (i/8) (xo (st.getD (i/8) 0) (sl (IntKind.u64.wrap b) (8*(i%8:Nat))))) (i+1) r
theorem DC:∀(r st:List Int)(i:Nat),(mL st i r).length=st.length
 |[],_,_=>rfl|b::r,st,i=>by rw[mL,DC r];simp
theorem zm5(G:Gam)(l:Nat)(x:AV)(bs:List Int)(w:bs.length<=136)(a:List AV)(N:Nat){ks:List MK}{Q:aS}:∀(rest:List Int)(i:Nat)(st:List Int)(h:aA),h.length=N->bs.drop i=rest->i<=bs.length->st.length=25->h[l]?=some (.cells (wd st++a))->rowsOf h x=some (aK bs)->(∀t,exM G .normal ks Q t [(0,.ptr l 0),(1,x),(4,.junk),(6,.n bs.length),(7,.n bs.length)] (h.set l (.cells (wd (mL st i rest)++a))))->cY G [4] Mc.cj_L0 N (.blk 0::ks) Q [(0,.ptr l 0),(1,x),(4,.junk),(6,.n bs.length),(7,.n i)] h
 |[],i,st,h,d,g,y,o,c,j,f=>by
  have A:=drop_nil g;have e:i=bs.length:=by omega
  subst e;have I:h.set l (.cells (wd (mL st bs.length [])++a))=h:=by
   simp only[mL];exact GB c
  refine bQ (Mc.cj_L0.eq_1) ?_;rw[eJ (n:=N) d];have:=f;rw[I]at this;simp;simpa using this _|b::rest,i,st,h,d,g,y,o,c,j,f=>by
  obtain⟨A,K,L⟩:=lG g;have z:ltB i bs.length=true:=cH.2 (by omega);have J:=iJ (i:=i) (by unfold big;omega);obtain⟨q,F,D⟩:=zT6 (i:=i) (by omega);obtain⟨m,C,U,B⟩:=zV1 i;simp only[mL,<-F,<-C]at f;have S:IntKind.i64.wrap (8*(m:Int))=8*m:=mC (by omega) (by omega);have E:q<25:=by omega
  obtain⟨pt,M,O⟩:=yp4 (h:=h) (x:=x) (rows:=aK bs) (i:=i) (v:=.int .u8 b) (k:=.i64) j (by simp[aK,K]);have k:=fun P h=>qC (G:=G) (s:=P) (h:=h) (len:=25) (size:=1) (l:=l) (off:=0) (i:=q) (k:=.i64) E (by decide);have n:=bT (h:=h) (l:=l) c (vs:=wd st++a) (off:=q) (v:=.u (st.getD q 0)) (by rw[aX (by simp;omega)];exact uZ (by omega));have r:=fun v=>NC (h:=h) (l:=l) (off:=q) (vs:=wd st++a) (k:=.u64) (n:=v) c (by simp;omega);have u:∀v,(wd st++a).set q (.u v)=wd (st.set q v)++a:=fun v=>by rw[oI _ _ (by simp;omega),MV]
  simp only[u]at r;have H:=zp4 (a:=IntKind.u64.wrap b) (b:=8*(m:Int)) (k:=.i64) (by omega);have p:=zm5 G l x bs w a N rest (i+1) (st.set q (xo (st.getD q 0) (sl (IntKind.u64.wrap b) (8*(m:Int))))) (h.set l (.cells (wd (st.set q (xo (st.getD q 0) (sl (IntKind.u64.wrap b) (8*(m:Int)))))++a))) (by simpa using d) L (by omega) (by simpa using o) (by rw[iZ,if_pos rfl,if_pos (aF.1 c).1]) (xo2 j c) (by simpa[mN]using f);generalize st.getD q 0=V at n p;simp only[eT,sQ]at k;refine bQ (Mc.cj_L0.eq_1) ?_;rw[eJ (n:=N) d];simp[z,D,B,S,k,n,M,O,H,r,J,-aQ,-aB];refine dT ?_;rw[eJ (n:=N) (by simpa using d)];simpa[wd]using p
def sD(b:List AV)(h:aA):Option (AV×aA):=match b with
 |[.ptr l 0,x]=>match h[l]?,rowsOf h x with
  |some (.cells a),some d=>match rD .u64 (a.take 25),pR (qG (gV .u8)).dec d with
   |some st,some bs=>if st.length=25/\bs.length<=136 then some (.tup [],h.set l (.cells (wd (lH (fun st c=>jO st offsL c) (mL st 0 bs) constL)++a.drop 25)))else none|_,_=>none
  |_,_=>none
 |_=>none
theorem xi7{G:Gam}(b:G Fn.co=some (.pure NU)){st:List Int}(d:st.length=25)(e:Bool)(h:aA):opV G e h (.call Fn.co) (some [.agg (wd st)])=some (.agg (wd (lH (fun st c=>jO st offsL c) st constL)),h):=by
 have a:=tZ (A:=pT rW) (R:=pT rW) (f:=fun st=>if st.length=25 then some (lH (fun st c=>jO st offsL c) st constL)else none) (x:=st) (r:=lH (fun st c=>jO st offsL c) st constL) (if_pos d);generalize lH (fun st c=>jO st offsL c) st constL=r at a⊢;exact cU b (us:=[.agg (wd st)]) (by simp) a (.inr (by simp[owns,eZ]))
theorem zq3(bs:List Int):bs.map (qG (gV .u8)).enc=aK bs:=rfl
theorem yn7(G:Gam)(A:G Fn.co=some (.pure NU)):GW G Mc.cj Rs.cj Ks.cj sD:=by
 intro O h r S a;unfold sD at a;split at a
 ·rename_i l x;split at a
  ·rename_i d U q v;split at a
   ·rename_i st bs E F;split at a
    ·rename_i g;obtain⟨f,B⟩:=g;have i:=fun M h=>xi7 A (st:=mL st 0 bs) (by rw[DC];exact f) M h;have j:(lH (fun st c=>jO st offsL c) (mL st 0 bs) constL).length=25:=by rw[LZ (fun st c=>TD),DC];exact f
     generalize lH (fun st c=>jO st offsL c) (mL st 0 bs) constL=p at a i j;injection a with a;injection a with y z;subst y z;have w:=DU _ E;have n:d=wd st++d.drop 25:=by
      show d=st.map (AV.int .u64)++d.drop 25;rw[<-w];exact(sO 25 d).symm
     have o:=PQ (qG (gV .u8)) F;rw[zq3]at o;subst o;generalize d.drop 25=b at n⊢;subst n;have I:=(aF.1 q).1;have e:(mL st 0 bs).length=25:=by rw[DC];exact f
     have k:=fun K Q H=>zm5 G l x bs B b h.length (ks:=K) (Q:=Q) bs 0 st h rfl rfl (by omega) f q v H;generalize mL st 0 bs=m at k i e;have t:(h.set l (.cells (wd m++b)))[l]?=some (.cells (wd m++b)):=by rw[iZ,if_pos rfl,if_pos I]
     have L:aB 25 true (h.set l (.cells (wd m++b))) (.ptr l 0)=some (.agg (wd m)):=by
      have g:cut (wd m++b) 0 25=wd m:=by unfold cut;rw[wK,List.take_left' (by simpa using e)]
      simp only[aB,t,g,aD];simp[e]
     have N:bB 25 (h.set l (.cells (wd m++b))) (.ptr l 0) (.agg (wd p))=some (h.set l (.cells (wd p++b))):=by
      have D:(AV.agg (wd p)).cells=wd p:=rfl;have J:bF (wd m++b) 0 (wd p)=wd p++b:=by
       rw[tR _ _ _ (by simp;omega),List.take_zero,jU];congr 1;rw[eT,kG,j,List.drop_left' (by simpa using e)]
      simp only[bB,D,t,J];rw[if_pos ⟨by simpa using j,by omega,uO (fun _=>rfl) p⟩,if_pos (by simp;omega),mN]
     have u:=zK6 v;have C:(aK bs).length=bs.length:=by simp[aK]
     rw[C]at u;rw[aT];simp at k;simp[Mc.cj,aC,Ks.cj,u,-aW];refine k _ _ (fun P=>?_);simp[L,i,N,eF,Rs.cj,-aB,-aQ]
    ·cases a
   ·cases a
  ·cases a
 ·cases a
theorem MM{h:aA}{x:AV}{c:List (List AV)}(a:rowsOf h x=some c)(t:aA):rowsOf (h++t) x=some c:=by
 cases x<;>first|(simp[rowsOf]at a;done)|skip
 case own b e n=>
  have d:b<h.length:=by
   rcases lY b h.length with g|g;·exact g
   ·simp[rowsOf,lX g]at a
  simp only[rowsOf]at a⊢;rw[aX d];exact a
 all_goals exact a
theorem zP9{G:Gam}{s:Bool}{h:aA}{b:Nat}{x:AV}{rows:List (List AV)}(e:rowsOf h x=some rows)(d:dH 1 rows=true)(a:rows.length*b<=dJ)(c:rows.length<=dJ):opV G s h (.app false 1 b) (some [.nils,x])=some (if rows=[]then(.nils,h)else(.own h.length 0 rows.length,h++[.arr 1 0 rows true])):=by
 rw[fG rfl];simp only[bC,lZ,bM,bH,e,d,aM,nH];split;·rfl
 ·rw[if_pos ⟨a,c⟩]
def BS(c:List AV)(h:aA):Option (AV×aA):=match c with
 |[.ptr l 0]=>match h[l]? with
  |some (.cells b)=>match b[25]? with
   |some d=>match rowsOf h d with
    |some a=>if b.length=54/\b.all bE=true/\dH 1 a=true/\a.length<=dJ then some (.ptr h.length 0,if a=[]then h++[.cells (b.set 25 .nils)]else h++[.cells (b.set 25 (.own (h.length+1) 0 a.length)),.arr 1 0 a true])else none|none=>none
   |none=>none
  |_=>none
 |_=>none
theorem yh7(G:Gam):GW G Mc.cx Rs.cx Ks.cx BS:=by
 intro D h r E a;unfold BS at a;split at a
 ·rename_i l;split at a
  ·rename_i b i;split at a
   ·rename_i B A;split at a
    ·rename_i c z;split at a
     ·rename_i w;obtain⟨f,o,p,q⟩:=w;injection a with a;injection a with u g;subst u;have y:=(aF.1 i).1;have k:aB 54 true h (.ptr l 0)=some (.agg b):=EP i f;have n:∀Z:List AV,Z.length=54->bB 54 (h++[.cells Z]) (.ptr h.length 0) (.agg b)=some (h++[.cells b]):=fun Z v=>by rw[qM (l:=h.length) (vs:=Z) (by simp) v f (by omega) o];simp
      have x:∀t:aA,(h++t)[l]?=some (.cells b):=fun t=>by rw[aX y];exact i
      have m:aB 1 false (h++[.cells b]) (.ptr l 25)=some B:=bT (x _) A;have d:=fun C=>zP9 (G:=G) (s:=C) (b:=1) (MM z [.cells b]) p (by omega) q;rw[aT];by_cases e:c=[]
      ·rw[if_pos e]at g;subst g;simp only[e,aM]at d;have j:bB 1 (h++[.cells b]) (.ptr h.length 25) .nils=some (h++[.cells (b.set 25 .nils)]):=by simp[AV.cells,bE,bF,f]
       simp[Mc.cx,aC,Ks.cx,k,n,m,d,j,eF,Rs.cx,-aB,-aQ]
      ·rw[if_neg e]at g;subst g;simp only[e,bH]at d;have j:bB 1 (h++[.cells b,.arr 1 0 c true]) (.ptr h.length 25) (.own (h.length+1) 0 c.length)=some (h++[.cells (b.set 25 (.own (h.length+1) 0 c.length)),.arr 1 0 c true]):=by simp[AV.cells,bE,bF,f]
       simp[Mc.cx,aC,Ks.cx,k,n,m,d,j,eF,Rs.cx,-aB,-aQ]
     ·cases a
    ·cases a
   ·cases a
  ·cases a
 ·cases a
def EU:List AV:=[.u 0,.u 0,.u 0,.u 0,.u 0,.u 0,.u 0,.u 0,.u 0,.u 0,.u 0,.u 0,.u 0,.u 0,.u 0,.u 0,.u 0,.u 0,.u 0,.u 0,.u 0,.u 0,.u 0,.u 0,.u 0,.nils,.n 0,.u 0,.u 0,.u 0,.u 0,.u 0,.u 0,.u 0,.u 0,.u 0,.u 0,.u 0,.u 0,.u 0,.u 0,.u 0,.u 0,.u 0,.u 0,.u 0,.u 0,.u 0,.u 0,.u 0,.u 0,.u 0,.str [],.str []]
def NS(a:List AV)(h:aA):Option (AV×aA):=match a with
 |[]=>some (.ptr h.length 0,h++[.cells EU])|_=>none
theorem yn0(G:Gam):GW G Mc.c3 Rs.c3 Ks.c3 NS:=by
 intro d h r e a;unfold NS at a;split at a
 ·injection a with a;injection a with b c;subst b c;rw[aT];simp[Mc.c3,aC,Ks.c3,eB,eF,Rs.c3];rfl
 ·cases a
abbrev sp(st:List Int)(rest:AV)(tk:Int)(T:List AV):List AV:=wd st++rest::.n tk::T
section
variable{st:List Int}{rest:AV}{tk:Int}{T:List AV}
theorem yB(a:st.length=25):(sp st rest tk T)[25]?=some rest:=by rw[dY (by simp[a])];simp[a]
theorem ya9(a:st.length=25):(sp st rest tk T)[26]?=some (.n tk):=by rw[dY (by simp[a])];simp[a]
theorem GF(a:st.length=25)(r:AV):(sp st rest tk T).set 25 r=sp st r tk T:=by rw[gK _ _ (by simp[a])];simp[a]
theorem xv0(a:st.length=25)(n:Int):(sp st rest tk T).set 26 (.n n)=sp st rest n T:=by rw[gK _ _ (by simp[a])];simp[a]
theorem ze8(a:st.length=25):(sp st rest tk T).take 25=wd st:=by rw[List.take_left' (by simpa using a)]
theorem ze7(a:st.length=25):(sp st rest tk T).drop 25=rest::.n tk::T:=by rw[List.drop_left' (by simpa using a)]
theorem BI(a:st.length=25):(sp st rest tk T).length=27+T.length:=by simp[a];omega
end
theorem BL{h:aA}{l off:Nat}{vs:List AV}{v:AV}(c:h[l]?=some (.cells vs))(d:off<vs.length)(b:v.cells=[v])(a:bE v=true):bB 1 h (.ptr l off) v=some (h.set l (.cells (vs.set off v))):=by simp[c,b,a,bF,show off+1<=vs.length by omega]
def lU(st:List Int)(bs:List Int):List Int:=lH (fun st c=>jO st offsL c) (mL st 0 (bs.take 136)) constL
theorem yb6{st bs:List Int}:(lU st bs).length=st.length:=by unfold lU;rw[LZ (fun st c=>TD),DC]
def hold(st:List Int)(tk:Int)(T:List AV)(bs:List Int)(a:List (List (List AV))):aA:=if bs=[]then .cells (sp st .nils tk T)::a.map (fun r=>.arr 1 0 r false)else .cells (sp st (.own (1+a.length) 0 bs.length) tk T)::(a.map (fun r=>Blk.arr 1 0 r false)++[.arr 1 0 (aK bs) true])
theorem zM1(n:Nat):∀a:List (List (List AV)),bG n (a.map fun r=>Blk.arr 1 0 r false)=true
 |[]=>rfl|o::a=>by simp[bG,gR,zM1 n a]
theorem RT(n:Nat):∀(a b:List AV),bA n (a++b)=(bA n a&&bA n b)
 |[],b=>by simp[bA]|x::a,b=>by simp[bA,RT n a b,Bool.and_assoc]
theorem ZH(n:Nat):∀st:List Int,bA n (wd st)=true
 |[]=>rfl|x::st=>by simp[bA,low];exact ZH n st
def wfr(x:AV)(a:AV)(i:Int):List (Nat×AV):=[(0,.ptr 0 0),(1,x),(4,.n 0),(6,a),(7,x),(8,.n 1),(9,.n i)]
theorem QR{n:Nat}(e:1<=n)(f:n<=2)(c:List (Nat×AV)){st:List Int}{tk:Int}{T:List AV}{bs:List Int}{a:List (List (List AV))}(d:bs≠[])(g:n=2\/a=[]\/True)(b:n<=1+a.length\/(hold st tk T bs a).length=n):trunc n c (hold st tk T bs a)=hold st tk T bs a:=by
 rcases b with b|b
 ·unfold trunc;have:bG n ((hold st tk T bs a).take n)=false:=by
   obtain⟨m,rfl⟩:∃m,n=m+1:=⟨n-1,by omega⟩;simp only[hold,if_neg d,List.take_succ_cons,bG,gR,RT,bA,low];have:¬(1+a.length<m+1):=by omega
   simp[this]
  rw[this];simp
 ·exact eJ b
def fO:Nat->List Int->List Int->List (List (List AV))->List Int×List Int×List (List (List AV))
 |0,st,bs,a=>(st,bs,a)|N+1,st,bs,a=>if bs.length<136 then(st,bs,a)else fO N (lU st bs) (bs.drop 136) (a++[aK bs])
theorem yg3(G:Gam)(O:G Fn.cj=some (.gen sD))(x d:AV)(tk:Int)(T:List AV){ks:List MK}{Q:aS}:∀(N:Nat)(st bs:List Int)(a:List (List (List AV))),bs.length<136*(N+1)->bs.length<=big->st.length=25->(bs=[]->a≠[])->(∀a2,exM G .normal ks Q a2 (wfr x d 0) (trunc 2 (wfr x d 0) (hold (fO N st bs a).1 tk T (fO N st bs a).2.1 (fO N st bs a).2.2)))->cY G [] Mc.bk_L1 2 (.blk 2::ks) Q (wfr x d 0) (hold st tk T bs a)
 |N,st,bs,a,hN,P,k,ho,p=>by
  by_cases I:bs.length<136;·
   have J:fO N st bs a=(st,bs,a):=by cases N<;>simp[fO,I]
   rw[J]at p;refine bQ (Mc.bk_L1.eq_1) ?_;have H:aY [] (wfr x d 0)=wfr x d 0:=by simp[wfr,aY]
   rw[H];generalize i:trunc 2 (wfr x d 0) (hold st tk T bs a)=b at p;have h0:∃L,b[0]?=some (.cells (sp st L tk T))/\aW b 1 L=some (.n bs.length):=by
    by_cases c:bs=[]
    ·subst c;refine⟨.nils,?_,rfl⟩;rw[<-i];unfold trunc;split;·rw[fS,if_pos (by omega)];simp[hold]
     ·simp[hold]
    ·have K:trunc 2 (wfr x d 0) (hold st tk T bs a)=hold st tk T bs a:=by
      refine QR (by omega) (by omega) _ c (.inl rfl) ?_;cases a with
      |nil=>right;simp[hold,c]|cons c1 a=>left;simp;omega
     rw[<-i,K];refine⟨.own (1+a.length) 0 bs.length,by simp[hold,c],?_⟩;have hL:(hold st tk T bs a)[1+a.length]?=some (.arr 1 0 (aK bs) true):=by
      simp only[hold,if_neg c];rw[Nat.add_comm,oG,dY (by simp)];simp
     simp
   obtain⟨L,u,g2⟩:=h0;have z:=bT u (yB k);have v:ltB bs.length 136=true:=cH.2 (by omega);have V:=p;simp only[wfr]at V⊢;simp[z,g2,MR,v,-aB,-aW];simpa using V _
  ·cases N with
   |zero=>omega|succ N=>
    have c:bs≠[]:=fun e=>by subst e;simp at I
    have K:trunc 2 (wfr x d 0) (hold st tk T bs a)=hold st tk T bs a:=by
     refine QR (by omega) (by omega) _ c (.inl rfl) ?_;cases a with
     |nil=>right;simp[hold,c]|cons c1 a=>left;simp;omega
    have J:fO (N+1) st bs a=fO N (lU st bs) (bs.drop 136) (a++[aK bs]):=by simp[fO,I]
    rw[J]at p;have m:(lU st bs).length=25:=by rw[yb6];exact k
    have q:=yg3 G O x d tk T (ks:=ks) (Q:=Q) N (lU st bs) (bs.drop 136) (a++[aK bs]) (by simp;omega) (by simp;omega) m (fun _=>by simp) p;obtain⟨b,i⟩:∃b,b=hold st tk T bs a:=⟨_,rfl⟩;have b1:b.length=2+a.length:=by rw[i];simp[hold,c];omega
    have M:b[0]?=some (.cells (sp st (.own (1+a.length) 0 bs.length) tk T)):=by rw[i];simp[hold,c]
    have u:b[1+a.length]?=some (.arr 1 0 (aK bs) true):=by
     rw[i];simp only[hold,if_neg c];rw[Nat.add_comm,oG,dY (by simp)];simp
    have S:(aK bs).length=bs.length:=by simp[aK]
    have W:∀l:List Int,dH 1 (aK l)=true:=fun l=>by induction l with
     |nil=>rfl|cons c3 l q=>simpa[aK,dH]using q
    have z:=bT M (yB k);have v:ltB bs.length 136=false:=dQ.2 (by omega);have a1:∀r,opV G r b (.slcf 1 false true false) (some [.own (1+a.length) 0 bs.length,.n 136])=some (.own (1+a.length) 0 136,b):=fun r=>by
     have n:(136:Int)<=bs.length:=by omega
     cases r<;>simp[opV,AO.loud,iN,fV,cG,AO.quiet,bC,qL,pA,GC,GD,n]
    have b3:rowsOf b (.own (1+a.length) 0 136)=some (aK (bs.take 136)):=by
     have n:136<=bs.length:=by omega
     simp[rowsOf,u,n,aK]
    have cA:sD [.ptr 0 0,.own (1+a.length) 0 136] b=some (.tup [],b.set 0 (.cells (sp (lU st bs) (.own (1+a.length) 0 bs.length) tk T))):=by
     have C:pR (qG (gV .u8)).dec (aK (bs.take 136))=some (bs.take 136):=JY (qG (gV .u8)) _;have D:(bs.take 136).length<=136:=by simp;omega
     simp only[sD,M,b3,ze8 k,DT,C,ze7 k];rw[if_pos ⟨k,D⟩];rfl
    have B:opV G false b (.call Fn.cj) (some [.ptr 0 0,.own (1+a.length) 0 136])=some (.tup [],b.set 0 (.cells (sp (lU st bs) (.own (1+a.length) 0 bs.length) tk T))):=by rw[dV O];exact cA
    obtain⟨g,o⟩:∃g,g=b.set 0 (.cells (sp (lU st bs) (.own (1+a.length) 0 bs.length) tk T)):=⟨_,rfl⟩;rw[<-o]at B;have Y:g[0]?=some (.cells (sp (lU st bs) (.own (1+a.length) 0 bs.length) tk T)):=by rw[o,fL (by omega)]
    have q1:g[1+a.length]?=some (.arr 1 0 (aK bs) true):=by rw[o,eY (by omega)];exact u
    have X:=bT Y (yB m);have A:opV G false g (.slcf 1 true false false) (some [.own (1+a.length) 0 bs.length,.n 136])=some (.sl (aK (bs.drop 136)),g.set (1+a.length) (.arr 1 0 (aK bs) false)):=by
     have C:frz g (.own (1+a.length) 0 bs.length)=some (.sl (aK bs),g.set (1+a.length) (.arr 1 0 (aK bs) false)):=by
      have:bs.length<=(aK bs).length:=by omega
      simp[frz,view,rowsOf,q1,owns,dC,jX,S,lN]
     have D:yA 1 (aK bs) (some 136) none none=some (.sl (aK (bs.drop 136))):=by
      have n:(136:Int)<=bs.length:=by omega
      have d1:(aK bs).drop 136=aK (bs.drop 136):=by simp[aK]
      have t1:(aK bs).take bs.length=aK bs:=lN (by omega);simp[yA,W,S,n,d1,t1]
     simp[opV,AO.loud,fV,cG,AO.quiet,bC,qL,pA,GC,GD,C,D]
    obtain⟨f,y⟩:∃f,f=g.set (1+a.length) (.arr 1 0 (aK bs) false):=⟨_,rfl⟩;rw[<-y]at A;have Z:f[0]?=some (.cells (sp (lU st bs) (.own (1+a.length) 0 bs.length) tk T)):=by rw[y,eY (by omega)];exact Y
    have a3:f.length=2+a.length:=by rw[y,o];simp[b1]
    have U:f=.cells (sp (lU st bs) (.own (1+a.length) 0 bs.length) tk T)::(a.map (fun c2=>Blk.arr 1 0 c2 false)++[.arr 1 0 (aK bs) false]):=by
     rw[y,o,i];simp only[hold,if_neg c,List.set_cons_zero];rw[Nat.add_comm,List.set_cons_succ,gK _ _ (by simp)];simp
    have t:=fun r=>zP9 (G:=G) (s:=r) (h:=f) (b:=1) (x:=.sl (aK (bs.drop 136))) (rows:=aK (bs.drop 136)) rfl (W _) (by simp[aK];unfold big at P;unfold dJ;omega) (by simp[aK];unfold big at P;unfold dJ;omega);refine bQ (Mc.bk_L1.eq_1) ?_;have H:aY [] (wfr x d 0)=wfr x d 0:=by simp[wfr,aY]
    rw[H,K,<-i];simp only[wfr]at q⊢;by_cases w:bs.drop 136=[]
    ·have E:aK (bs.drop 136)=[]:=by rw[w];rfl
     simp only[E,aM]at t A;have j:=BL Z (off:=25) (v:=.nils) (by rw[BI m];omega) rfl rfl;rw[GF m]at j;have F:f.set 0 (.cells (sp (lU st bs) .nils tk T))=hold (lU st bs) tk T (bs.drop 136) (a++[aK bs]):=by rw[U];simp[hold,w]
     rw[F]at j;simp[z,MR,v,a1,B,X,A,t,j,-aB,-aQ];simpa using q
    ·have E:aK (bs.drop 136)≠[]:=fun e=>w (IS.1 e);simp only[E,bH]at t;have b2:(aK (bs.drop 136)).length=(bs.drop 136).length:=by simp[aK]
     have j:=BL (h:=f++[.arr 1 0 (aK (bs.drop 136)) true]) (l:=0) (vs:=sp (lU st bs) (.own (1+a.length) 0 bs.length) tk T) (by rw[aX (by omega)];exact Z) (off:=25) (v:=.own f.length 0 (aK (bs.drop 136)).length) (by rw[BI m];omega) rfl rfl;rw[GF m]at j;have F:(f++[Blk.arr 1 0 (aK (bs.drop 136)) true]).set 0 (.cells (sp (lU st bs) (.own f.length 0 (aK (bs.drop 136)).length) tk T))=hold (lU st bs) tk T (bs.drop 136) (a++[aK bs]):=by
      rw[a3,b2,U];simp only[hold,if_neg w,iS,IR];rw[show 1+(a.length+1)=2+a.length by omega];simp
     rw[F]at j;simp[z,MR,v,a1,B,X,A,t,j,-aB,-aQ];simpa using q
abbrev tl2(seen:List Int)(b a:Bs):List AV:=wd seen++[.str b,.str a]
theorem xy1(n:Nat)(seen:List Int)(b a:Bs):bA n (tl2 seen b a)=true:=by rw[RT,ZH];rfl
def zV(a:List AV):Option (List Int×AV×Int×List Int×Bs×Bs):=match rD .u64 (a.take 25),a.drop 25 with
 |some st,rest::.n tk::r=>match rD .u64 (r.take 25),r.drop 25 with
  |some seen,[.str c,.str b]=>if st.length=25/\seen.length=25 then some (st,rest,tk,seen,c,b)else none|_,_=>none
 |_,_=>none
theorem zt6{a:List AV}{st:List Int}{rest:AV}{tk:Int}{seen:List Int}{c b:Bs}(h:zV a=some (st,rest,tk,seen,c,b)):a=sp st rest tk (tl2 seen c b)/\st.length=25/\seen.length=25:=by
 unfold zV at h;split at h
 ·rename_i o k q r f g;split at h
  ·rename_i m p n i h4;split at h
   ·rename_i j;simp only[aE,aR]at h;obtain⟨rfl,rfl,rfl,rfl,rfl,rfl⟩:=h;refine⟨?_,j⟩;have d:=DU _ f;have e:=DU _ i;rw[<-sO 25 a,d,g,<-sO 25 r,e,h4]
   ·cases h
  ·cases h
 ·cases h
theorem yD1{st:List Int}{rest:AV}{tk:Int}{seen:List Int}{b a:Bs}(c:st.length=25)(d:seen.length=25):zV (sp st rest tk (tl2 seen b a))=some (st,rest,tk,seen,b,a):=by
 have e:(tl2 seen b a).take 25=wd seen:=by rw[List.take_left' (by simpa using d)]
 have f:(tl2 seen b a).drop 25=[.str b,.str a]:=by rw[List.drop_left' (by simpa using d)]
 simp only[zV,ze8 c,ze7 c,DT,e,f,c,d,and_self,aM]
def fU(d:Bs):List Int:=d.map fun b=>(b.toNat:Int)
def lK(st:List Int)(tk:Int)(T:List AV)(bs:List Int)(a:List (List (List AV))):aA:=if bs=[]then[.cells (sp st .nils tk T)]else hold st tk T bs a
def BY(a:List AV)(h:aA):Option (AV×aA):=match a,h with
 |[.ptr 0 0,.tsl [[.str d]]],[.cells e]=>match zV e with
  |some (st,.nils,tk,seen,c,b)=>if d.length<=big then some (.n (IntKind.i64.wrap (tk+d.length)),lK (fO d.length st (fU d) []).1 (IntKind.i64.wrap (tk+d.length)) (tl2 seen c b) (fO d.length st (fU d) []).2.1 (fO d.length st (fU d) []).2.2)else none|_=>none
 |_,_=>none
theorem ye3{n:Nat}{a:List (Nat×AV)}{h:aA}(b:cQ n a=true)(c:bG n (h.take n)=true):trunc n a h=h.take n:=by unfold trunc;rw[b,c];rfl
theorem xu9(n:Nat)(st:List Int)(tk:Int)(seen:List Int)(b a:Bs):bA n (sp st .nils tk (tl2 seen b a))=true:=by rw[RT,ZH];simp only[bA,low,xy1];rfl
theorem ZG(n m:Nat):∀h:aA,bG n h=true->bG n (h.take m)=true:=by
 intro h;induction h generalizing m with
 |nil=>simp[bG]|cons b h c=>
  intro a;simp only[bG,bR]at a;cases m with
  |zero=>rfl|succ m=>simp only[List.take_succ_cons,bG,a.1,c m a.2,wI]
theorem xG8{fr fr':List (Nat×AV)}(c:cQ 2 fr=true)(d:cQ 1 fr'=true){st:List Int}{tk:Int}{seen:List Int}{ta sm:Bs}{bs:List Int}{os:List (List (List AV))}:trunc 1 fr' (trunc 2 fr (hold st tk (tl2 seen ta sm) bs os))=lK st tk (tl2 seen ta sm) bs os:=by
 by_cases a:bs=[]
 ·have b:∀n,bG n (Blk.cells (sp st .nils tk (tl2 seen ta sm))::os.map fun r=>Blk.arr 1 0 r false)=true:=fun n=>by simp only[bG,gR,xu9,zM1,wI]
  simp only[hold,lK,if_pos a];rw[ye3 c (ZG _ _ _ (b 2)),ye3 d (ZG _ _ _ (ZG _ _ _ (b 1)))];simp
 ·rw[QR (by omega) (by omega) _ a (.inl rfl) (by cases os with
   |nil=>right;simp[hold,a]|cons o os=>left;simp;omega),QR (by omega) (by omega) _ a (.inr (.inr trivial)) (.inl (by omega))];simp[lK,a]
theorem wr0{st:List Int}{tk:Int}{T:List AV}{bs:List Int}{os:List (List (List AV))}:∃a,(lK st tk T bs os)[0]?=some (.cells (sp st a tk T)):=by
 unfold lK hold;split;·exact⟨_,rfl⟩
 ·exact⟨_,rfl⟩
theorem zh0:∀(N:Nat)(st bs:List Int)(a:List (List (List AV))),(fO N st bs a).1.length=st.length
 |0,_,_,_=>rfl|N+1,st,bs,a=>by
  simp only[fO];split;·rfl
  ·rw[zh0 N,yb6]
theorem TU:∀l:List Int,dH 1 (aK l)=true
 |[]=>rfl|a::l=>by simpa[aK,dH]using TU l
theorem yn6(G:Gam)(I:G Fn.cj=some (.gen sD)):GW G Mc.bk Rs.bk Ks.bk BY:=by
 intro b2 h d1 h' a;unfold BY at a;split at a
 ·rename_i d vs;split at a
  ·rename_i st tk seen A z P;split at a
   ·rename_i N;obtain⟨rfl,c,c3⟩:=zt6 P;injection a with a;injection a with F H;subst F H;obtain⟨T,L⟩:∃T,T=tl2 seen A z:=⟨_,rfl⟩;have v:=fun(D E:List (Nat×AV))S U(st:List Int)(tk:Int)bs os=>xG8 (fr:=D) (fr':=E) S U (st:=st) (tk:=tk) (seen:=seen) (ta:=A) (sm:=z) (bs:=bs) (os:=os);rw[<-L]at v⊢;obtain⟨tk2,p⟩:∃b1,b1=IntKind.i64.wrap (tk+d.length):=⟨_,rfl⟩;rw[<-p];have y:aB 1 false [.cells (sp st .nils tk T)] (.ptr 0 26)=some (.n tk):=bT rfl (ya9 c);have i:=BL (h:=[.cells (sp st .nils tk T)]) (l:=0) rfl (off:=26) (v:=.n tk2) (by rw[BI c];omega) rfl rfl;rw[xv0 c]at i;have q:aB 1 false [.cells (sp st .nils tk2 T)] (.ptr 0 25)=some .nils:=bT rfl (yB c);have x:∀h:aA,bN 1 h (.tsl [[.str d]]) (.n 0)=some (.fptr [.str d] 0):=fun h=>by simp[bN]
    obtain⟨R,j⟩:∃R,R=fO d.length st (fU d) []:=⟨_,rfl⟩;have K:R.1.length=25:=by rw[j,zh0];exact c
    obtain⟨rv,Z⟩:=wr0 (st:=R.1) (tk:=tk2) (T:=T) (bs:=R.2.1) (os:=R.2.2);have r:=bT Z (ya9 K);have w:IntKind.i64.wrap 1=1:=by decide
    rw[aT];by_cases u:d=[]
    ·subst u;have J:R=(st,[],[]):=by rw[j];rfl
     rw[<-j];have m:∀g(h:aA),opV G g h (.app true 1 1) (some [.nils,.str []])=some (.nils,h):=fun g h=>by rw[fG rfl];simp[bC,lZ,dH,nH]
     have f:=BL (h:=[.cells (sp st .nils tk2 T)]) (l:=0) rfl (off:=25) (v:=.nils) (by rw[BI c];omega) rfl rfl;rw[GF c]at f;have n:ltB 0 1=true:=cH.2 (by omega);have B:ltB 0 136=true:=cH.2 (by omega);simp only[List.set_cons_zero]at i f;have a3:lK R.1 tk2 T R.2.1 R.2.2=[.cells (sp st .nils tk2 T)]:=by rw[J];rfl
     rw[a3]at r⊢;have a2:IntKind.i64.wrap tk=tk2:=by rw[p];simp
     simp[Mc.bk,aC,Ks.bk];refine bQ (Mc.bk_L0.eq_1) ?_;rw[eJ (n:=1) rfl];simp[x,y,a2,i,q,m,f,n,-aB,-aQ];refine bQ (Mc.bk_L1.eq_1) ?_;rw[eJ (n:=1) rfl];simp[q,MR,B,w,-aB];refine bQ (Mc.bk_L0.eq_1) ?_;rw[eJ (n:=1) rfl];simp[r,eF,Rs.bk,-aB]
    ·have o:fU d≠[]:=fun e=>u (IS.1 e);have t:(fU d).length=d.length:=by simp[fU]
     have Y:d.map (fun b=>[AV.int .u8 (b.toNat:Int)])=aK (fU d):=by simp[aK,fU]
     have a1:dH 1 (aK (fU d))=true:=by exact TU _
     have X:aK (fU d)≠[]:=fun e=>o (IS.1 e);have O:(aK (fU d)).length=d.length:=by simp[aK,t]
     have m:∀g(h:aA),opV G g h (.app true 1 1) (some [.nils,.str d])=some (.own h.length 0 d.length,h++[.arr 1 0 (aK (fU d)) true]):=fun g h=>by
      rw[fG rfl];have M:d.length<=dJ:=by unfold big at N;unfold dJ;omega
      simp[bC,lZ,Y,a1,nH,X,O,M]
     have f:=BL (h:=[.cells (sp st .nils tk2 T),.arr 1 0 (aK (fU d)) true]) (l:=0) rfl (off:=25) (v:=.own 1 0 d.length) (by rw[BI c];omega) rfl rfl;rw[GF c]at f;have V:hold st tk2 T (fU d) []=[.cells (sp st (.own 1 0 d.length) tk2 T),.arr 1 0 (aK (fU d)) true]:=by simp[hold,o,t]
     have n:ltB 0 1=true:=cH.2 (by omega);simp only[List.set_cons_zero]at i f;have k:=fun ks Q W=>yg3 G I (.tsl [[.str d]]) (.str d) tk2 T (ks:=ks) (Q:=Q) d.length st (fU d) [] (by omega) (by omega) c (fun e=>absurd e o) W;rw[V]at k;rw[<-j]at k⊢;simp only[wfr]at k;simp[Mc.bk,aC,Ks.bk];refine bQ (Mc.bk_L0.eq_1) ?_;rw[eJ (n:=1) rfl];simp[x,y,<-p,i,q,m,f,n,-aB,-aQ];refine k _ _ (fun b3=>?_);simp[w];refine bQ (Mc.bk_L0.eq_1) ?_;have C:=v [(0,.ptr 0 0),(1,.tsl [[.str d]]),(4,.n 0),(6,.str d),(7,.tsl [[.str d]]),(8,.n 1),(9,.n 0)] [(0,.ptr 0 0),(1,.tsl [[.str d]]),(4,.n 0),(6,.junk),(7,.tsl [[.str d]]),(8,.n 1),(9,.n 1)] (by simp[cQ,low]) (by simp[cQ,low]) R.1 tk2 R.2.1 R.2.2;simp[aY,C,r,eF,Rs.bk,-aB]
   ·cases a
  ·cases a
 ·cases a
section
variable{G:Gam}{h:aA}{l:Nat}{bs:List Int}
theorem WL{i:Nat}{v:Int}(a:bs[i]?=some v):(aK bs)[i]?=some [.int .u8 v]:=by simp[aK,a]
theorem yu3{i:Nat}{v:Int}:(aK bs).set i [.int .u8 v]=aK (bs.set i v):=by simp[aK,List.map_set]
theorem byteRows_len:(aK bs).length=bs.length:=by simp[aK]
theorem VZ{i n:Nat}{k:IntKind}(a:h[l]?=some (.arr 1 0 (aK bs) true))(b:n=bs.length)(c:i<n):bN 1 h (.own l 0 n) (.int k i)=some (.eptr l 0 i 0):=KO a (by rw[byteRows_len];exact b) (row:=[.int .u8 bs[i]]) (WL (by simp[show i<bs.length by omega])) rfl
theorem yp9{i:Nat}{v:Int}(b:h[l]?=some (.arr 1 0 (aK bs) true))(a:bs[i]?=some v):aB 1 false h (.eptr l 0 i 0)=some (.int .u8 v):=by rw[KS b (WL a)];simp
theorem WA{st0:Bool}{i:Nat}{v:Int}(b:h[l]?=some (.arr 1 0 (aK bs) true))(a:i<bs.length):opV G st0 h (.st 1) (some [.eptr l 0 i 0,.int .u8 v])=some (.junk,h.set l (.arr 1 0 (aK (bs.set i v)) true)):=by
 rw[SL (n:=1) b (WL (bs:=bs) (i:=i) (v:=bs[i]) (by simp[a])) rfl (by omega) rfl (by simp) rfl rfl];simp only[bF,AV.cells];rw[<-yu3];simp
end
def tK(p:List Int):Nat->Nat->List Int->List Int
 |0,_,o=>o|k+1,i,o=>tK p k (i+1) (o.set i (IntKind.u8.wrap (sr (p.getD (i/8) 0) (8*(i%8:Nat)))))
theorem zR2(p:List Int):∀(k i:Nat)(o:List Int),(tK p k i o).length=o.length
 |0,_,_=>rfl|k+1,i,o=>by rw[tK,zR2 p k];simp
def inB(n:Int):Prop:=0<=n/\n<256
theorem xF5(a:Int):inB (IntKind.u8.wrap a):=by
 unfold inB IntKind.wrap;simp[IntKind.signed,IntKind.bits];exact⟨Int.emod_nonneg _ (by decide),Int.emod_lt_of_pos _ (by decide)⟩
theorem zR1(p:List Int):∀(k i:Nat)(o:List Int),(∀n∈o,inB n)->∀n∈tK p k i o,inB n
 |0,_,o,h=>h|k+1,i,o,h=>by
  rw[tK];refine zR1 p k (i+1) _ fun n a=>?_;rcases List.mem_or_eq_of_mem_set a with a|rfl;·exact h n a
  ·exact xF5 _
def kW(bs:List Int):Bs:=bs.map fun n=>UInt8.ofNat n.toNat
theorem WP:∀bs:List Int,(∀n∈bs,inB n)->qZ (aK bs)=some (kW bs)
 |[],_=>rfl|n::r,h=>by
  have a:=WP r (fun x c=>h x (by simp[c]));have b:=h n (by simp);simp only[aK,fE,qZ];rw[if_pos (show 0<=n/\n<256 from b)];simp only[aK]at a;rw[a];rfl
abbrev MY(n L M:Nat)(a:AV)(i:Nat):List (Nat×AV):=[(0,.ptr 0 0),(2,.str []),(3,.ptr n 0),(4,.own L 0 136),(5,.own M 0 32),(6,a),(65,.n 32),(66,.n i)]
theorem yc3(G:Gam)(n L M:Nat)(p:List Int)(D:p.length=25)(j:List AV){ks:List MK}{Q:aS}:∀(k i:Nat)(o:List Int)(h:aA),i+k=32->o.length=32->h.length=M+1->n≠M->h[n]?=some (.cells (wd p++j))->h[M]?=some (.arr 1 0 (aK o) true)->(∀x,exM G .normal ks Q x (MY n L M .junk 32) (h.set M (.arr 1 0 (aK (tK p k i o)) true)))->cY G [6] Mc.ct_L0 (M+1) (.blk 0::ks) Q (MY n L M .junk i) h
 |0,i,o,h,z,f,b,v,d,c,a=>by
  have e:i=32:=by omega
  subst e;have I:h.set M (.arr 1 0 (aK (tK p 0 32 o)) true)=h:=GB c;rw[I]at a;refine bQ (Mc.ct_L0.eq_1) ?_;rw[eJ b];simp;simpa[MY]using a _|k+1,i,o,h,z,f,b,v,d,c,a=>by
  have A:ltB i 32=true:=cH.2 (by omega);have J:=iJ (i:=i) (by unfold big;omega);obtain⟨q,H,E⟩:=zT6 (i:=i) (by omega);obtain⟨m,B,S,C⟩:=zV1 i;simp only[tK,<-H,<-B]at a;have P:IntKind.i64.wrap (8*(m:Int))=8*m:=mC (by omega) (by omega);have F:q<25:=by omega
  have t:=fun g h=>qC (G:=G) (s:=g) (h:=h) (len:=25) (size:=1) (l:=n) (off:=0) (i:=q) (k:=.i64) F (by decide);have u:=bT (h:=h) (l:=n) d (vs:=wd p++j) (off:=q) (v:=.u (p.getD q 0)) (by rw[aX (by simp;omega)];exact uZ (by omega));have w:=zp5 (a:=p.getD q 0) (b:=8*(m:Int)) (k:=.i64) (by omega);generalize p.getD q 0=r at u w a;have at1:=VZ (k:=.i64) (i:=i) (n:=32) c f.symm (by omega);have N:=fun g=>WA (G:=G) (st0:=g) (i:=i) (v:=IntKind.u8.wrap (sr r (8*(m:Int)))) c (by omega);have y:M<h.length:=by omega
  have K:=yc3 G n L M p D j (ks:=ks) (Q:=Q) k (i+1) (o.set i (IntKind.u8.wrap (sr r (8*(m:Int))))) (h.set M (.arr 1 0 (aK (o.set i (IntKind.u8.wrap (sr r (8*(m:Int)))))) true)) (by omega) (by simpa using f) (by simpa using b) v (by rw[eY (by omega)];exact d) (by rw[fL y]) (by simpa[mN]using a);simp only[eT,sQ]at t;have O:=N false;refine bQ (Mc.ct_L0.eq_1) ?_;rw[eJ b];simp[A,E,C,P,t,u,w,at1,O,J,-aQ,-aB,-xN];refine dT ?_;rw[eJ (n:=M+1) (by simpa using b)];simpa[wd,MY]using K
def xoB(a b:Int):Int:=IntKind.u8.wrap (BitVec.ofInt 8 a^^^BitVec.ofInt 8 b).toNat
@[simp]theorem xI3{a b:Int}:bY .xor (.int .u8 a) (.int .u8 b)=some (.int .u8 (xoB a b)):=rfl
def tD(bs:List Int):List Int:=(bs++List.replicate (136-bs.length) 0).set bs.length 6
def vC(bs:List Int):List Int:=(tD bs).set 135 (xoB ((tD bs).getD 135 0) 128)
theorem zJ6{bs:List Int}(a:bs.length<136):(tD bs).length=136:=by simp[tD];omega
theorem yW9{bs:List Int}(a:bs.length<136):(vC bs).length=136:=by simp[vC,zJ6 a]
def vI(st bs:List Int):List Int:=lH (fun st c=>jO st offsL c) (mL st 0 bs) constL
theorem xi6{st bs:List Int}:(vI st bs).length=st.length:=by unfold vI;rw[LZ (fun st c=>TD),DC]
def FM(st bs:List Int):List Int:=tK (vI st (vC bs)) 32 0 (List.replicate 32 0)
def vM(n:Nat)(bs:List Int):AV:=if bs=[]then .nils else .own (n+1) 0 bs.length
def uS(h:aA)(st:List Int)(tk:Int)(T:List AV)(bs:List Int):aA:=h++(.cells (sp st (vM h.length bs) tk T)::if bs=[]then[]else[Blk.arr 1 0 (aK bs) true])
def zf5(h:aA)(st:List Int)(rest:AV)(tk:Int)(T:List AV)(bs:List Int):aA:=((((uS h st tk T bs++[Blk.arr 1 0 (aK (List.replicate 136 0)) true]).set (uS h st tk T bs).length (.arr 1 0 (aK (vC bs)) true)).set h.length (.cells (wd (vI st (vC bs))++vM h.length bs::.n tk::T)))++[Blk.arr 1 0 (aK (FM st bs)) true]).set 0 (.cells (sp st rest tk (wd st++[.str (kW bs),.str (kW (FM st bs))])))
def BX(a:List AV)(h:aA):Option (AV×aA):=match a with
 |[.ptr 0 0]=>match h[0]? with
  |some (Blk.cells d)=>match zV d with
   |some (st,rest,tk,seen,c,[])=>match rowsOf h rest with
    |some b=>match pR (qG (gV .u8)).dec b with
     |some bs=>if bs.length<136/\bs.all (fun n=>decide (0<=n/\n<256))then some (.str (kW (FM st bs)),zf5 h st rest tk (tl2 seen c []) bs)else none|none=>none
    |none=>none
   |_=>none
  |_=>none
 |_=>none
theorem xo1{h:aA}{x:AV}{b:List (List AV)}(a:rowsOf h x=some b):bE x=true/\x.cells=[x]:=by cases x<;>first|(simp[rowsOf]at a;done)|exact⟨rfl,rfl⟩
theorem yn5(G:Gam)(hA:G Fn.cj=some (.gen sD))(hC:G Fn.cx=some (.gen BS)):GW G Mc.ct Rs.ct Ks.ct BX:=by
 intro B1 h C3 h' g;unfold BX at g;split at g
 ·split at g
  ·rename_i vs I;split at g
   ·rename_i st rest tk seen J r1;split at g
    ·rename_i D1 z;split at g
     ·rename_i bs hd;split at g
      ·rename_i hc;obtain⟨hb,r2⟩:=hc;obtain⟨rfl,d,a2⟩:=zt6 r1;have e3:=PQ (qG (gV .u8)) hd;rw[zq3]at e3;subst e3;injection g with g;injection g with h1 m;subst h1;have r3:∀n∈bs,inB n:=fun n S=>by simpa[inB]using fK.1 r2 n S
       obtain⟨v3,B3⟩:=xo1 z;obtain⟨T,Q⟩:∃T,T=tl2 seen J []:=⟨_,rfl⟩;have o1:T.length=27:=by rw[Q];simp[a2]
       rw[<-Q]at m I;have o2:T.all bE=true:=by rw[Q];simp[uO (f:=AV.int .u64) (fun _=>rfl) seen]
       have g2:=(aF.1 I).1;have n3:aB 1 false h (.ptr 0 53)=some (.str []):=by
        refine bT I ?_;rw[dY (by simp[d])];simp only[kG,d];show(rest::.n tk::T)[53-25]?=_;rw[Q];simp only[oG];rw[dY (by simp[a2])];simp[a2]
       have o3:(sp st rest tk T).all bE=true:=by
        rw[List.all_append,uO (f:=AV.int .u64) (fun _=>rfl)];simp[v3,o2]
       have g1:(sp st rest tk T).length=54:=by rw[BI d,o1]
       have cC:BS [.ptr 0 0] h=some (.ptr h.length 0,uS h st tk T bs):=by
        have x3:=TU bs;have p1:(aK bs).length<=dJ:=by rw[byteRows_len];unfold dJ;omega
        simp only[BS,I,yB d,z];rw[if_pos ⟨g1,o3,x3,p1⟩];simp only[uS,vM];by_cases t:bs=[];·subst t;simp[aK,GF d]
        ·have:aK bs≠[]:=fun e=>t (IS.1 e);simp only[if_neg this,if_neg t,GF d,byteRows_len]
       have b3:opV G false h (.call Fn.cx) (some [.ptr 0 0])=some (.ptr h.length 0,uS h st tk T bs):=by rw[dV hC];exact cC
       unfold zf5 at m;obtain⟨p,D⟩:∃p,p=uS h st tk T bs:=⟨_,rfl⟩;have a0:p[0]?=some (.cells (sp st rest tk T)):=by rw[D];simp only[uS];rw[aX g2];exact I
       have an:p[h.length]?=some (.cells (sp st (vM h.length bs) tk T)):=by rw[D];simp[uS]
       have h3:h.length<p.length:=(aF.1 an).1;have K:rowsOf p (vM h.length bs)=some (aK bs):=by
        rw[D];by_cases t:bs=[];·subst t;rfl
        ·have hm:(h++(Blk.cells (sp st (vM h.length bs) tk T)::[Blk.arr 1 0 (aK bs) true]))[h.length+1]?=some (.arr 1 0 (aK bs) true):=by rw[dY (by omega)];simp
         simp only[uS,if_neg t];rw[show vM h.length bs=.own (h.length+1) 0 bs.length by simp[vM,t]]at hm⊢;exact xV hm byteRows_len.symm
       have m1:rowsOf p rest=some (aK bs):=by rw[D];exact MM z _
       rw[<-D]at m b3;obtain⟨f,w1⟩:∃f,f=vM h.length bs:=⟨_,rfl⟩;rw[<-w1]at an K m;clear cC D;obtain⟨n,S⟩:∃n,n=h.length:=⟨_,rfl⟩;rw[<-S]at an m b3 h3 g2;obtain⟨L,Z⟩:∃L,L=p.length:=⟨_,rfl⟩;rw[<-Z]at m h3;have mk:opV G false p (.mksl [.int .u8 0] 1) (some [.n 136,.n 136])=some (.own L 0 136,p++[Blk.arr 1 0 (aK (List.replicate 136 0)) true]):=by
        have:=za1 (G:=G) (s:=false) (h:=p) (zero:=[.int .u8 0]) (bytes:=1) (n:=136) (k:=.i64) (k':=.i64) (by decide) (by decide);rw[Z];exact this
       obtain⟨q,A⟩:∃q,q=p++[Blk.arr 1 0 (aK (List.replicate 136 0)) true]:=⟨_,rfl⟩;rw[<-A]at m mk;have b0:q[0]?=some (.cells (sp st rest tk T)):=by rw[A,aX (by omega)];exact a0
       have bn:q[n]?=some (.cells (sp st f tk T)):=by rw[A,aX (by omega)];exact an
       have bL:q[L]?=some (.arr 1 0 (aK (List.replicate 136 0)) true):=by rw[A,Z];simp
       have br:rowsOf q f=some (aK bs):=by rw[A];exact MM K _
       have n2:rowsOf q rest=some (aK bs):=by rw[A];exact MM m1 _
       have t2:q.length=L+1:=by rw[A,Z];simp
       have y3:aB 1 false q (.ptr n 25)=some f:=bT bn (yB d);have w2:∀l v k,f=.own l v k->l≠L/\l≠n:=fun l v k e=>by
        rw[e]at K an;refine⟨fun M=>?_,fun M=>?_⟩
        ·subst M;simp[rowsOf,lX (show p.length<=l by omega)]at K
        ·subst M;simp[rowsOf,an]at K
       have i2:∀l v k,rest=.own l v k->l≠L/\l≠n/\l≠0/\l<n:=fun l v k e=>by
        have c2:=z;rw[e]at c2;have C2:l<h.length:=by
         rcases lY l h.length with c1|c1;·exact c1
         ·simp[rowsOf,lX c1]at c2
        refine⟨by omega,by omega,fun M=>?_,by omega⟩;subst M;simp[rowsOf,I]at c2
       have d1:∀(H:aA)(x:AV)(l:Nat)(b:Blk),(∀l' v k,x=.own l' v k->l'≠l)->rowsOf H x=some (aK bs)->rowsOf (H.set l b) x=some (aK bs):=fun H x l b hx z=>by
        cases x<;>first|(simp[rowsOf]at z;done)|exact z|skip
        rename_i l2 v k;simp only[rowsOf]at z⊢;rw[eY (fun e=>hx l2 v k rfl e.symm)];exact z
       have cp:opV G false q (.cpy false 1) (some [.own L 0 136,f])=some (.n bs.length,q.set L (.arr 1 0 (aK (bs++List.replicate (136-bs.length) 0)) true)):=by
        rw[fG rfl];have w3:(aK (List.replicate 136 (0:Int))).length=136:=by simp[aK]
        have p3:aK bs++(aK (List.replicate 136 (0:Int))).drop bs.length=aK (bs++List.replicate (136-bs.length) 0):=by unfold aK;rw[List.map_append,<-List.map_drop,List.drop_replicate]
        simp only[bC,lZ,bM,bH,br,TU,aM,bL,w3,byteRows_len,p3];by_cases t:bs=[]
        ·subst t;rw[if_pos (show aK []=[]from rfl)];simp only[jU,kN,Nat.sub_zero];rw[GB bL];rfl
        ·have p2:¬aK bs=[]:=fun e=>t (IS.1 e);rw[if_neg p2,if_pos ⟨trivial,by omega,by omega,trivial⟩]
       obtain⟨w,B⟩:∃w,w=q.set L (.arr 1 0 (aK (bs++List.replicate (136-bs.length) 0)) true):=⟨_,rfl⟩;rw[<-B]at cp;have cn:w[n]?=some (.cells (sp st f tk T)):=by rw[B,eY (by omega)];exact bn
       have cL:w[L]?=some (.arr 1 0 (aK (bs++List.replicate (136-bs.length) 0)) true):=by rw[B,fL (by omega)]
       have cr:rowsOf w f=some (aK bs):=by rw[B];exact d1 _ _ _ _ (fun l v k e=>(w2 l v k e).1) br
       have t3:w.length=L+1:=by rw[B];simpa using t2
       have z1:aB 1 false w (.ptr n 25)=some f:=bT cn (yB d);have j1:=zK6 cr;rw[byteRows_len]at j1;have t1:(bs++List.replicate (136-bs.length) (0:Int)).length=136:=by simp;omega
       have m2:=VZ (k:=.i64) (i:=bs.length) (n:=136) cL t1.symm hb;have j2:=WA (G:=G) (st0:=false) (i:=bs.length) (v:=6) cL (by omega);obtain⟨y,E⟩:∃y,y=w.set L (.arr 1 0 (aK (tD bs)) true):=⟨_,rfl⟩;have A3:opV G false w (.st 1) (some [.eptr L 0 bs.length 0,.int .u8 6])=some (.junk,y):=by rw[E];exact j2
       have dn:y[n]?=some (.cells (sp st f tk T)):=by rw[E,eY (by omega)];exact cn
       have dL:y[L]?=some (.arr 1 0 (aK (tD bs)) true):=by rw[E,fL (by omega)]
       have u1:y.length=L+1:=by rw[E];simpa using t3
       have d2:=zJ6 hb;have m3:bN 1 y (.own L 0 136) (.n 135)=some (.eptr L 0 135 0):=VZ (k:=.i64) (i:=135) (n:=136) dL d2.symm (by omega);have i3:=yp9 (i:=135) (v:=(tD bs).getD 135 0) dL (by simp[d2]);have j3:=WA (G:=G) (st0:=false) (i:=135) (v:=xoB ((tD bs).getD 135 0) 128) dL (by omega);obtain⟨i,F⟩:∃i,i=y.set L (.arr 1 0 (aK (vC bs)) true):=⟨_,rfl⟩;have l1:opV G false y (.st 1) (some [.eptr L 0 135 0,.int .u8 (xoB ((tD bs).getD 135 0) 128)])=some (.junk,i):=by rw[F];exact j3
       have Y:i=q.set L (.arr 1 0 (aK (vC bs)) true):=by rw[F,E,B];simp
       generalize(tD bs).getD 135 0=D2 at i3 l1;have en:i[n]?=some (.cells (sp st f tk T)):=by rw[F,eY (by omega)];exact dn
       have eL:i[L]?=some (.arr 1 0 (aK (vC bs)) true):=by rw[F,fL (by omega)]
       have u2:i.length=L+1:=by rw[F];simpa using u1
       have e0:i[0]?=some (.cells (sp st rest tk T)):=by rw[Y,eY (by omega)];exact b0
       have er:rowsOf i rest=some (aK bs):=by rw[Y];exact d1 _ _ _ _ (fun l v k e=>(i2 l v k e).1) n2
       have f1:=yW9 hb;rw[<-Y]at m;clear Y F E B j2 j3;obtain⟨u,f3⟩:∃u,u=vC bs:=⟨_,rfl⟩;rw[<-f3]at m eL f1;have i1:(vI st u).length=25:=by rw[xi6];exact d
       have cA:sD [.ptr n 0,.own L 0 136] i=some (.tup [],i.set n (.cells (wd (vI st u)++f::.n tk::T))):=by
        have e1:pR (qG (gV .u8)).dec (aK u)=some u:=JY (qG (gV .u8)) _;have e4:rowsOf i (.own L 0 136)=some (aK u):=xV eL (by rw[byteRows_len];exact f1.symm);simp only[sD,en,e4,ze8 d,DT,e1,ze7 d];rw[if_pos ⟨d,by omega⟩];rfl
       have a3:opV G false i (.call Fn.cj) (some [.ptr n 0,.own L 0 136])=some (.tup [],i.set n (.cells (wd (vI st u)++f::.n tk::T))):=by rw[dV hA];exact cA
       clear cA;obtain⟨o,ho⟩:∃o,o=FM st bs:=⟨_,rfl⟩;have a1:o=tK (vI st u) 32 0 (List.replicate 32 0):=by rw[ho,f3];rfl
       have v1:∀n∈o,inB n:=by
        rw[a1];exact zR1 _ _ _ _ fun n S=>by rw[(List.mem_replicate.1 S).2];exact⟨by omega,by omega⟩
       have v2:o.length=32:=by rw[a1,zR2];rfl
       rw[<-ho]at m⊢;generalize vI st u=c3 at a3 i1 a1 m;obtain⟨r,N⟩:∃r,r=i.set n (.cells (wd c3++f::.n tk::T)):=⟨_,rfl⟩;rw[<-N]at a3 m;have f0:r[0]?=some (.cells (sp st rest tk T)):=by rw[N,eY (by omega)];exact e0
       have fn:r[n]?=some (.cells (wd c3++f::.n tk::T)):=by rw[N,fL (by omega)]
       have fr:rowsOf r rest=some (aK bs):=by rw[N];exact d1 _ _ _ _ (fun l v k e=>(i2 l v k e).2.1) er
       have C:r.length=L+1:=by rw[N];simpa using u2
       have z3:opV G false r (.mksl [.int .u8 0] 1) (some [.n 32,.n 32])=some (.own (L+1) 0 32,r++[Blk.arr 1 0 (aK (List.replicate 32 0)) true]):=by
        have:=za1 (G:=G) (s:=false) (h:=r) (zero:=[.int .u8 0]) (bytes:=1) (n:=32) (k:=.i64) (k':=.i64) (by decide) (by decide);rw[<-C];exact this
       have l0:=fun ks l3 hk=>yc3 G n L (L+1) c3 i1 (f::.n tk::T) (ks:=ks) (Q:=l3) 32 0 (List.replicate 32 0) (r++[Blk.arr 1 0 (aK (List.replicate 32 0)) true]) (by omega) rfl (by simp[C]) (by omega) (by rw[aX (by omega)];exact fn) (by rw[dY (by omega)];simp[C]) hk;rw[<-a1]at l0;have x1:(r++[Blk.arr 1 0 (aK (List.replicate 32 0)) true]).set (L+1) (.arr 1 0 (aK o) true)=r++[Blk.arr 1 0 (aK o) true]:=by rw[gK _ _ (by omega),C];simp
       rw[x1]at l0;obtain⟨j,O⟩:∃j,j=r++[Blk.arr 1 0 (aK o) true]:=⟨_,rfl⟩;rw[<-O]at l0 m;have k0:j[0]?=some (.cells (sp st rest tk T)):=by rw[O,aX (by omega)];exact f0
       have kr:rowsOf j rest=some (aK bs):=by rw[O];exact MM fr _
       have kM:j[L+1]?=some (.arr 1 0 (aK o) true):=by rw[O,dY (by omega)];simp[C]
       have C1:j.length=L+2:=by rw[O];simp[C]
       have y1:aB 25 true j (.ptr 0 0)=some (.agg (wd st)):=by
        have hc:cut (sp st rest tk T) 0 25=wd st:=by unfold cut;rw[wK,List.take_left' (by simpa using d)]
        simp only[aB,k0,hc,aD];simp[d]
       have y2:aB 1 false j (.ptr 0 25)=some rest:=bT k0 (yB d);have b1:∀U,opV G U j .b2s (some [rest])=some (.str (kW bs),j):=fun U=>by rw[bW rfl];simp[bV,kr,WP bs r3]
       have b2:∀U,opV G U j .b2s (some [.own (L+1) 0 32])=some (.str (kW o),j):=fun U=>by
        rw[bW rfl];have:=xV kM (n:=32) (by rw[byteRows_len];exact v2.symm);simp[bV,this,WP o v1]
       have f2:(sp st rest tk T).length=54:=g1;have s1:bB 25 j (.ptr 0 27) (.agg (wd st))=some (j.set 0 (.cells (sp st rest tk (wd st++[.str J,.str []])))):=by
        have q3:(AV.agg (wd st)).cells=wd st:=rfl;have x2:bF (sp st rest tk T) 27 (wd st)=sp st rest tk (wd st++[.str J,.str []]):=by
         rw[tR _ _ _ (by rw[f2];simp;omega)];have q1:(sp st rest tk T).take 27=wd st++[rest,.n tk]:=by
          rw[uN,lN (by simp[d])];simp[d]
         have q2:(sp st rest tk T).drop (27+(wd st).length)=[.str J,.str []]:=by
          rw[IK,OL (by simp[d])];simp only[kG,d,jU];show(rest::.n tk::T).drop 27=_;simp only[List.drop_succ_cons];rw[Q,List.drop_left' (by simpa using a2)]
         rw[q1,q2];simp
        simp only[bB,q3,k0,x2];rw[if_pos ⟨by simpa using d,by omega,uO (fun _=>rfl) st⟩,if_pos (by rw[f2];omega)]
       obtain⟨W,P⟩:∃W,W=j.set 0 (.cells (sp st rest tk (wd st++[.str J,.str []]))):=⟨_,rfl⟩;rw[<-P]at s1;have m0:W[0]?=some (.cells (sp st rest tk (wd st++[.str J,.str []]))):=by rw[P,fL (by omega)]
       have g3:∀a b:AV,(sp st rest tk (wd st++[a,b])).length=54:=fun a b=>by rw[BI d];simp[d]
       have A1:∀a b c:AV,(sp st rest tk (wd st++[a,b])).set 52 c=sp st rest tk (wd st++[c,b]):=fun a b c=>by
        rw[gK _ _ (by simp[d])];simp only[kG,d];show wd st++(rest::.n tk::(wd st++[a,b])).set 27 c=_;simp only[List.set_cons_succ];rw[gK _ _ (by simp[d])];simp[d]
       have A2:∀a b c:AV,(sp st rest tk (wd st++[a,b])).set 53 c=sp st rest tk (wd st++[a,c]):=fun a b c=>by
        rw[gK _ _ (by simp[d])];simp only[kG,d];show wd st++(rest::.n tk::(wd st++[a,b])).set 28 c=_;simp only[List.set_cons_succ];rw[gK _ _ (by simp[d])];simp[d]
       have s2:=BL m0 (off:=52) (v:=.str (kW bs)) (by rw[g3];omega) rfl rfl;rw[A1]at s2;obtain⟨V,X⟩:∃V,V=W.set 0 (.cells (sp st rest tk (wd st++[.str (kW bs),.str []]))):=⟨_,rfl⟩;rw[<-X]at s2;have n0:V[0]?=some (.cells (sp st rest tk (wd st++[.str (kW bs),.str []]))):=by rw[X,fL (by rw[P];simp;omega)]
       have s3:=BL n0 (off:=53) (v:=.str (kW o)) (by rw[g3];omega) rfl rfl;rw[A2]at s3;have d3:V.set 0 (.cells (sp st rest tk (wd st++[.str (kW bs),.str (kW o)])))=h':=by rw[X,P,m.symm];simp
       rw[d3]at s3;have z0:h'[0]?=some (.cells (sp st rest tk (wd st++[.str (kW bs),.str (kW o)]))):=by rw[<-d3,fL (by rw[X,P];simp;omega)]
       have z2:aB 1 false h' (.ptr 0 53)=some (.str (kW o)):=by
        refine bT z0 ?_;rw[dY (by simp[d])];simp only[kG,d];show(rest::.n tk::(wd st++[AV.str (kW bs),.str (kW o)]))[28]?=_;simp only[oG];rw[dY (by simp[d])];simp[d]
       have n1:bY .neq (.str []) (.str [])=some (.F):=rfl;have lo:∀H:aA,aW H 1 (.own (L+1) 0 32)=some (.n 32):=fun H=>by simp
       rw[aT];simp[Mc.ct,lo,aC,Ks.ct,n3,n1,b3,mk,y3,cp,z1,j1,m2,A3,m3,i3,l1,a3,z3,C,-aB,-aQ,-xN,-aW];refine l0 _ _ (fun B2=>?_);simp[MY,y1,y2,b1,b2,s1,s2,s3,z2,eF,Rs.ct,-aB,-aQ]
      ·cases g
     ·cases g
    ·cases g
   ·cases g
  ·cases g
 ·cases g
def kJ:List Int:=[0,0,0,0,0,0,0,0,0,0,0,0,0,0,0,0,0,0,0,0,0,0,0,0,0]
theorem yD2:zV EU=some (kJ,.nils,0,kJ,[],[]):=rfl
def nJ(d:Bs):Bs:=kW (FM (fO d.length kJ (fU d) []).1 (fO d.length kJ (fU d) []).2.1)
def qT:List AV->Option AV:=F1 eStr eStr fun d=>if d.length<=big then some (nJ d)else none
theorem yg1:∀(N:Nat)(st bs:List Int)(a:List (List (List AV))),bs.length<136*(N+1)->(fO N st bs a).2.1.length<136
 |0,_,_,_,h=>by simpa[fO]using h|N+1,st,bs,a,h=>by
  simp only[fO];split;·assumption
  ·exact yg1 N _ _ _ (by simp;omega)
theorem yg2:∀(N:Nat)(st bs:List Int)(a:List (List (List AV))),∀n∈(fO N st bs a).2.1,n∈bs
 |0,_,_,_=>fun n h=>h|N+1,st,bs,a=>fun n h=>by
  simp only[fO]at h;split at h;·exact h
  ·exact DE (yg2 N _ _ _ n h)
theorem yu4(d:Bs):∀n∈fU d,inB n:=fun n a=>by
 obtain⟨b,_,rfl⟩:=jE.1 a;have:=b.toNat_lt;exact⟨by omega,by omega⟩
theorem xG7{st:List Int}{tk:Int}{seen:List Int}{bs:List Int}{os:List (List (List AV))}(k:st.length=25)(m:seen.length=25)(f:bs.length<136)(i:∀n∈bs,inB n):∃b,BX [.ptr 0 0] (lK st tk (tl2 seen [] []) bs os)=some (.str (kW (FM st bs)),b):=by
 have e:bs.all (fun n=>decide (0<=n/\n<256))=true:=fK.2 fun n j=>by simpa[inB]using i n j
 have g:pR (qG (gV .u8)).dec (aK bs)=some bs:=JY (qG (gV .u8)) _;obtain⟨rest,c,d⟩:∃rest,(lK st tk (tl2 seen [] []) bs os)[0]?=some (.cells (sp st rest tk (tl2 seen [] [])))/\rowsOf (lK st tk (tl2 seen [] []) bs os) rest=some (aK bs):=by
  by_cases a:bs=[]
  ·subst a;exact⟨.nils,by simp[lK],rfl⟩
  ·refine⟨.own (1+os.length) 0 bs.length,by simp[lK,hold,a],?_⟩;have:(lK st tk (tl2 seen [] []) bs os)[1+os.length]?=some (.arr 1 0 (aK bs) true):=by
    simp only[lK,hold,if_neg a];rw[Nat.add_comm,oG,dY (by simp)];simp
   exact xV this byteRows_len.symm
 refine⟨zf5 (lK st tk (tl2 seen [] []) bs os) st rest tk (tl2 seen [] []) bs,?_⟩;simp only[BX,c,yD1 k m,d,g];rw[if_pos ⟨f,e⟩]
theorem yB1(G:Gam)(g:G Fn.c3=some (.gen NS))(j:G Fn.bk=some (.gen BY))(i:G Fn.ct=some (.gen BX)):PW G Mc.c4 Rs.c4 Ks.c4 qT:=vY fun d r h=>by
 split at h
 ·rename_i k;injection h with h;subst h;have b:opV G false [] (.call Fn.c3) (some [])=some (.ptr 0 0,[.cells EU]):=by rw[dV g];rfl
  obtain⟨v,o⟩:∃v,BY [.ptr 0 0,.tsl [[.str d]]] [.cells EU]=some (v,lK (fO d.length kJ (fU d) []).1 (IntKind.i64.wrap (0+d.length)) (tl2 kJ [] []) (fO d.length kJ (fU d) []).2.1 (fO d.length kJ (fU d) []).2.2):=by
   refine⟨.n (IntKind.i64.wrap (0+d.length)),?_⟩;simp only[BY,yD2];rw[if_pos k]
  have a:opV G false [.cells EU] (.call Fn.bk) (some [.ptr 0 0,.tsl [[.str d]]])=some (v,lK (fO d.length kJ (fU d) []).1 (IntKind.i64.wrap (0+d.length)) (tl2 kJ [] []) (fO d.length kJ (fU d) []).2.1 (fO d.length kJ (fU d) []).2.2):=by rw[dV j];exact o
  obtain⟨f,c⟩:=xG7 (st:=(fO d.length kJ (fU d) []).1) (tk:=IntKind.i64.wrap (0+d.length)) (seen:=kJ) (bs:=(fO d.length kJ (fU d) []).2.1) (os:=(fO d.length kJ (fU d) []).2.2) (by rw[zh0];rfl) rfl (yg1 _ _ _ _ (by simp[fU];omega)) (fun n m=>yu4 d n (yg2 _ _ _ _ n m));generalize lK (fO d.length kJ (fU d) []).1 (IntKind.i64.wrap (0+d.length)) (tl2 kJ [] []) (fO d.length kJ (fU d) []).2.1 (fO d.length kJ (fU d) []).2.2=H at a c;have e:opV G false H (.call Fn.ct) (some [.ptr 0 0])=some (.str (nJ d),f):=by rw[dV i];exact c
  generalize EU=S at b a;rw[aT];simp[Mc.c4,aC,Ks.c4,b,a,e,Rs.c4,eZ,owns,cV,view,dH,nN]
 ·cases h
end Go.Proofs.YtpefhfiehfkocaaGreatDoor
