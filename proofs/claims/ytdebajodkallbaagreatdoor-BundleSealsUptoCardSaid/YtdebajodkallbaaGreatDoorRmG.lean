/- strings -/
import Derived.Test.YtdebajodkallbaaGreatDoorRmA
namespace Go.Proofs.YtdebajodkallbaaGreatDoor
open Go.RowKit Go.IntWalk
theorem zb2{G:Gam}(d:G Fn.ec=some (.pure qA)):PW G Mc.dl Rs.dl Ks.dl qA:=by
 intro f r b;have a:=b;unfold qA at a;split at a
 ·rename_i s;split at a
  ·injection a with e;subst e;have c:∀st h,opV G st h (.call Fn.ec) (some [.str s])=some (.str s,h):=fun st h=>bF d (us:=[.str s]) rfl b (.inl rfl);rw[aM];simp[Mc.dl,aC,Ks.dl,c,aD,Rs.dl]
  ·cases a
 ·cases a
theorem zd3{G:Gam}(d:G Fn.eb=some (.pure nS)):PW G Mc.dm Rs.dm Ks.dm nS:=by
 intro f r b;have a:=b;unfold nS at a;split at a
 ·rename_i s t;injection a with e;subst e;have c:∀st h,opV G st h (.call Fn.eb) (some [.str s,.str t])=some (.bool (t.isPrefixOf s),h):=fun st h=>bF d (us:=[.str s,.str t]) rfl b (.inl rfl);rw[aM];simp[Mc.dm,aC,Ks.dm,c,aD,Rs.dm]
 ·cases a
def mX(x k:Int):Int:=oo (sl x (an (IntKind.u64.wrap k) 63)) (sr x (IntKind.u64.wrap (64-an (IntKind.u64.wrap k) 63)))
def MY:List AV->Option AV:=F2 (fG .u64) eInt (fG .u64) fun x k=>some (mX x k)
theorem xk0(G:Gam):PW G Mc.di Rs.di Ks.di MY:=MG fun x k r h=>by
 injection h with h;subst h;rw[aM];have a:0<=an (IntKind.u64.wrap k) 63:=zS7 _;have b:0<=IntKind.u64.wrap (64-an (IntKind.u64.wrap k) 63):=zS7 _;simp[Mc.di,aC,Ks.di,fG,eInt,Rs.di,OF a,OG b,mX]
theorem jN{cs:List Int}{i:Nat}(a:i<cs.length):(wd cs)[i]?=some (.u (cs.getD i 0)):=by simp[List.getD,jT a]
theorem yA6{cs:List Int}{i:Nat}(a:i<cs.length):(nm cs)[i]?=some (.n (cs.getD i 0)):=by simp[List.getD,jT a]
theorem uJ(a:List Int)(i:Nat)(x:Int):(wd a).set i (.u x)=wd (a.set i x):=by simp[List.map_set]
theorem pO(i:Nat):∃x:Nat,x=i%5/\x<5/\aW .rem (.n i) (.n 5)=some (.n x):=by
 refine⟨i%5,rfl,Nat.mod_lt _ (by decide),?_⟩;have e:((i:Int).tmod 5)=((i%5:Nat):Int):=by rw[NV (by omega)];omega
 simp only[aW,fS];simp[e]
theorem xg3{i:Nat}(b:i<1000):∃y:Nat,y=i/5/\aW .quo (.n i) (.n 5)=some (.n y):=by
 refine⟨i/5,rfl,?_⟩;have e:((i:Int).tdiv 5)=((i/5:Nat):Int):=by rw[AA (by omega)];omega
 have a:IntKind.i64.wrap ((i/5:Nat):Int)=((i/5:Nat):Int):=fO (by omega) (by omega);simp only[aW,fS];simp only[reduceCtorEq,or_self,bY,bD,e,a];simp
def lQ(a:List Int)(i:Nat):List Int->List Int
 |[]=>a|w::r=>lQ (a.set (i%5) (xo (a.getD (i%5) 0) w)) (i+1) r
theorem zn2:∀(r:List Int)(a:List Int)(i:Nat),(lQ a i r).length=a.length
 |[],_,_=>rfl|w::r,a,i=>by rw[lQ,zn2 r];simp
abbrev h4(st b c a:List Int):aA:=[.cells (wd st),.cells (nm b),.cells (wd c),.cells (wd a)]
abbrev rY(st r:List Int)(c:Int)(p q a b d e f g i j k m n o:AV):List (Nat×AV):=[(0,.agg (wd st)),(1,.agg (nm r)),(2,.u c),(3,.ptr 0 0),(4,.ptr 1 0),(6,.ptr 2 0),(7,.ptr 3 0),(8,p),(9,q),(10,a),(11,b),(12,d),(13,e),(14,f),(15,g),(16,i),(17,j),(18,k),(30,m),(31,n),(69,o)]
theorem zL2(G:Gam)(st b:List Int)(z:st.length=25)(c:Int)(f:List Int){ks:List MK}{Q:aY}:∀(rest:List Int)(i:Nat)(a:List Int),st.drop i=rest->i<=25->a.length=5->(∀q,exM G .normal ks Q q (rY st b c .junk .junk .junk .junk .junk .junk .junk .junk .junk (.agg (wd st)) (.n 25) .junk .junk .junk) (h4 st b f (lQ a i rest)))->cY G [8,9] Mc.ax_L0 4 (.blk 0::ks) Q (rY st b c .junk .junk .junk .junk .junk .junk .junk .junk .junk (.agg (wd st)) (.n i) .junk .junk .junk) (h4 st b f a)
 |[],i,a,j,r,n,d=>by
  have u:=drop_nil j;have e:i=25:=by omega
  subst e;have H:ltB 25 25=false:=rfl;refine aJ (Mc.ax_L0.eq_1) ?_;rw[aQ (n:=4) rfl];have:=d;simp only[lQ]at this;simp;simpa using this _|w::rest,i,a,j,r,n,d=>by
  obtain⟨u,B,D⟩:=eT j;have t:ltB i 25=true:=aO.2 (by omega);have A:=dT (i:=i) (by unfold big;omega);obtain⟨x,E,C,y⟩:=pO i;simp only[lQ,<-E]at d;have F:=fun k h=>WW (G:=G) (s:=k) (h:=h) (len:=25) (i:=i) (k:=.i64) (cs:=wd st) (v:=.u w) (by omega) (by simp[B]);have m:=fun k h=>iV (G:=G) (s:=k) (h:=h) (len:=5) (size:=1) (l:=3) (off:=0) (i:=x) (k:=.i64) C (by decide);have p:=jV (jN (cs:=a) (i:=x) (by omega));have g:=uL (h:=h4 st b f a) (l:=3) (off:=x) (vs:=wd a) (k:=.u64) (n:=xo (a.getD x 0) w) rfl (by simp;omega);rw[uJ]at g;have o:=zL2 G st b z c f rest (i+1) (a.set x (xo (a.getD x 0) w)) D (by omega) (by simpa using n) d;generalize a.getD x 0=v at p g o;simp only[eR,mB,List.set]at m g;refine aJ (Mc.ax_L0.eq_1) ?_;rw[aQ (n:=4) rfl];simp[t,F,y,m,p,g,A,-bB];refine cZ ?_;rw[aQ (n:=4) rfl];simpa[rY,h4,wd]using o
def nQ(b a:List Int)(t:List Int)(i:Nat):List Int->List Int
 |[]=>t|w::r=>nQ b a (t.set (i/5+5*((2*(i%5)+3*(i/5))%5)) (mX (xo w (xo (a.getD ((i%5+4)%5) 0) (mX (a.getD ((i%5+1)%5) 0) 1))) (b.getD i 0))) (i+1) r
theorem zR7(b a:List Int):∀(r t:List Int)(i:Nat),(nQ b a t i r).length=t.length
 |[],_,_=>rfl|w::r,t,i=>by rw[nQ,zR7 b a r];simp
abbrev h5(st b c a t:List Int):aA:=[.cells (wd st),.cells (nm b),.cells (wd c),.cells (wd a),.cells (wd t)]
theorem zL3(G:Gam)(D:G Fn.di=some (.pure MY))(st f:List Int)(Z:st.length=25)(W:f.length=25)(c:Int)(m d:List Int)(P:d.length=5){ks:List MK}{Q:aY}:∀(rest:List Int)(i:Nat)(t:List Int),st.drop i=rest->i<=25->t.length=25->(∀O,exM G .normal ks Q O (rY st f c .junk .junk (.ptr 4 0) .junk .junk .junk .junk .junk .junk (.agg (wd st)) (.n 25) (.agg (wd st)) (.n 25) .junk) (h5 st f m d (nQ f d t i rest)))->cY G [11,12,13,14] Mc.ax_L1 5 (.blk 2::ks) Q (rY st f c .junk .junk (.ptr 4 0) .junk .junk .junk .junk .junk .junk (.agg (wd st)) (.n 25) (.agg (wd st)) (.n i) .junk) (h5 st f m d t)
 |[],i,t,p,S,I,j=>by
  have V:=drop_nil p;have e:i=25:=by omega
  subst e;refine aJ (Mc.ax_L1.eq_1) ?_;rw[aQ (n:=5) rfl];have:=j;simp only[nQ]at this;simp;simpa using this _|f3::rest,i,t,p,S,I,j=>by
  obtain⟨V,hx,e1⟩:=eT p;have U:ltB i 25=true:=aO.2 (by omega);have hw:=dT (i:=i) (by unfold big;omega);obtain⟨x,e2,g2,Y⟩:=pO i;obtain⟨y,e3,X⟩:=xg3 (i:=i) (by omega);have h1:y<5:=by omega
  obtain⟨r,d1,b3,F⟩:=pO (x+4);obtain⟨q,b2,b1,E⟩:=pO (x+1);obtain⟨z,f1,h2,H⟩:=pO (2*x+3*y);simp only[nQ,<-e2,<-e3,<-d1,<-b2,<-f1]at j;have J:IntKind.i64.wrap ((x:Int)+4)=((x+4:Nat):Int):=fO (by omega) (by omega);have K:IntKind.i64.wrap ((x:Int)+1)=((x+1:Nat):Int):=fO (by omega) (by omega);have w3:IntKind.i64.wrap (2*(x:Int))=2*x:=fO (by omega) (by omega);have w4:IntKind.i64.wrap (3*(y:Int))=3*y:=fO (by omega) (by omega);have L:IntKind.i64.wrap (2*(x:Int)+3*y)=((2*x+3*y:Nat):Int):=by rw[fO (by omega) (by omega)];omega
  have w6:IntKind.i64.wrap (5*(z:Int))=5*z:=fO (by omega) (by omega);have M:IntKind.i64.wrap ((y:Int)+5*z)=((y+5*z:Nat):Int):=by rw[fO (by omega) (by omega)];omega
  have ia:=fun b h=>WW (G:=G) (s:=b) (h:=h) (len:=25) (i:=i) (k:=.i64) (cs:=wd st) (v:=.u f3) (by omega) (by simp[hx]);have u:=fun b h=>iV (G:=G) (s:=b) (h:=h) (len:=5) (size:=1) (l:=3) (off:=0) (i:=r) (k:=.i64) b3 (by decide);have v:=fun b h=>iV (G:=G) (s:=b) (h:=h) (len:=5) (size:=1) (l:=3) (off:=0) (i:=q) (k:=.i64) b1 (by decide);have w:=fun b h=>iV (G:=G) (s:=b) (h:=h) (len:=25) (size:=1) (l:=1) (off:=0) (i:=i) (k:=.i64) (by omega) (by decide);have o:=fun b h=>iV (G:=G) (s:=b) (h:=h) (len:=25) (size:=1) (l:=4) (off:=0) (i:=y+5*z) (k:=.i64) (by omega) (by decide);have A:=jV (jN (cs:=d) (i:=r) (by omega));have B:=jV (jN (cs:=d) (i:=q) (by omega));have C:=jV (yA6 (cs:=f) (i:=i) (by omega));have N:∀a k b h,opV G b h (.call Fn.di) (some [.u a,.n k])=some (.u (mX a k),h):=fun a k b h=>bF D rfl (MH (A:=fG .u64) (B:=eInt) (R:=fG .u64) (x:=a) (y:=k) rfl) (.inl rfl);have n:=fun f2=>uL (h:=h5 st f m d t) (l:=4) (off:=y+5*z) (vs:=wd t) (k:=.u64) (n:=f2) rfl (by simp;omega);simp only[uJ]at n;have g:=zL3 G D st f Z W c m d P rest (i+1) _ e1 (by omega) (by rw[rL];exact I) j;generalize d.getD r 0=v4 at A g;generalize d.getD q 0=v1 at B g;generalize f.getD i 0=vo at C g;simp only[eR,mB,List.set]at u v w o n;generalize y+5*z=g1 at M o n g;generalize 2*x+3*y=d2 at L H;generalize x+4=d3 at J F;generalize x+1=d4 at K E;refine aJ (Mc.ax_L1.eq_1) ?_;rw[aQ (n:=5) rfl];simp[U,ia,Y,X,J,K,w3,w4,L,w6,M,F,E,H,u,v,w,o,A,B,C,N,n,hw,-bB];refine cZ ?_;rw[aQ (n:=5) rfl];simpa[rY,h5,wd]using g
def nL(t:List Int):Nat->Nat->List Int->List Int
 |0,_,a=>a|n+1,i,a=>nL t n (i+1) (a.set i (xo (t.getD i 0) (an (nt (t.getD (i-i%5+(i+1)%5) 0)) (t.getD (i-i%5+(i+2)%5) 0))))
theorem WI(t:List Int):∀(n i:Nat)(a:List Int),(nL t n i a).length=a.length
 |0,_,_=>rfl|n+1,i,a=>by rw[nL,WI t n];simp
theorem zL4(G:Gam)(st d:List Int)(c:Int)(o m t:List Int)(U:t.length=25){ks:List MK}{Q:aY}:∀(n i:Nat)(a:List Int),n+i=25->a.length=25->(∀K,exM G .normal ks Q K (rY st d c .junk .junk (.ptr 4 0) .junk .junk .junk .junk .junk .junk (.agg (wd st)) (.n 25) (.agg (wd st)) (.n 25) (.n 25)) (h5 (nL t n i a) d o m t))->cY G [15,16] Mc.ax_L2 5 (.blk 4::ks) Q (rY st d c .junk .junk (.ptr 4 0) .junk .junk .junk .junk .junk .junk (.agg (wd st)) (.n 25) (.agg (wd st)) (.n 25) (.n i)) (h5 a d o m t)
 |0,i,a,O,C,j=>by
  have e:i=25:=by omega
  subst e;refine aJ (Mc.ax_L2.eq_1) ?_;rw[aQ (n:=5) rfl];have:=j;simp only[nL]at this;simp;simpa using this _|n+1,i,a,O,C,j=>by
  have N:ltB i 25=true:=aO.2 (by omega);have V:=dT (i:=i) (by unfold big;omega);obtain⟨x,Y,d3,S⟩:=pO i;obtain⟨f,W,b3,D⟩:=pO (i+1);obtain⟨g,X,c3,E⟩:=pO (i+2);simp only[nL,<-Y,<-W,<-X]at j;have e3:x<=i:=by omega
  obtain⟨q,P⟩:∃q:Nat,q=i-x:=⟨_,rfl⟩;rw[<-P]at j;have b1:q<=20:=by omega
  have Z:IntKind.i64.wrap ((i:Int)-x)=(q:Nat):=by rw[fO (by omega) (by omega)];omega
  have F:IntKind.i64.wrap ((i:Int)+1)=((i+1:Nat):Int):=fO (by omega) (by omega);have H:IntKind.i64.wrap ((i:Int)+2)=((i+2:Nat):Int):=fO (by omega) (by omega);have I:IntKind.i64.wrap ((q:Int)+f)=((q+f:Nat):Int):=fO (by omega) (by omega);have J:IntKind.i64.wrap ((q:Int)+g)=((q+g:Nat):Int):=fO (by omega) (by omega);have z:=fun b h=>iV (G:=G) (s:=b) (h:=h) (len:=25) (size:=1) (l:=4) (off:=0) (i:=i) (k:=.i64) (by omega) (by decide);have p:=fun b h=>iV (G:=G) (s:=b) (h:=h) (len:=25) (size:=1) (l:=4) (off:=0) (i:=q+f) (k:=.i64) (by omega) (by decide);have r:=fun b h=>iV (G:=G) (s:=b) (h:=h) (len:=25) (size:=1) (l:=4) (off:=0) (i:=q+g) (k:=.i64) (by omega) (by decide);have A:=fun b h=>iV (G:=G) (s:=b) (h:=h) (len:=25) (size:=1) (l:=0) (off:=0) (i:=i) (k:=.i64) (by omega) (by decide);have B:=jV (jN (cs:=t) (i:=i) (by omega));have u:=jV (jN (cs:=t) (i:=q+f) (by omega));have w:=jV (jN (cs:=t) (i:=q+g) (by omega));have y:=fun v=>uL (h:=h5 a d o m t) (l:=0) (off:=i) (vs:=wd a) (k:=.u64) (n:=v) rfl (by simp;omega);simp only[uJ]at y;have k:=zL4 G st d c o m t U n (i+1) _ (by omega) (by rw[rL];exact C) j;generalize t.getD i 0=v0 at B k;generalize t.getD (q+f) 0=v1 at u k;generalize t.getD (q+g) 0=v2 at w k;simp only[eR,mB,List.set]at z p r A y;generalize q+f=d1 at I p u;generalize q+g=d2 at J r w;have b2:∀e:Nat,e=i+1->True:=fun _ _=>trivial;obtain⟨e1,L⟩:∃e:Nat,e=i+1:=⟨_,rfl⟩;obtain⟨e2,M⟩:∃e:Nat,e=i+2:=⟨_,rfl⟩;rw[<-L]at F D V k;rw[<-M]at H E;refine aJ (Mc.ax_L2.eq_1) ?_;rw[aQ (n:=5) rfl];simp[N,S,Z,F,H,I,J,D,E,z,p,r,A,B,u,w,y,zR9,-CM,-bB];refine cZ ?_;rw[aQ (n:=5) rfl];simpa[rY,h5,wd]using k
def iE(st a:List Int)(c:Int):List Int:=let t:=nQ a (lQ (List.replicate 5 0) 0 st) (List.replicate 25 0) 0 st
 let m:=nL t 25 0 st
 m.set 0 (xo (m.getD 0 0) c)
theorem KV{st a:List Int}{c:Int}:(iE st a c).length=st.length:=by simp[iE,WI]
def MZ:List AV->Option AV:=F3 (jA rW) (jA rN) (fG .u64) (jA rW) fun st a c=>if st.length=25/\a.length=25 then some (iE st a c)else none
theorem xk7(G:Gam)(U:G Fn.di=some (.pure MY)):PW G Mc.ax Rs.ax Ks.ax MZ:=zY0 fun st a c r h=>by
 split at h
 ·rename_i V;obtain⟨d,I⟩:=V;injection h with h;subst h;rw[aM];simp only[PI,yw4];obtain⟨z,u⟩:∃z,z=List.replicate 25 (0:Int):=⟨_,rfl⟩;obtain⟨y,q⟩:∃y,y=List.replicate 5 (0:Int):=⟨_,rfl⟩;have X:zz25=wd z:=by rw[u];rfl
  have Y:[AV.int .u64 0,.u 0,.u 0,.u 0,.u 0]=wd y:=by rw[q];rfl
  have w:z.length=25:=by rw[u];simp
  have K:y.length=5:=by rw[q];simp
  have x:=fun i Q g=>zL2 G st a d c z (ks:=i) (Q:=Q) st 0 y rfl (by omega) K g;have o:=fun i Q g=>zL3 G U st a d I c z (lQ y 0 st) (by rw[zn2];exact K) (ks:=i) (Q:=Q) st 0 z rfl (by omega) w g;have j:=fun i Q g=>zL4 G st a c z (lQ y 0 st) (nQ a (lQ y 0 st) z 0 st) (by rw[zR7];exact w) (ks:=i) (Q:=Q) 25 0 st rfl d g;have k:(nL (nQ a (lQ y 0 st) z 0 st) 25 0 st).length=25:=by rw[WI];exact d
  have J:iE st a c=(nL (nQ a (lQ y 0 st) z 0 st) 25 0 st).set 0 (xo ((nL (nQ a (lQ y 0 st) z 0 st) 25 0 st).getD 0 0) c):=by simp only[iE,<-u,<-q]
  rw[J];clear J;generalize lQ y 0 st=p at x o j k⊢;generalize nQ a p z 0 st=t at o j k⊢;generalize nL t 25 0 st=m at j k⊢;have E:=jV (jN (cs:=m) (i:=0) (by omega));have A:=fun v=>uL (h:=h5 m a z p t) (l:=0) (off:=0) (vs:=wd m) (k:=.u64) (n:=v) rfl (by simp;omega);simp only[uJ]at A;have O:∀f h,opV G f h (.aadr 25 1) (some [.ptr 0 0,.n 0])=some (.ptr 0 0,h):=fun f h=>by simpa using iV (G:=G) (s:=f) (h:=h) (len:=25) (size:=1) (l:=0) (off:=0) (i:=0) (k:=.i64) (by omega) (by decide)
  generalize m.getD 0 0=N at E A⊢;obtain⟨b,H⟩:∃b,b=m.set 0 (xo N c):=⟨_,rfl⟩;have n:b.length=25:=by rw[H];simpa using k
  have B:=A (xo N c);rw[<-H]at B⊢;have M:=nP (h:=h5 b a z p t) (l:=2) (vs:=wd z) (us:=wd b) rfl (by simpa using w) (by simpa using n) (by omega) (pB (fun _=>rfl) b);have C:=fun f h=>sI (G:=G) (s:=f) (h:=h) (v:=.agg (wd st)) (by intro e;have:=congrArg List.length e;simp[AV.cells,d]at this);have D:=fun f h=>sI (G:=G) (s:=f) (h:=h) (v:=.agg (nm a)) (by intro e;have:=congrArg List.length e;simp[AV.cells,I]at this);have k1:=xV (vs:=wd st) (n:=25) (by simpa using d);have k2:=xV (vs:=wd b) (n:=25) (by simpa using n);have k3:(wd st).length=25:=by simpa using d
  have k4:(wd b).length=25:=by simpa using n
  have L:aE true 25 (wd st)=some (.agg (wd st)):=by simp[aE,d]
  have W:aE true 25 (wd b)=some (.agg (wd b)):=by simp[aE,n]
  have P:(AV.agg (wd st)).cells=wd st:=rfl;have S:(AV.agg (nm a)).cells=nm a:=rfl;simp only[P,S]at C D;simp only[List.set]at B M;simp only[Mc.ax,X];simp only[Y];simp[rY,h4]at x;simp[rY,h5]at o j;simp only[wd,nm]at*;simp[aC,Ks.ax,fG,C,D,k1,L];refine x _ _ (fun F=>?_);simp[k1,L];refine o _ _ (fun F=>?_);simp;refine j _ _ (fun F=>?_);simp[O,E,B,M,k2,W,Rs.ax,-bB]
 ·cases h
def offsL:List Int:=[0,1,62,28,27,36,44,6,55,20,3,10,43,25,39,41,45,15,21,8,18,2,61,56,14]
def constL:List Int:=[1,32898,9223372036854808714,9223372039002292224,32907,2147483649,9223372039002292353,9223372036854808585,138,136,2147516425,2147483658,2147516555,9223372036854775947,9223372036854808713,9223372036854808579,9223372036854808578,9223372036854775936,32778,9223372039002259466,9223372039002292353,9223372036854808704,2147483649,9223372039002292232]
theorem xb1:offsL.length=25:=rfl
theorem TY:constL.length=24:=rfl
def ST:List AV->Option AV:=F0 (.agg (nm offsL))
theorem xb3(G:Gam):PW G Mc.dr Rs.dr Ks.dr ST:=zc0 (by
 rw[aM];simp[Mc.dr,aC,Ks.dr,Rs.dr,eO,AV.cells,bK,bE,offsL,cut,aE])
def SS:List AV->Option AV:=F0 (.agg (wd constL))
theorem yr9(G:Gam):PW G Mc.dp Rs.dp Ks.dp SS:=zc0 (by
 rw[aM];simp[Mc.dp,aC,Ks.dp,Rs.dp,eO,AV.cells,bK,bE,constL,cut,aE])
def fX(f:List Int->Int->List Int)(st:List Int):List Int->List Int
 |[]=>st|c::r=>fX f (f st c) r
theorem KS{f:List Int->Int->List Int}(a:∀st c,(f st c).length=st.length):∀(r st:List Int),(fX f st r).length=st.length
 |[],_=>rfl|c::r,st=>by rw[fX,KS a r,a]
abbrev RD(d _ a:List Int)(b c:AV):List (Nat×AV):=[(0,.agg (wd d)),(1,.ptr 0 0),(2,.ptr 1 0),(3,.ptr 2 0),(5,b),(7,.agg (wd a)),(8,c)]
abbrev RE(st z a:List Int):aA:=[.cells (wd st),.cells (wd z),.cells (nm a)]
theorem zF9(G:Gam)(a:List Int)(f:List Int->Int->List Int)(q:∀st c,(f st c).length=st.length)(p:∀st c,st.length=25->∀b h,opV G b h (.call Fn.ax) (some [.agg (wd st),.agg (nm a),.u c])=some (.agg (wd (f st c)),h))(b d z:List Int)(m:a.length=25)(w:d.length=24){ks:List MK}{Q:aY}:∀(rest:List Int)(i:Nat)(st:List Int),d.drop i=rest->i<=24->st.length=25->(∀v,exM G .normal ks Q v (RD b a d .junk (.n 24)) (RE (fX f st rest) z a))->cY G [5] Mc.cg_L0 3 (.blk 0::ks) Q (RD b a d .junk (.n i)) (RE st z a)
 |[],i,st,k,x,g,j=>by
  have A:=drop_nil k;have e:i=24:=by omega
  subst e;refine aJ (Mc.cg_L0.eq_1) ?_;rw[aQ (n:=3) rfl];have:=j;simp only[fX]at this;simp;simpa using this _|c::rest,i,st,k,x,g,j=>by
  obtain⟨A,C,D⟩:=eT k;have y:ltB i 24=true:=aO.2 (by omega);have B:=dT (i:=i) (by unfold big;omega);have E:=fun b h=>WW (G:=G) (s:=b) (h:=h) (len:=24) (i:=i) (k:=.i64) (cs:=wd d) (v:=.u c) (by omega) (by simp[C]);have o:=p st c g;have n:(f st c).length=25:=by rw[q];exact g
  simp only[fX]at j;have t:=zF9 G a f q p b d z m w rest (i+1) (f st c) D (by omega) n j;have k1:=xV (vs:=wd st) (n:=25) (by simpa using g);have F:aE true 25 (wd st)=some (.agg (wd st)):=by simp[aE,g]
  have k2:=xV (vs:=nm a) (n:=25) (by simpa using m);have H:aE true 25 (nm a)=some (.agg (nm a)):=by simp[aE,m]
  generalize f st c=r at o n t;have u:=nP (h:=RE st z a) (l:=0) (vs:=wd st) (us:=wd r) rfl (by simpa using g) (by simpa using n) (by omega) (pB (fun _=>rfl) r);simp only[List.set]at u;refine aJ (Mc.cg_L0.eq_1) ?_;rw[aQ (n:=3) rfl];simp[y,E,k1,k2,F,H,o,u,B,-bB];refine cZ ?_;rw[aQ (n:=3) rfl];simpa[RD]using t
theorem xk5{G:Gam}(d:G Fn.ax=some (.pure MZ)){st a:List Int}{c:Int}(f:st.length=25)(e:a.length=25)(g:Bool)(h:aA):opV G g h (.call Fn.ax) (some [.agg (wd st),.agg (nm a),.u c])=some (.agg (wd (iE st a c)),h):=by
 have b:=zY1 (A:=jA rW) (B:=jA rN) (C:=fG .u64) (R:=jA rW) (f:=fun st a c=>if st.length=25/\a.length=25 then some (iE st a c)else none) (x:=st) (y:=a) (z:=c) (r:=iE st a c) (if_pos ⟨f,e⟩);generalize iE st a c=r at b⊢;exact bF d (us:=[.agg (wd st),.agg (nm a),.u c]) (by simp) b (.inr (by simp[owns,dX]))
def MS:List AV->Option AV:=F1 (jA rW) (jA rW) fun st=>if st.length=25 then some (fX (fun st c=>iE st offsL c) st constL)else none
theorem yc2(G:Gam)(F:G Fn.dr=some (.pure ST))(E:G Fn.dp=some (.pure SS))(H:G Fn.ax=some (.pure MZ)):PW G Mc.cg Rs.cg Ks.cg MS:=mK fun st r h=>by
 split at h
 ·rename_i b;injection h with h;subst h;rw[aM];simp only[PI];have t:∀a h,opV G a h (.call Fn.dr) (some [])=some (.agg (nm offsL),h):=fun a h=>bF F rfl rfl (.inr rfl);have q:∀a h,opV G a h (.call Fn.dp) (some [])=some (.agg (wd constL),h):=fun a h=>bF E rfl rfl (.inr rfl);have i:=xb1;have u:=TY;obtain⟨z,n⟩:∃z,z=List.replicate 25 (0:Int):=⟨_,rfl⟩;have M:zz25=wd z:=by rw[n];rfl
  have L:[AV.int .i64 0,.n 0,.n 0,.n 0,.n 0,.n 0,.n 0,.n 0,.n 0,.n 0,.n 0,.n 0,.n 0,.n 0,.n 0,.n 0,.n 0,.n 0,.n 0,.n 0,.n 0,.n 0,.n 0,.n 0,.n 0]=nm z:=by rw[n];rfl
  have A:z.length=25:=by rw[n];simp
  have v:∀st c,st.length=25->∀a h,opV G a h (.call Fn.ax) (some [.agg (wd st),.agg (nm offsL),.u c])=some (.agg (wd (iE st offsL c)),h):=fun st c b a h=>xk5 H b i a h;have x:∀st c,(iE st offsL c).length=st.length:=fun st c=>KV;generalize k:(fun(st:List Int)(c:Int)=>iE st offsL c)=f;have w:∀st c,st.length=25->∀a h,opV G a h (.call Fn.ax) (some [.agg (wd st),.agg (nm offsL),.u c])=some (.agg (wd (f st c)),h):=by rw[<-k];exact v
  have y:∀st c,(f st c).length=st.length:=by rw[<-k];exact x
  clear v x k;generalize offsL=j at t i w⊢;generalize constL=d at q u⊢;have o:=fun J Q I=>zF9 G j f y w st d z i u (ks:=J) (Q:=Q) d 0 st rfl (by omega) b I;have g:(fX f st d).length=25:=by rw[KS y];exact b
  generalize fX f st d=m at o g⊢;have p:=fun a h=>sI (G:=G) (s:=a) (h:=h) (v:=.agg (wd st)) (by intro e;have:=congrArg List.length e;simp[AV.cells,b]at this);have D:(AV.agg (wd st)).cells=wd st:=rfl;simp only[D]at p;have B:=nP (h:=[.cells (wd st),.cells (wd z),.cells (nm z)]) (l:=2) (vs:=nm z) (us:=nm j) rfl (by simpa using A) (by simpa using i) (by omega) (pB (fun _=>rfl) j);have C:=nP (h:=RE m z j) (l:=1) (vs:=wd z) (us:=wd m) rfl (by simpa using A) (by simpa using g) (by omega) (pB (fun _=>rfl) m);have k1:=xV (vs:=wd m) (n:=25) (by simpa using g);have K:aE true 25 (wd m)=some (.agg (wd m)):=by simp[aE,g]
  simp only[List.set]at B C;simp only[Mc.cg,M,L];simp[RD]at o;simp[aC,Ks.cg,p,t,q,B,-bB];refine o _ _ (fun N=>?_);simp[k1,K,C,Rs.cg,-bB]
 ·cases h
section
variable{G:Gam}{s:Bool}{h:aA}
end
theorem RM(i:Nat):∃x:Nat,x=i%8/\x<8/\aW .rem (.n i) (.n 8)=some (.n x):=by
 refine⟨i%8,rfl,Nat.mod_lt _ (by decide),?_⟩;have e:((i:Int).tmod 8)=((i%8:Nat):Int):=by rw[NV (by omega)];omega
 simp only[aW,fS];simp[e]
theorem RK{i:Nat}(b:i<1000):∃y:Nat,y=i/8/\aW .quo (.n i) (.n 8)=some (.n y):=by
 refine⟨i/8,rfl,?_⟩;have e:((i:Int).tdiv 8)=((i/8:Nat):Int):=by rw[AA (by omega)];omega
 have a:IntKind.i64.wrap ((i/8:Nat):Int)=((i/8:Nat):Int):=fO (by omega) (by omega);simp only[aW,fS];simp only[reduceCtorEq,or_self,bY,bD,e,a];simp
theorem ye9{h:aA}{x:AV}{rows:List (List AV)}{i:Nat}{v:AV}{k:IntKind}(a:rowsOf h x=some rows)(b:rows[i]?=some [v]):∃pt,bA 1 h x (.int k i)=some pt/\aB 1 false h pt=some v:=by
 cases x<;>first|(simp[rowsOf]at a;done)|skip
 case sl d=>
  simp only[rowsOf,aT]at a;subst a;exact⟨.fptr [v] 0,by simp[bA,b],by simp[cut,aE]⟩
 case tsl d=>
  simp only[rowsOf,aT]at a;subst a;exact⟨.fptr [v] 0,by simp[bA,b],by simp[cut,aE]⟩
 case nils=>
  simp only[rowsOf,aT]at a;subst a;simp at b
 case own l m n=>
  simp only[rowsOf]at a;split at a
  ·rename_i o p d wr e;split at a
   ·rename_i c;obtain⟨rfl,j⟩:=c;injection a with a;subst a;have g:=(aV.1 b).1;simp only[lY]at g;have f:d[i]?=some [v]:=by rw[<-b,fZ,if_pos (by omega)]
    have c:(0:Int)<=i/\(i:Int)<n:=⟨by omega,by omega⟩;exact⟨.eptr l m i 0,by simp[bA,e,j,c,f],by simp[aB,e,f,cut,aE]⟩
   ·cases a
  ·cases a
theorem xl1{h:aA}{x:AV}{b:List (List AV)}{l:Nat}{i g:List AV}(a:rowsOf h x=some b)(c:h[l]?=some (.cells i)):rowsOf (h.set l (.cells g)) x=some b:=by
 cases x<;>first|(simp[rowsOf]at a;done)|skip
 case own f j n=>
  have d:l≠f:=fun e=>by subst e;simp[rowsOf,c]at a
  simp only[rowsOf]at a⊢;rw[iY,if_neg d];exact a
 all_goals exact a
theorem zy9{h:aA}{x:AV}{b:List (List AV)}(a:rowsOf h x=some b):aI h 1 x=some (.n b.length):=by
 cases x<;>first|(simp[rowsOf]at a;done)|skip
 case own d e n=>
  simp only[rowsOf]at a;split at a
  ·split at a
   ·rename_i c;injection a with a;subst a;simp[vH c.2]
   ·cases a
  ·cases a
 all_goals(simp only[rowsOf,aT]at a;subst a;rfl)
def aF(bs:List Int):List (List AV):=bs.map fun n=>[AV.int .u8 n]
def iM(st:List Int)(i:Nat):List Int->List Int
 |[]=>st|b::r=>iM (st.set (i/8) (xo (st.getD (i/8) 0) (sl (IntKind.u64.wrap b) (8*(i%8:Nat))))) (i+1) r
theorem tH:∀(r st:List Int)(i:Nat),(iM st i r).length=st.length
 |[],_,_=>rfl|b::r,st,i=>by rw[iM,tH r];simp
theorem zh2(G:Gam)(l:Nat)(x:AV)(bs:List Int)(w:bs.length<=136)(a:List AV)(N:Nat){ks:List MK}{Q:aY}:∀(rest:List Int)(i:Nat)(st:List Int)(h:aA),h.length=N->bs.drop i=rest->i<=bs.length->st.length=25->h[l]?=some (.cells (wd st++a))->rowsOf h x=some (aF bs)->(∀t,exM G .normal ks Q t [(0,.ptr l 0),(1,x),(4,.junk),(6,.n bs.length),(7,.n bs.length)] (h.set l (.cells (wd (iM st i rest)++a))))->cY G [4] Mc.b1_L0 N (.blk 0::ks) Q [(0,.ptr l 0),(1,x),(4,.junk),(6,.n bs.length),(7,.n i)] h
 |[],i,st,h,d,g,y,o,c,j,f=>by
  have A:=drop_nil g;have e:i=bs.length:=by omega
  subst e;have I:h.set l (.cells (wd (iM st bs.length [])++a))=h:=by
   simp only[iM];exact uI c
  refine aJ (Mc.b1_L0.eq_1) ?_;rw[aQ (n:=N) d];have:=f;rw[I]at this;simp;simpa using this _|b::rest,i,st,h,d,g,y,o,c,j,f=>by
  obtain⟨A,K,L⟩:=eT g;have z:ltB i bs.length=true:=aO.2 (by omega);have J:=dT (i:=i) (by unfold big;omega);obtain⟨q,F,D⟩:=RK (i:=i) (by omega);obtain⟨m,C,U,B⟩:=RM i;simp only[iM,<-F,<-C]at f;have S:IntKind.i64.wrap (8*(m:Int))=8*m:=fO (by omega) (by omega);have E:q<25:=by omega
  obtain⟨pt,M,O⟩:=ye9 (h:=h) (x:=x) (rows:=aF bs) (i:=i) (v:=.int .u8 b) (k:=.i64) j (by simp[aF,K]);have k:=fun P h=>iV (G:=G) (s:=P) (h:=h) (len:=25) (size:=1) (l:=l) (off:=0) (i:=q) (k:=.i64) E (by decide);have n:=aR (h:=h) (l:=l) c (vs:=wd st++a) (off:=q) (v:=.u (st.getD q 0)) (by rw[gC (by simp;omega)];exact jN (by omega));have r:=fun v=>uL (h:=h) (l:=l) (off:=q) (vs:=wd st++a) (k:=.u64) (n:=v) c (by simp;omega);have u:∀v,(wd st++a).set q (.u v)=wd (st.set q v)++a:=fun v=>by rw[List.set_append_left _ _ (by simp;omega),uJ]
  simp only[u]at r;have H:=OF (a:=IntKind.u64.wrap b) (b:=8*(m:Int)) (k:=.i64) (by omega);have p:=zh2 G l x bs w a N rest (i+1) (st.set q (xo (st.getD q 0) (sl (IntKind.u64.wrap b) (8*(m:Int))))) (h.set l (.cells (wd (st.set q (xo (st.getD q 0) (sl (IntKind.u64.wrap b) (8*(m:Int)))))++a))) (by simpa using d) L (by omega) (by simpa using o) (by rw[iY,if_pos rfl,if_pos (aV.1 c).1]) (xl1 j c) (by simpa[tP]using f);generalize st.getD q 0=V at n p;simp only[eR,mB]at k;refine aJ (Mc.b1_L0.eq_1) ?_;rw[aQ (n:=N) d];simp[z,D,B,S,k,n,M,O,H,r,J,-bB,-aB];refine cZ ?_;rw[aQ (n:=N) (by simpa using d)];simpa[wd]using p
def sZ(b:List AV)(h:aA):Option (AV×aA):=match b with
 |[.ptr l 0,x]=>match h[l]?,rowsOf h x with
  |some (.cells a),some d=>match rT .u64 (a.take 25),qP (rA (fG .u8)).dec d with
   |some st,some bs=>if st.length=25/\bs.length<=136 then some (.tup [],h.set l (.cells (wd (fX (fun st c=>iE st offsL c) (iM st 0 bs) constL)++a.drop 25)))else none|_,_=>none
  |_,_=>none
 |_=>none
theorem xe5{G:Gam}(b:G Fn.cg=some (.pure MS)){st:List Int}(d:st.length=25)(e:Bool)(h:aA):opV G e h (.call Fn.cg) (some [.agg (wd st)])=some (.agg (wd (fX (fun st c=>iE st offsL c) st constL)),h):=by
 have a:=nB (A:=jA rW) (R:=jA rW) (f:=fun st=>if st.length=25 then some (fX (fun st c=>iE st offsL c) st constL)else none) (x:=st) (r:=fX (fun st c=>iE st offsL c) st constL) (if_pos d);generalize fX (fun st c=>iE st offsL c) st constL=r at a⊢;exact bF b (us:=[.agg (wd st)]) (by simp) a (.inr (by simp[owns,dX]))
theorem zk6(bs:List Int):bs.map (rA (fG .u8)).enc=aF bs:=rfl
theorem yd8(G:Gam)(A:G Fn.cg=some (.pure MS)):GW G Mc.b1 Rs.b1 Ks.b1 sZ:=by
 intro O h r S a;unfold sZ at a;split at a
 ·rename_i l x;split at a
  ·rename_i d U q v;split at a
   ·rename_i st bs E F;split at a
    ·rename_i g;obtain⟨f,B⟩:=g;have i:=fun M h=>xe5 A (st:=iM st 0 bs) (by rw[tH];exact f) M h;have j:(fX (fun st c=>iE st offsL c) (iM st 0 bs) constL).length=25:=by rw[KS (fun st c=>KV),tH];exact f
     generalize fX (fun st c=>iE st offsL c) (iM st 0 bs) constL=p at a i j;injection a with a;injection a with y z;subst y z;have w:=EA _ E;have n:d=wd st++d.drop 25:=by
      show d=st.map (AV.int .u64)++d.drop 25;rw[<-w];exact(oZ 25 d).symm
     have o:=PA (rA (fG .u8)) F;rw[zk6]at o;subst o;generalize d.drop 25=b at n⊢;subst n;have I:=(aV.1 q).1;have e:(iM st 0 bs).length=25:=by rw[tH];exact f
     have k:=fun K Q H=>zh2 G l x bs B b h.length (ks:=K) (Q:=Q) bs 0 st h rfl rfl (by omega) f q v H;generalize iM st 0 bs=m at k i e;have t:(h.set l (.cells (wd m++b)))[l]?=some (.cells (wd m++b)):=by rw[iY,if_pos rfl,if_pos I]
     have L:aB 25 true (h.set l (.cells (wd m++b))) (.ptr l 0)=some (.agg (wd m)):=by
      have g:cut (wd m++b) 0 25=wd m:=by unfold cut;rw[vB,List.take_left' (by simpa using e)]
      simp only[aB,t,g,aE];simp[e]
     have N:aU 25 (h.set l (.cells (wd m++b))) (.ptr l 0) (.agg (wd p))=some (h.set l (.cells (wd p++b))):=by
      have D:(AV.agg (wd p)).cells=wd p:=rfl;have J:bK (wd m++b) 0 (wd p)=wd p++b:=by
       rw[uH _ _ _ (by simp;omega),lA,kZ];congr 1;rw[eR,kC,j,List.drop_left' (by simpa using e)]
      simp only[aU,D,t,J];rw[if_pos ⟨by simpa using j,by omega,pB (fun _=>rfl) p⟩,if_pos (by simp;omega),tP]
     have u:=zy9 v;have C:(aF bs).length=bs.length:=by simp[aF]
     rw[C]at u;rw[aM];simp at k;simp[Mc.b1,aC,Ks.b1,u,-aI];refine k _ _ (fun P=>?_);simp[L,i,N,dM,Rs.b1,-aB,-bB]
    ·cases a
   ·cases a
  ·cases a
 ·cases a
theorem KW{h:aA}{x:AV}{c:List (List AV)}(a:rowsOf h x=some c)(t:aA):rowsOf (h++t) x=some c:=by
 cases x<;>first|(simp[rowsOf]at a;done)|skip
 case own b e n=>
  have d:b<h.length:=by
   rcases mA b h.length with g|g;·exact g
   ·simp[rowsOf,lX g]at a
  simp only[rowsOf]at a⊢;rw[gC d];exact a
 all_goals exact a
theorem zE6{G:Gam}{s:Bool}{h:aA}{b:Nat}{x:AV}{rows:List (List AV)}(e:rowsOf h x=some rows)(d:dB 1 rows=true)(a:rows.length*b<=bT)(c:rows.length<=bT):opV G s h (.app false 1 b) (some [.nils,x])=some (if rows=[]then(.nils,h)else(.own h.length 0 rows.length,h++[.arr 1 0 rows true])):=by
 rw[eG rfl];simp only[cG,kF,dE,bY,e,d,bD,lN];split;·rfl
 ·rw[if_pos ⟨a,c⟩]
def CN(c:List AV)(h:aA):Option (AV×aA):=match c with
 |[.ptr l 0]=>match h[l]? with
  |some (.cells b)=>match b[25]? with
   |some d=>match rowsOf h d with
    |some a=>if b.length=54/\b.all bE=true/\dB 1 a=true/\a.length<=bT then some (.ptr h.length 0,if a=[]then h++[.cells (b.set 25 .nils)]else h++[.cells (b.set 25 (.own (h.length+1) 0 a.length)),.arr 1 0 a true])else none|none=>none
   |none=>none
  |_=>none
 |_=>none
theorem zV6(G:Gam):GW G Mc.c6 Rs.c6 Ks.c6 CN:=by
 intro D h r E a;unfold CN at a;split at a
 ·rename_i l;split at a
  ·rename_i b i;split at a
   ·rename_i B A;split at a
    ·rename_i c z;split at a
     ·rename_i w;obtain⟨f,o,p,q⟩:=w;injection a with a;injection a with u g;subst u;have y:=(aV.1 i).1;have k:aB 54 true h (.ptr l 0)=some (.agg b):=zy5 i f;have n:∀Z:List AV,Z.length=54->aU 54 (h++[.cells Z]) (.ptr h.length 0) (.agg b)=some (h++[.cells b]):=fun Z v=>by rw[nP (l:=h.length) (vs:=Z) (by simp) v f (by omega) o];simp
      have x:∀t:aA,(h++t)[l]?=some (.cells b):=fun t=>by rw[gC y];exact i
      have m:aB 1 false (h++[.cells b]) (.ptr l 25)=some B:=aR (x _) A;have d:=fun C=>zE6 (G:=G) (s:=C) (b:=1) (KW z [.cells b]) p (by omega) q;rw[aM];by_cases e:c=[]
      ·rw[if_pos e]at g;subst g;simp only[e,bD]at d;have j:aU 1 (h++[.cells b]) (.ptr h.length 25) .nils=some (h++[.cells (b.set 25 .nils)]):=by simp[AV.cells,bE,bK,f]
       simp[Mc.c6,aC,Ks.c6,k,n,m,d,j,dM,Rs.c6,-aB,-bB]
      ·rw[if_neg e]at g;subst g;simp only[e,bY]at d;have j:aU 1 (h++[.cells b,.arr 1 0 c true]) (.ptr h.length 25) (.own (h.length+1) 0 c.length)=some (h++[.cells (b.set 25 (.own (h.length+1) 0 c.length)),.arr 1 0 c true]):=by simp[AV.cells,bE,bK,f]
       simp[Mc.c6,aC,Ks.c6,k,n,m,d,j,dM,Rs.c6,-aB,-bB]
     ·cases a
    ·cases a
   ·cases a
  ·cases a
 ·cases a
def FB:List AV:=[.u 0,.u 0,.u 0,.u 0,.u 0,.u 0,.u 0,.u 0,.u 0,.u 0,.u 0,.u 0,.u 0,.u 0,.u 0,.u 0,.u 0,.u 0,.u 0,.u 0,.u 0,.u 0,.u 0,.u 0,.u 0,.nils,.n 0,.u 0,.u 0,.u 0,.u 0,.u 0,.u 0,.u 0,.u 0,.u 0,.u 0,.u 0,.u 0,.u 0,.u 0,.u 0,.u 0,.u 0,.u 0,.u 0,.u 0,.u 0,.u 0,.u 0,.u 0,.u 0,.str [],.str []]
def MQ(a:List AV)(h:aA):Option (AV×aA):=match a with
 |[]=>some (.ptr h.length 0,h++[.cells FB])|_=>none
theorem yb6(G:Gam):GW G Mc.dn Rs.dn Ks.dn MQ:=by
 intro d h r e a;unfold MQ at a;split at a
 ·injection a with a;injection a with b c;subst b c;rw[aM];simp[Mc.dn,aC,Ks.dn,eO,dM,Rs.dn];rfl
 ·cases a
abbrev sp(st:List Int)(rest:AV)(tk:Int)(T:List AV):List AV:=wd st++rest::.n tk::T
section
variable{st:List Int}{rest:AV}{tk:Int}{T:List AV}
theorem yW(a:st.length=25):(sp st rest tk T)[25]?=some rest:=by rw[fT (by simp[a])];simp[a]
theorem zO6(a:st.length=25):(sp st rest tk T)[26]?=some (.n tk):=by rw[fT (by simp[a])];simp[a]
theorem FP(a:st.length=25)(r:AV):(sp st rest tk T).set 25 r=sp st r tk T:=by rw[lZ _ _ (by simp[a])];simp[a]
theorem xp9(a:st.length=25)(n:Int):(sp st rest tk T).set 26 (.n n)=sp st rest n T:=by rw[lZ _ _ (by simp[a])];simp[a]
theorem YV(a:st.length=25):(sp st rest tk T).take 25=wd st:=by rw[List.take_left' (by simpa using a)]
theorem YU(a:st.length=25):(sp st rest tk T).drop 25=rest::.n tk::T:=by rw[List.drop_left' (by simpa using a)]
theorem CC(a:st.length=25):(sp st rest tk T).length=27+T.length:=by simp[a];omega
end
theorem CE{h:aA}{l off:Nat}{vs:List AV}{v:AV}(c:h[l]?=some (.cells vs))(d:off<vs.length)(b:v.cells=[v])(a:bE v=true):aU 1 h (.ptr l off) v=some (h.set l (.cells (vs.set off v))):=by simp[c,b,a,bK,show off+1<=vs.length by omega]
def iX(st:List Int)(bs:List Int):List Int:=fX (fun st c=>iE st offsL c) (iM st 0 (bs.take 136)) constL
theorem ZC{st bs:List Int}:(iX st bs).length=st.length:=by unfold iX;rw[KS (fun st c=>KV),tH]
def hold(st:List Int)(tk:Int)(T:List AV)(bs:List Int)(a:List (List (List AV))):aA:=if bs=[]then .cells (sp st .nils tk T)::a.map (fun r=>.arr 1 0 r false)else .cells (sp st (.own (1+a.length) 0 bs.length) tk T)::(a.map (fun r=>Blk.arr 1 0 r false)++[.arr 1 0 (aF bs) true])
theorem zz8(n:Nat):∀a:List (List (List AV)),cV n (a.map fun r=>Blk.arr 1 0 r false)=true
 |[]=>rfl|o::a=>by simp[cV,gD,zz8 n a]
theorem QM(n:Nat):∀(a b:List AV),bN n (a++b)=(bN n a&&bN n b)
 |[],b=>by simp[bN]|x::a,b=>by simp[bN,QM n a b,Bool.and_assoc]
theorem WF(n:Nat):∀st:List Int,bN n (wd st)=true
 |[]=>rfl|x::st=>by simp[bN,low];exact WF n st
def wfr(x:AV)(a:AV)(i:Int):List (Nat×AV):=[(0,.ptr 0 0),(1,x),(4,.n 0),(6,a),(7,x),(8,.n 1),(9,.n i)]
theorem PU{n:Nat}(e:1<=n)(f:n<=2)(c:List (Nat×AV)){st:List Int}{tk:Int}{T:List AV}{bs:List Int}{a:List (List (List AV))}(d:bs≠[])(g:n=2\/a=[]\/True)(b:n<=1+a.length\/(hold st tk T bs a).length=n):trunc n c (hold st tk T bs a)=hold st tk T bs a:=by
 rcases b with b|b
 ·unfold trunc;have:cV n ((hold st tk T bs a).take n)=false:=by
   obtain⟨m,rfl⟩:∃m,n=m+1:=⟨n-1,by omega⟩;simp only[hold,if_neg d,List.take_succ_cons,cV,gD,QM,bN,low];have:¬(1+a.length<m+1):=by omega
   simp[this]
  rw[this];simp
 ·exact aQ b
def fN:Nat->List Int->List Int->List (List (List AV))->List Int×List Int×List (List (List AV))
 |0,st,bs,a=>(st,bs,a)|N+1,st,bs,a=>if bs.length<136 then(st,bs,a)else fN N (iX st bs) (bs.drop 136) (a++[aF bs])
theorem zT7(G:Gam)(O:G Fn.b1=some (.gen sZ))(x d:AV)(tk:Int)(T:List AV){ks:List MK}{Q:aY}:∀(N:Nat)(st bs:List Int)(a:List (List (List AV))),bs.length<136*(N+1)->bs.length<=big->st.length=25->(bs=[]->a≠[])->(∀a2,exM G .normal ks Q a2 (wfr x d 0) (trunc 2 (wfr x d 0) (hold (fN N st bs a).1 tk T (fN N st bs a).2.1 (fN N st bs a).2.2)))->cY G [] Mc.a8_L1 2 (.blk 2::ks) Q (wfr x d 0) (hold st tk T bs a)
 |N,st,bs,a,hN,P,k,ho,p=>by
  by_cases I:bs.length<136;·
   have J:fN N st bs a=(st,bs,a):=by cases N<;>simp[fN,I]
   rw[J]at p;refine aJ (Mc.a8_L1.eq_1) ?_;have H:bM [] (wfr x d 0)=wfr x d 0:=by simp[wfr,bM]
   rw[H];generalize i:trunc 2 (wfr x d 0) (hold st tk T bs a)=b at p;have h0:∃L,b[0]?=some (.cells (sp st L tk T))/\aI b 1 L=some (.n bs.length):=by
    by_cases c:bs=[]
    ·subst c;refine⟨.nils,?_,rfl⟩;rw[<-i];unfold trunc;split;·rw[fZ,if_pos (by omega)];simp[hold]
     ·simp[hold]
    ·have K:trunc 2 (wfr x d 0) (hold st tk T bs a)=hold st tk T bs a:=by
      refine PU (by omega) (by omega) _ c (.inl rfl) ?_;cases a with
      |nil=>right;simp[hold,c]|cons c1 a=>left;simp;omega
     rw[<-i,K];refine⟨.own (1+a.length) 0 bs.length,by simp[hold,c],?_⟩;have hL:(hold st tk T bs a)[1+a.length]?=some (.arr 1 0 (aF bs) true):=by
      simp only[hold,if_neg c];rw[Nat.add_comm,mM,fT (by simp)];simp
     simp
   obtain⟨L,u,g2⟩:=h0;have z:=aR u (yW k);have v:ltB bs.length 136=true:=aO.2 (by omega);have V:=p;simp only[wfr]at V⊢;simp[z,g2,LB,v,-aB,-aI];simpa using V _
  ·cases N with
   |zero=>omega|succ N=>
    have c:bs≠[]:=fun e=>by subst e;simp at I
    have K:trunc 2 (wfr x d 0) (hold st tk T bs a)=hold st tk T bs a:=by
     refine PU (by omega) (by omega) _ c (.inl rfl) ?_;cases a with
     |nil=>right;simp[hold,c]|cons c1 a=>left;simp;omega
    have J:fN (N+1) st bs a=fN N (iX st bs) (bs.drop 136) (a++[aF bs]):=by simp[fN,I]
    rw[J]at p;have m:(iX st bs).length=25:=by rw[ZC];exact k
    have q:=zT7 G O x d tk T (ks:=ks) (Q:=Q) N (iX st bs) (bs.drop 136) (a++[aF bs]) (by simp;omega) (by simp;omega) m (fun _=>by simp) p;obtain⟨b,i⟩:∃b,b=hold st tk T bs a:=⟨_,rfl⟩;have b1:b.length=2+a.length:=by rw[i];simp[hold,c];omega
    have M:b[0]?=some (.cells (sp st (.own (1+a.length) 0 bs.length) tk T)):=by rw[i];simp[hold,c]
    have u:b[1+a.length]?=some (.arr 1 0 (aF bs) true):=by
     rw[i];simp only[hold,if_neg c];rw[Nat.add_comm,mM,fT (by simp)];simp
    have S:(aF bs).length=bs.length:=by simp[aF]
    have W:∀l:List Int,dB 1 (aF l)=true:=fun l=>by induction l with
     |nil=>rfl|cons c3 l q=>simpa[aF,dB]using q
    have z:=aR M (yW k);have v:ltB bs.length 136=false:=bC.2 (by omega);have a1:∀r,opV G r b (.slcf 1 false true false) (some [.own (1+a.length) 0 bs.length,.n 136])=some (.own (1+a.length) 0 136,b):=fun r=>by
     have n:(136:Int)<=bs.length:=by omega
     cases r<;>simp[opV,AO.loud,jL,jB,dN,AO.quiet,cG,pV,oN,FN,FO,n]
    have b3:rowsOf b (.own (1+a.length) 0 136)=some (aF (bs.take 136)):=by
     have n:136<=bs.length:=by omega
     simp[rowsOf,u,n,aF]
    have cA:sZ [.ptr 0 0,.own (1+a.length) 0 136] b=some (.tup [],b.set 0 (.cells (sp (iX st bs) (.own (1+a.length) 0 bs.length) tk T))):=by
     have C:qP (rA (fG .u8)).dec (aF (bs.take 136))=some (bs.take 136):=JA (rA (fG .u8)) _;have D:(bs.take 136).length<=136:=by simp;omega
     simp only[sZ,M,b3,YV k,DZ,C,YU k];rw[if_pos ⟨k,D⟩];rfl
    have B:opV G false b (.call Fn.b1) (some [.ptr 0 0,.own (1+a.length) 0 136])=some (.tup [],b.set 0 (.cells (sp (iX st bs) (.own (1+a.length) 0 bs.length) tk T))):=by rw[eX O];exact cA
    obtain⟨g,o⟩:∃g,g=b.set 0 (.cells (sp (iX st bs) (.own (1+a.length) 0 bs.length) tk T)):=⟨_,rfl⟩;rw[<-o]at B;have Y:g[0]?=some (.cells (sp (iX st bs) (.own (1+a.length) 0 bs.length) tk T)):=by rw[o,jI (by omega)]
    have q1:g[1+a.length]?=some (.arr 1 0 (aF bs) true):=by rw[o,lL (by omega)];exact u
    have X:=aR Y (yW m);have A:opV G false g (.slcf 1 true false false) (some [.own (1+a.length) 0 bs.length,.n 136])=some (.sl (aF (bs.drop 136)),g.set (1+a.length) (.arr 1 0 (aF bs) false)):=by
     have C:frz g (.own (1+a.length) 0 bs.length)=some (.sl (aF bs),g.set (1+a.length) (.arr 1 0 (aF bs) false)):=by
      have:bs.length<=(aF bs).length:=by omega
      simp[frz,view,rowsOf,q1,owns,eS,mI,S,pA]
     have D:wN 1 (aF bs) (some 136) none none=some (.sl (aF (bs.drop 136))):=by
      have n:(136:Int)<=bs.length:=by omega
      have d1:(aF bs).drop 136=aF (bs.drop 136):=by simp[aF]
      have t1:(aF bs).take bs.length=aF bs:=pA (by omega);simp[wN,W,S,n,d1,t1]
     simp[opV,AO.loud,jB,dN,AO.quiet,cG,pV,oN,FN,FO,C,D]
    obtain⟨f,y⟩:∃f,f=g.set (1+a.length) (.arr 1 0 (aF bs) false):=⟨_,rfl⟩;rw[<-y]at A;have Z:f[0]?=some (.cells (sp (iX st bs) (.own (1+a.length) 0 bs.length) tk T)):=by rw[y,lL (by omega)];exact Y
    have a3:f.length=2+a.length:=by rw[y,o];simp[b1]
    have U:f=.cells (sp (iX st bs) (.own (1+a.length) 0 bs.length) tk T)::(a.map (fun c2=>Blk.arr 1 0 c2 false)++[.arr 1 0 (aF bs) false]):=by
     rw[y,o,i];simp only[hold,if_neg c,List.set_cons_zero];rw[Nat.add_comm,List.set_cons_succ,lZ _ _ (by simp)];simp
    have t:=fun r=>zE6 (G:=G) (s:=r) (h:=f) (b:=1) (x:=.sl (aF (bs.drop 136))) (rows:=aF (bs.drop 136)) rfl (W _) (by simp[aF];unfold big at P;unfold bT;omega) (by simp[aF];unfold big at P;unfold bT;omega);refine aJ (Mc.a8_L1.eq_1) ?_;have H:bM [] (wfr x d 0)=wfr x d 0:=by simp[wfr,bM]
    rw[H,K,<-i];simp only[wfr]at q⊢;by_cases w:bs.drop 136=[]
    ·have E:aF (bs.drop 136)=[]:=by rw[w];rfl
     simp only[E,bD]at t A;have j:=CE Z (off:=25) (v:=.nils) (by rw[CC m];omega) rfl rfl;rw[FP m]at j;have F:f.set 0 (.cells (sp (iX st bs) .nils tk T))=hold (iX st bs) tk T (bs.drop 136) (a++[aF bs]):=by rw[U];simp[hold,w]
     rw[F]at j;simp[z,LB,v,a1,B,X,A,t,j,-aB,-bB];simpa using q
    ·have E:aF (bs.drop 136)≠[]:=fun e=>w (HW.1 e);simp only[E,bY]at t;have b2:(aF (bs.drop 136)).length=(bs.drop 136).length:=by simp[aF]
     have j:=CE (h:=f++[.arr 1 0 (aF (bs.drop 136)) true]) (l:=0) (vs:=sp (iX st bs) (.own (1+a.length) 0 bs.length) tk T) (by rw[gC (by omega)];exact Z) (off:=25) (v:=.own f.length 0 (aF (bs.drop 136)).length) (by rw[CC m];omega) rfl rfl;rw[FP m]at j;have F:(f++[Blk.arr 1 0 (aF (bs.drop 136)) true]).set 0 (.cells (sp (iX st bs) (.own f.length 0 (aF (bs.drop 136)).length) tk T))=hold (iX st bs) tk T (bs.drop 136) (a++[aF bs]):=by
      rw[a3,b2,U];simp only[hold,if_neg w,bX,vE];rw[show 1+(a.length+1)=2+a.length by omega];simp
     rw[F]at j;simp[z,LB,v,a1,B,X,A,t,j,-aB,-bB];simpa using q
abbrev tl2(seen:List Int)(b a:Bs):List AV:=wd seen++[.str b,.str a]
theorem xs7(n:Nat)(seen:List Int)(b a:Bs):bN n (tl2 seen b a)=true:=by rw[QM,WF];rfl
def AW(a:List AV):Option (List Int×AV×Int×List Int×Bs×Bs):=match rT .u64 (a.take 25),a.drop 25 with
 |some st,rest::.n tk::r=>match rT .u64 (r.take 25),r.drop 25 with
  |some seen,[.str c,.str b]=>if st.length=25/\seen.length=25 then some (st,rest,tk,seen,c,b)else none|_,_=>none
 |_,_=>none
theorem zo2{a:List AV}{st:List Int}{rest:AV}{tk:Int}{seen:List Int}{c b:Bs}(h:AW a=some (st,rest,tk,seen,c,b)):a=sp st rest tk (tl2 seen c b)/\st.length=25/\seen.length=25:=by
 unfold AW at h;split at h
 ·rename_i o k q r f g;split at h
  ·rename_i m p n i h4;split at h
   ·rename_i j;simp only[aT,dF]at h;obtain⟨rfl,rfl,rfl,rfl,rfl,rfl⟩:=h;refine⟨?_,j⟩;have d:=EA _ f;have e:=EA _ i;rw[<-oZ 25 a,d,g,<-oZ 25 r,e,h4]
   ·cases h
  ·cases h
 ·cases h
theorem yu9{st:List Int}{rest:AV}{tk:Int}{seen:List Int}{b a:Bs}(c:st.length=25)(d:seen.length=25):AW (sp st rest tk (tl2 seen b a))=some (st,rest,tk,seen,b,a):=by
 have e:(tl2 seen b a).take 25=wd seen:=by rw[List.take_left' (by simpa using d)]
 have f:(tl2 seen b a).drop 25=[.str b,.str a]:=by rw[List.drop_left' (by simpa using d)]
 simp only[AW,YV c,YU c,DZ,e,f,c,d,and_self,bD]
def cF(d:Bs):List Int:=d.map fun b=>(b.toNat:Int)
def lV(st:List Int)(tk:Int)(T:List AV)(bs:List Int)(a:List (List (List AV))):aA:=if bs=[]then[.cells (sp st .nils tk T)]else hold st tk T bs a
def CS(a:List AV)(h:aA):Option (AV×aA):=match a,h with
 |[.ptr 0 0,.tsl [[.str d]]],[.cells e]=>match AW e with
  |some (st,.nils,tk,seen,c,b)=>if d.length<=big then some (.n (IntKind.i64.wrap (tk+d.length)),lV (fN d.length st (cF d) []).1 (IntKind.i64.wrap (tk+d.length)) (tl2 seen c b) (fN d.length st (cF d) []).2.1 (fN d.length st (cF d) []).2.2)else none|_=>none
 |_,_=>none
theorem zR6{n:Nat}{a:List (Nat×AV)}{h:aA}(b:bW n a=true)(c:cV n (h.take n)=true):trunc n a h=h.take n:=by unfold trunc;rw[b,c];rfl
theorem xp8(n:Nat)(st:List Int)(tk:Int)(seen:List Int)(b a:Bs):bN n (sp st .nils tk (tl2 seen b a))=true:=by rw[QM,WF];simp only[bN,low,xs7];rfl
theorem WD(n m:Nat):∀h:aA,cV n h=true->cV n (h.take m)=true:=by
 intro h;induction h generalizing m with
 |nil=>simp[cV]|cons b h c=>
  intro a;simp only[cV,bS]at a;cases m with
  |zero=>rfl|succ m=>simp only[List.take_succ_cons,cV,a.1,c m a.2,xJ]
theorem xy1{fr fr':List (Nat×AV)}(c:bW 2 fr=true)(d:bW 1 fr'=true){st:List Int}{tk:Int}{seen:List Int}{ta sm:Bs}{bs:List Int}{os:List (List (List AV))}:trunc 1 fr' (trunc 2 fr (hold st tk (tl2 seen ta sm) bs os))=lV st tk (tl2 seen ta sm) bs os:=by
 by_cases a:bs=[]
 ·have b:∀n,cV n (Blk.cells (sp st .nils tk (tl2 seen ta sm))::os.map fun r=>Blk.arr 1 0 r false)=true:=fun n=>by simp only[cV,gD,xp8,zz8,xJ]
  simp only[hold,lV,if_pos a];rw[zR6 c (WD _ _ _ (b 2)),zR6 d (WD _ _ _ (WD _ _ _ (b 1)))];simp
 ·rw[PU (by omega) (by omega) _ a (.inl rfl) (by cases os with
   |nil=>right;simp[hold,a]|cons o os=>left;simp;omega),PU (by omega) (by omega) _ a (.inr (.inr trivial)) (.inl (by omega))];simp[lV,a]
theorem wr0{st:List Int}{tk:Int}{T:List AV}{bs:List Int}{os:List (List (List AV))}:∃a,(lV st tk T bs os)[0]?=some (.cells (sp st a tk T)):=by
 unfold lV hold;split;·exact⟨_,rfl⟩
 ·exact⟨_,rfl⟩
theorem ZX:∀(N:Nat)(st bs:List Int)(a:List (List (List AV))),(fN N st bs a).1.length=st.length
 |0,_,_,_=>rfl|N+1,st,bs,a=>by
  simp only[fN];split;·rfl
  ·rw[ZX N,ZC]
theorem RY:∀l:List Int,dB 1 (aF l)=true
 |[]=>rfl|a::l=>by simpa[aF,dB]using RY l
theorem yd7(G:Gam)(I:G Fn.b1=some (.gen sZ)):GW G Mc.a8 Rs.a8 Ks.a8 CS:=by
 intro b2 h d1 h' a;unfold CS at a;split at a
 ·rename_i d vs;split at a
  ·rename_i st tk seen A z P;split at a
   ·rename_i N;obtain⟨rfl,c,c3⟩:=zo2 P;injection a with a;injection a with F H;subst F H;obtain⟨T,L⟩:∃T,T=tl2 seen A z:=⟨_,rfl⟩;have v:=fun(D E:List (Nat×AV))S U(st:List Int)(tk:Int)bs os=>xy1 (fr:=D) (fr':=E) S U (st:=st) (tk:=tk) (seen:=seen) (ta:=A) (sm:=z) (bs:=bs) (os:=os);rw[<-L]at v⊢;obtain⟨tk2,p⟩:∃b1,b1=IntKind.i64.wrap (tk+d.length):=⟨_,rfl⟩;rw[<-p];have y:aB 1 false [.cells (sp st .nils tk T)] (.ptr 0 26)=some (.n tk):=aR rfl (zO6 c);have i:=CE (h:=[.cells (sp st .nils tk T)]) (l:=0) rfl (off:=26) (v:=.n tk2) (by rw[CC c];omega) rfl rfl;rw[xp9 c]at i;have q:aB 1 false [.cells (sp st .nils tk2 T)] (.ptr 0 25)=some .nils:=aR rfl (yW c);have x:∀h:aA,bA 1 h (.tsl [[.str d]]) (.n 0)=some (.fptr [.str d] 0):=fun h=>by simp[bA]
    obtain⟨R,j⟩:∃R,R=fN d.length st (cF d) []:=⟨_,rfl⟩;have K:R.1.length=25:=by rw[j,ZX];exact c
    obtain⟨rv,Z⟩:=wr0 (st:=R.1) (tk:=tk2) (T:=T) (bs:=R.2.1) (os:=R.2.2);have r:=aR Z (zO6 K);have w:IntKind.i64.wrap 1=1:=by decide
    rw[aM];by_cases u:d=[]
    ·subst u;have J:R=(st,[],[]):=by rw[j];rfl
     rw[<-j];have m:∀g(h:aA),opV G g h (.app true 1 1) (some [.nils,.str []])=some (.nils,h):=fun g h=>by rw[eG rfl];simp[cG,kF,dB,lN]
     have f:=CE (h:=[.cells (sp st .nils tk2 T)]) (l:=0) rfl (off:=25) (v:=.nils) (by rw[CC c];omega) rfl rfl;rw[FP c]at f;have n:ltB 0 1=true:=aO.2 (by omega);have B:ltB 0 136=true:=aO.2 (by omega);simp only[List.set_cons_zero]at i f;have a3:lV R.1 tk2 T R.2.1 R.2.2=[.cells (sp st .nils tk2 T)]:=by rw[J];rfl
     rw[a3]at r⊢;have a2:IntKind.i64.wrap tk=tk2:=by rw[p];simp
     simp[Mc.a8,aC,Ks.a8];refine aJ (Mc.a8_L0.eq_1) ?_;rw[aQ (n:=1) rfl];simp[x,y,a2,i,q,m,f,n,-aB,-bB];refine aJ (Mc.a8_L1.eq_1) ?_;rw[aQ (n:=1) rfl];simp[q,LB,B,w,-aB];refine aJ (Mc.a8_L0.eq_1) ?_;rw[aQ (n:=1) rfl];simp[r,dM,Rs.a8,-aB]
    ·have o:cF d≠[]:=fun e=>u (HW.1 e);have t:(cF d).length=d.length:=by simp[cF]
     have Y:d.map (fun b=>[AV.int .u8 (b.toNat:Int)])=aF (cF d):=by simp[aF,cF]
     have a1:dB 1 (aF (cF d))=true:=by exact RY _
     have X:aF (cF d)≠[]:=fun e=>o (HW.1 e);have O:(aF (cF d)).length=d.length:=by simp[aF,t]
     have m:∀g(h:aA),opV G g h (.app true 1 1) (some [.nils,.str d])=some (.own h.length 0 d.length,h++[.arr 1 0 (aF (cF d)) true]):=fun g h=>by
      rw[eG rfl];have M:d.length<=bT:=by unfold big at N;unfold bT;omega
      simp[cG,kF,Y,a1,lN,X,O,M]
     have f:=CE (h:=[.cells (sp st .nils tk2 T),.arr 1 0 (aF (cF d)) true]) (l:=0) rfl (off:=25) (v:=.own 1 0 d.length) (by rw[CC c];omega) rfl rfl;rw[FP c]at f;have V:hold st tk2 T (cF d) []=[.cells (sp st (.own 1 0 d.length) tk2 T),.arr 1 0 (aF (cF d)) true]:=by simp[hold,o,t]
     have n:ltB 0 1=true:=aO.2 (by omega);simp only[List.set_cons_zero]at i f;have k:=fun ks Q W=>zT7 G I (.tsl [[.str d]]) (.str d) tk2 T (ks:=ks) (Q:=Q) d.length st (cF d) [] (by omega) (by omega) c (fun e=>absurd e o) W;rw[V]at k;rw[<-j]at k⊢;simp only[wfr]at k;simp[Mc.a8,aC,Ks.a8];refine aJ (Mc.a8_L0.eq_1) ?_;rw[aQ (n:=1) rfl];simp[x,y,<-p,i,q,m,f,n,-aB,-bB];refine k _ _ (fun b3=>?_);simp[w];refine aJ (Mc.a8_L0.eq_1) ?_;have C:=v [(0,.ptr 0 0),(1,.tsl [[.str d]]),(4,.n 0),(6,.str d),(7,.tsl [[.str d]]),(8,.n 1),(9,.n 0)] [(0,.ptr 0 0),(1,.tsl [[.str d]]),(4,.n 0),(6,.junk),(7,.tsl [[.str d]]),(8,.n 1),(9,.n 1)] (by simp[bW,low]) (by simp[bW,low]) R.1 tk2 R.2.1 R.2.2;simp[bM,C,r,dM,Rs.a8,-aB]
   ·cases a
  ·cases a
 ·cases a
section
variable{G:Gam}{h:aA}{l:Nat}{bs:List Int}
theorem xT{i:Nat}{v:Int}(a:bs[i]?=some v):(aF bs)[i]?=some [.int .u8 v]:=by simp[aF,a]
theorem zk5{i:Nat}{v:Int}:(aF bs).set i [.int .u8 v]=aF (bs.set i v):=by simp[aF,List.map_set]
theorem byteRows_len:(aF bs).length=bs.length:=by simp[aF]
theorem OD{i n:Nat}{k:IntKind}(a:h[l]?=some (.arr 1 0 (aF bs) true))(b:n=bs.length)(c:i<n):bA 1 h (.own l 0 n) (.int k i)=some (.eptr l 0 i 0):=PV a (by rw[byteRows_len];exact b) (row:=[.int .u8 bs[i]]) (xT (by simp[show i<bs.length by omega])) rfl
theorem yg4{i:Nat}{v:Int}(b:h[l]?=some (.arr 1 0 (aF bs) true))(a:bs[i]?=some v):aB 1 false h (.eptr l 0 i 0)=some (.int .u8 v):=by rw[VS b (xT a)];simp
theorem OE{st0:Bool}{i:Nat}{v:Int}(b:h[l]?=some (.arr 1 0 (aF bs) true))(a:i<bs.length):opV G st0 h (.st 1) (some [.eptr l 0 i 0,.int .u8 v])=some (.junk,h.set l (.arr 1 0 (aF (bs.set i v)) true)):=by
 rw[WZ (n:=1) b (xT (bs:=bs) (i:=i) (v:=bs[i]) (by simp[a])) rfl (by omega) rfl (by simp) rfl rfl];simp only[bK,AV.cells];rw[<-zk5];simp
end
def kU(p:List Int):Nat->Nat->List Int->List Int
 |0,_,o=>o|k+1,i,o=>kU p k (i+1) (o.set i (IntKind.u8.wrap (sr (p.getD (i/8) 0) (8*(i%8:Nat)))))
theorem QZ(p:List Int):∀(k i:Nat)(o:List Int),(kU p k i o).length=o.length
 |0,_,_=>rfl|k+1,i,o=>by rw[kU,QZ p k];simp
def inB(n:Int):Prop:=0<=n/\n<256
theorem xw3(a:Int):inB (IntKind.u8.wrap a):=by
 unfold inB IntKind.wrap;simp[IntKind.signed,IntKind.bits];exact⟨Int.emod_nonneg _ (by decide),Int.emod_lt_of_pos _ (by decide)⟩
theorem XF(p:List Int):∀(k i:Nat)(o:List Int),(∀n∈o,inB n)->∀n∈kU p k i o,inB n
 |0,_,o,h=>h|k+1,i,o,h=>by
  rw[kU];refine XF p k (i+1) _ fun n a=>?_;rcases HY a with a|rfl;·exact h n a
  ·exact xw3 _
def kA(bs:List Int):Bs:=bs.map fun n=>UInt8.ofNat n.toNat
theorem OM:∀bs:List Int,(∀n∈bs,inB n)->lP (aF bs)=some (kA bs)
 |[],_=>rfl|n::r,h=>by
  have a:=OM r (fun x c=>h x (by simp[c]));have b:=h n (by simp);simp only[aF,iO,lP];rw[if_pos (show 0<=n/\n<256 from b)];simp only[aF]at a;rw[a];rfl
abbrev LI(n L M:Nat)(a:AV)(i:Nat):List (Nat×AV):=[(0,.ptr 0 0),(2,.str []),(3,.ptr n 0),(4,.own L 0 136),(5,.own M 0 32),(6,a),(65,.n 32),(66,.n i)]
theorem zQ0(G:Gam)(n L M:Nat)(p:List Int)(D:p.length=25)(j:List AV){ks:List MK}{Q:aY}:∀(k i:Nat)(o:List Int)(h:aA),i+k=32->o.length=32->h.length=M+1->n≠M->h[n]?=some (.cells (wd p++j))->h[M]?=some (.arr 1 0 (aF o) true)->(∀x,exM G .normal ks Q x (LI n L M .junk 32) (h.set M (.arr 1 0 (aF (kU p k i o)) true)))->cY G [6] Mc.cu_L0 (M+1) (.blk 0::ks) Q (LI n L M .junk i) h
 |0,i,o,h,z,f,b,v,d,c,a=>by
  have e:i=32:=by omega
  subst e;have I:h.set M (.arr 1 0 (aF (kU p 0 32 o)) true)=h:=uI c;rw[I]at a;refine aJ (Mc.cu_L0.eq_1) ?_;rw[aQ b];simp;simpa[LI]using a _|k+1,i,o,h,z,f,b,v,d,c,a=>by
  have A:ltB i 32=true:=aO.2 (by omega);have J:=dT (i:=i) (by unfold big;omega);obtain⟨q,H,E⟩:=RK (i:=i) (by omega);obtain⟨m,B,S,C⟩:=RM i;simp only[kU,<-H,<-B]at a;have P:IntKind.i64.wrap (8*(m:Int))=8*m:=fO (by omega) (by omega);have F:q<25:=by omega
  have t:=fun g h=>iV (G:=G) (s:=g) (h:=h) (len:=25) (size:=1) (l:=n) (off:=0) (i:=q) (k:=.i64) F (by decide);have u:=aR (h:=h) (l:=n) d (vs:=wd p++j) (off:=q) (v:=.u (p.getD q 0)) (by rw[gC (by simp;omega)];exact jN (by omega));have w:=OG (a:=p.getD q 0) (b:=8*(m:Int)) (k:=.i64) (by omega);generalize p.getD q 0=r at u w a;have at1:=OD (k:=.i64) (i:=i) (n:=32) c f.symm (by omega);have N:=fun g=>OE (G:=G) (st0:=g) (i:=i) (v:=IntKind.u8.wrap (sr r (8*(m:Int)))) c (by omega);have y:M<h.length:=by omega
  have K:=zQ0 G n L M p D j (ks:=ks) (Q:=Q) k (i+1) (o.set i (IntKind.u8.wrap (sr r (8*(m:Int))))) (h.set M (.arr 1 0 (aF (o.set i (IntKind.u8.wrap (sr r (8*(m:Int)))))) true)) (by omega) (by simpa using f) (by simpa using b) v (by rw[lL (by omega)];exact d) (by rw[jI y]) (by simpa[tP]using a);simp only[eR,mB]at t;have O:=N false;refine aJ (Mc.cu_L0.eq_1) ?_;rw[aQ b];simp[A,E,C,P,t,u,w,at1,O,J,-bB,-aB,-vZ];refine cZ ?_;rw[aQ (n:=M+1) (by simpa using b)];simpa[wd,LI]using K
def xoB(a b:Int):Int:=IntKind.u8.wrap (BitVec.ofInt 8 a^^^BitVec.ofInt 8 b).toNat
@[simp]theorem xz8{a b:Int}:aW .xor (.int .u8 a) (.int .u8 b)=some (.int .u8 (xoB a b)):=rfl
def mU(bs:List Int):List Int:=(bs++List.replicate (136-bs.length) 0).set bs.length 6
def oD(bs:List Int):List Int:=(mU bs).set 135 (xoB ((mU bs).getD 135 0) 128)
theorem VQ{bs:List Int}(a:bs.length<136):(mU bs).length=136:=by simp[mU];omega
theorem VR{bs:List Int}(a:bs.length<136):(oD bs).length=136:=by simp[oD,VQ a]
def qY(st bs:List Int):List Int:=fX (fun st c=>iE st offsL c) (iM st 0 bs) constL
theorem xe4{st bs:List Int}:(qY st bs).length=st.length:=by unfold qY;rw[KS (fun st c=>KV),tH]
def BO(st bs:List Int):List Int:=kU (qY st (oD bs)) 32 0 (List.replicate 32 0)
def wG(n:Nat)(bs:List Int):AV:=if bs=[]then .nils else .own (n+1) 0 bs.length
def vK(h:aA)(st:List Int)(tk:Int)(T:List AV)(bs:List Int):aA:=h++(.cells (sp st (wG h.length bs) tk T)::if bs=[]then[]else[Blk.arr 1 0 (aF bs) true])
def ZG(h:aA)(st:List Int)(rest:AV)(tk:Int)(T:List AV)(bs:List Int):aA:=((((vK h st tk T bs++[Blk.arr 1 0 (aF (List.replicate 136 0)) true]).set (vK h st tk T bs).length (.arr 1 0 (aF (oD bs)) true)).set h.length (.cells (wd (qY st (oD bs))++wG h.length bs::.n tk::T)))++[Blk.arr 1 0 (aF (BO st bs)) true]).set 0 (.cells (sp st rest tk (wd st++[.str (kA bs),.str (kA (BO st bs))])))
def CR(a:List AV)(h:aA):Option (AV×aA):=match a with
 |[.ptr 0 0]=>match h[0]? with
  |some (Blk.cells d)=>match AW d with
   |some (st,rest,tk,seen,c,[])=>match rowsOf h rest with
    |some b=>match qP (rA (fG .u8)).dec b with
     |some bs=>if bs.length<136/\bs.all (fun n=>decide (0<=n/\n<256))then some (.str (kA (BO st bs)),ZG h st rest tk (tl2 seen c []) bs)else none|none=>none
    |none=>none
   |_=>none
  |_=>none
 |_=>none
theorem xl0{h:aA}{x:AV}{b:List (List AV)}(a:rowsOf h x=some b):bE x=true/\x.cells=[x]:=by cases x<;>first|(simp[rowsOf]at a;done)|exact⟨rfl,rfl⟩
theorem yd2(G:Gam)(hA:G Fn.b1=some (.gen sZ))(hC:G Fn.c6=some (.gen CN)):GW G Mc.cu Rs.cu Ks.cu CR:=by
 intro B2 h D1 h' g;unfold CR at g;split at g
 ·split at g
  ·rename_i vs I;split at g
   ·rename_i st rest tk seen J r2;split at g
    ·rename_i D2 z;split at g
     ·rename_i bs hd;split at g
      ·rename_i hc;obtain⟨hb,r3⟩:=hc;obtain⟨rfl,d,a2⟩:=zo2 r2;have e3:=PA (rA (fG .u8)) hd;rw[zk6]at e3;subst e3;injection g with g;injection g with h1 m;subst h1;have t1:∀n∈bs,inB n:=fun n S=>by simpa[inB]using gV.1 r3 n S
       obtain⟨w1,C1⟩:=xl0 z;obtain⟨T,Q⟩:∃T,T=tl2 seen J []:=⟨_,rfl⟩;have o2:T.length=27:=by rw[Q];simp[a2]
       rw[<-Q]at m I;have o3:T.all bE=true:=by rw[Q];simp[pB (f:=AV.int .u64) (fun _=>rfl) seen]
       have g2:=(aV.1 I).1;have o1:aB 1 false h (.ptr 0 53)=some (.str []):=by
        refine aR I ?_;rw[fT (by simp[d])];simp only[kC,d];show(rest::.n tk::T)[53-25]?=_;rw[Q];simp only[mM];rw[fT (by simp[a2])];simp[a2]
       have p1:(sp st rest tk T).all bE=true:=by
        rw[List.all_append,pB (f:=AV.int .u64) (fun _=>rfl)];simp[w1,o3]
       have g1:(sp st rest tk T).length=54:=by rw[CC d,o2]
       have cC:CN [.ptr 0 0] h=some (.ptr h.length 0,vK h st tk T bs):=by
        have y1:=RY bs;have p2:(aF bs).length<=bT:=by rw[byteRows_len];unfold bT;omega
        simp only[CN,I,yW d,z];rw[if_pos ⟨g1,p1,y1,p2⟩];simp only[vK,wG];by_cases t:bs=[];·subst t;simp[aF,FP d]
        ·have:aF bs≠[]:=fun e=>t (HW.1 e);simp only[if_neg this,if_neg t,FP d,byteRows_len]
       have b3:opV G false h (.call Fn.c6) (some [.ptr 0 0])=some (.ptr h.length 0,vK h st tk T bs):=by rw[eX hC];exact cC
       unfold ZG at m;obtain⟨p,D⟩:∃p,p=vK h st tk T bs:=⟨_,rfl⟩;have a0:p[0]?=some (.cells (sp st rest tk T)):=by rw[D];simp only[vK];rw[gC g2];exact I
       have an:p[h.length]?=some (.cells (sp st (wG h.length bs) tk T)):=by rw[D];simp[vK]
       have i1:h.length<p.length:=(aV.1 an).1;have K:rowsOf p (wG h.length bs)=some (aF bs):=by
        rw[D];by_cases t:bs=[];·subst t;rfl
        ·have hm:(h++(Blk.cells (sp st (wG h.length bs) tk T)::[Blk.arr 1 0 (aF bs) true]))[h.length+1]?=some (.arr 1 0 (aF bs) true):=by rw[fT (by omega)];simp
         simp only[vK,if_neg t];rw[show wG h.length bs=.own (h.length+1) 0 bs.length by simp[wG,t]]at hm⊢;exact sL hm byteRows_len.symm
       have m2:rowsOf p rest=some (aF bs):=by rw[D];exact KW z _
       rw[<-D]at m b3;obtain⟨f,w2⟩:∃f,f=wG h.length bs:=⟨_,rfl⟩;rw[<-w2]at an K m;clear cC D;obtain⟨n,S⟩:∃n,n=h.length:=⟨_,rfl⟩;rw[<-S]at an m b3 i1 g2;obtain⟨L,Z⟩:∃L,L=p.length:=⟨_,rfl⟩;rw[<-Z]at m i1;have mk:opV G false p (.mksl [.int .u8 0] 1) (some [.n 136,.n 136])=some (.own L 0 136,p++[Blk.arr 1 0 (aF (List.replicate 136 0)) true]):=by
        have:=QY (G:=G) (s:=false) (h:=p) (zero:=[.int .u8 0]) (bytes:=1) (n:=136) (k:=.i64) (k':=.i64) (by decide) (by decide);rw[Z];exact this
       obtain⟨q,A⟩:∃q,q=p++[Blk.arr 1 0 (aF (List.replicate 136 0)) true]:=⟨_,rfl⟩;rw[<-A]at m mk;have b0:q[0]?=some (.cells (sp st rest tk T)):=by rw[A,gC (by omega)];exact a0
       have bn:q[n]?=some (.cells (sp st f tk T)):=by rw[A,gC (by omega)];exact an
       have bL:q[L]?=some (.arr 1 0 (aF (List.replicate 136 0)) true):=by rw[A,Z];simp
       have br:rowsOf q f=some (aF bs):=by rw[A];exact KW K _
       have n3:rowsOf q rest=some (aF bs):=by rw[A];exact KW m2 _
       have t3:q.length=L+1:=by rw[A,Z];simp
       have z1:aB 1 false q (.ptr n 25)=some f:=aR bn (yW d);have w3:∀l v k,f=.own l v k->l≠L/\l≠n:=fun l v k e=>by
        rw[e]at K an;refine⟨fun M=>?_,fun M=>?_⟩
        ·subst M;simp[rowsOf,lX (show p.length<=l by omega)]at K
        ·subst M;simp[rowsOf,an]at K
       have i3:∀l v k,rest=.own l v k->l≠L/\l≠n/\l≠0/\l<n:=fun l v k e=>by
        have c2:=z;rw[e]at c2;have C3:l<h.length:=by
         rcases mA l h.length with c1|c1;·exact c1
         ·simp[rowsOf,lX c1]at c2
        refine⟨by omega,by omega,fun M=>?_,by omega⟩;subst M;simp[rowsOf,I]at c2
       have d1:∀(H:aA)(x:AV)(l:Nat)(b:Blk),(∀l' v k,x=.own l' v k->l'≠l)->rowsOf H x=some (aF bs)->rowsOf (H.set l b) x=some (aF bs):=fun H x l b hx z=>by
        cases x<;>first|(simp[rowsOf]at z;done)|exact z|skip
        rename_i l2 v k;simp only[rowsOf]at z⊢;rw[lL (fun e=>hx l2 v k rfl e.symm)];exact z
       have cp:opV G false q (.cpy false 1) (some [.own L 0 136,f])=some (.n bs.length,q.set L (.arr 1 0 (aF (bs++List.replicate (136-bs.length) 0)) true)):=by
        rw[eG rfl];have x1:(aF (List.replicate 136 (0:Int))).length=136:=by simp[aF]
        have q3:aF bs++(aF (List.replicate 136 (0:Int))).drop bs.length=aF (bs++List.replicate (136-bs.length) 0):=by unfold aF;rw[List.map_append,<-List.map_drop,List.drop_replicate]
        simp only[cG,kF,dE,bY,br,RY,bD,bL,x1,byteRows_len,q3];by_cases t:bs=[]
        ·subst t;rw[if_pos (show aF []=[]from rfl)];simp only[kZ,gQ,Nat.sub_zero];rw[uI bL];rfl
        ·have p3:¬aF bs=[]:=fun e=>t (HW.1 e);rw[if_neg p3,if_pos ⟨trivial,by omega,by omega,trivial⟩]
       obtain⟨w,B⟩:∃w,w=q.set L (.arr 1 0 (aF (bs++List.replicate (136-bs.length) 0)) true):=⟨_,rfl⟩;rw[<-B]at cp;have cn:w[n]?=some (.cells (sp st f tk T)):=by rw[B,lL (by omega)];exact bn
       have cL:w[L]?=some (.arr 1 0 (aF (bs++List.replicate (136-bs.length) 0)) true):=by rw[B,jI (by omega)]
       have cr:rowsOf w f=some (aF bs):=by rw[B];exact d1 _ _ _ _ (fun l v k e=>(w3 l v k e).1) br
       have u1:w.length=L+1:=by rw[B];simpa using t3
       have z2:aB 1 false w (.ptr n 25)=some f:=aR cn (yW d);have j2:=zy9 cr;rw[byteRows_len]at j2;have t2:(bs++List.replicate (136-bs.length) (0:Int)).length=136:=by simp;omega
       have m3:=OD (k:=.i64) (i:=bs.length) (n:=136) cL t2.symm hb;have j3:=OE (G:=G) (st0:=false) (i:=bs.length) (v:=6) cL (by omega);obtain⟨y,E⟩:∃y,y=w.set L (.arr 1 0 (aF (mU bs)) true):=⟨_,rfl⟩;have B1:opV G false w (.st 1) (some [.eptr L 0 bs.length 0,.int .u8 6])=some (.junk,y):=by rw[E];exact j3
       have dn:y[n]?=some (.cells (sp st f tk T)):=by rw[E,lL (by omega)];exact cn
       have dL:y[L]?=some (.arr 1 0 (aF (mU bs)) true):=by rw[E,jI (by omega)]
       have u2:y.length=L+1:=by rw[E];simpa using u1
       have d2:=VQ hb;have n1:bA 1 y (.own L 0 136) (.n 135)=some (.eptr L 0 135 0):=OD (k:=.i64) (i:=135) (n:=136) dL d2.symm (by omega);have j1:=yg4 (i:=135) (v:=(mU bs).getD 135 0) dL (by simp[d2]);have l1:=OE (G:=G) (st0:=false) (i:=135) (v:=xoB ((mU bs).getD 135 0) 128) dL (by omega);obtain⟨i,F⟩:∃i,i=y.set L (.arr 1 0 (aF (oD bs)) true):=⟨_,rfl⟩;have l3:opV G false y (.st 1) (some [.eptr L 0 135 0,.int .u8 (xoB ((mU bs).getD 135 0) 128)])=some (.junk,i):=by rw[F];exact l1
       have Y:i=q.set L (.arr 1 0 (aF (oD bs)) true):=by rw[F,E,B];simp
       generalize(mU bs).getD 135 0=D3 at j1 l3;have en:i[n]?=some (.cells (sp st f tk T)):=by rw[F,lL (by omega)];exact dn
       have eL:i[L]?=some (.arr 1 0 (aF (oD bs)) true):=by rw[F,jI (by omega)]
       have v1:i.length=L+1:=by rw[F];simpa using u2
       have e0:i[0]?=some (.cells (sp st rest tk T)):=by rw[Y,lL (by omega)];exact b0
       have er:rowsOf i rest=some (aF bs):=by rw[Y];exact d1 _ _ _ _ (fun l v k e=>(i3 l v k e).1) n3
       have f1:=VR hb;rw[<-Y]at m;clear Y F E B j3 l1;obtain⟨u,f3⟩:∃u,u=oD bs:=⟨_,rfl⟩;rw[<-f3]at m eL f1;have i2:(qY st u).length=25:=by rw[xe4];exact d
       have cA:sZ [.ptr n 0,.own L 0 136] i=some (.tup [],i.set n (.cells (wd (qY st u)++f::.n tk::T))):=by
        have e1:qP (rA (fG .u8)).dec (aF u)=some u:=JA (rA (fG .u8)) _;have e4:rowsOf i (.own L 0 136)=some (aF u):=sL eL (by rw[byteRows_len];exact f1.symm);simp only[sZ,en,e4,YV d,DZ,e1,YU d];rw[if_pos ⟨d,by omega⟩];rfl
       have a3:opV G false i (.call Fn.b1) (some [.ptr n 0,.own L 0 136])=some (.tup [],i.set n (.cells (wd (qY st u)++f::.n tk::T))):=by rw[eX hA];exact cA
       clear cA;obtain⟨o,ho⟩:∃o,o=BO st bs:=⟨_,rfl⟩;have a1:o=kU (qY st u) 32 0 (List.replicate 32 0):=by rw[ho,f3];rfl
       have v2:∀n∈o,inB n:=by
        rw[a1];exact XF _ _ _ _ fun n S=>by rw[(List.mem_replicate.1 S).2];exact⟨by omega,by omega⟩
       have v3:o.length=32:=by rw[a1,QZ];rfl
       rw[<-ho]at m⊢;generalize qY st u=c3 at a3 i2 a1 m;obtain⟨r,N⟩:∃r,r=i.set n (.cells (wd c3++f::.n tk::T)):=⟨_,rfl⟩;rw[<-N]at a3 m;have f0:r[0]?=some (.cells (sp st rest tk T)):=by rw[N,lL (by omega)];exact e0
       have fn:r[n]?=some (.cells (wd c3++f::.n tk::T)):=by rw[N,jI (by omega)]
       have fr:rowsOf r rest=some (aF bs):=by rw[N];exact d1 _ _ _ _ (fun l v k e=>(i3 l v k e).2.1) er
       have C:r.length=L+1:=by rw[N];simpa using v1
       have A1:opV G false r (.mksl [.int .u8 0] 1) (some [.n 32,.n 32])=some (.own (L+1) 0 32,r++[Blk.arr 1 0 (aF (List.replicate 32 0)) true]):=by
        have:=QY (G:=G) (s:=false) (h:=r) (zero:=[.int .u8 0]) (bytes:=1) (n:=32) (k:=.i64) (k':=.i64) (by decide) (by decide);rw[<-C];exact this
       have l0:=fun ks m1 hk=>zQ0 G n L (L+1) c3 i2 (f::.n tk::T) (ks:=ks) (Q:=m1) 32 0 (List.replicate 32 0) (r++[Blk.arr 1 0 (aF (List.replicate 32 0)) true]) (by omega) rfl (by simp[C]) (by omega) (by rw[gC (by omega)];exact fn) (by rw[fT (by omega)];simp[C]) hk;rw[<-a1]at l0;have x2:(r++[Blk.arr 1 0 (aF (List.replicate 32 0)) true]).set (L+1) (.arr 1 0 (aF o) true)=r++[Blk.arr 1 0 (aF o) true]:=by rw[lZ _ _ (by omega),C];simp
       rw[x2]at l0;obtain⟨j,O⟩:∃j,j=r++[Blk.arr 1 0 (aF o) true]:=⟨_,rfl⟩;rw[<-O]at l0 m;have k0:j[0]?=some (.cells (sp st rest tk T)):=by rw[O,gC (by omega)];exact f0
       have kr:rowsOf j rest=some (aF bs):=by rw[O];exact KW fr _
       have kM:j[L+1]?=some (.arr 1 0 (aF o) true):=by rw[O,fT (by omega)];simp[C]
       have C2:j.length=L+2:=by rw[O];simp[C]
       have y2:aB 25 true j (.ptr 0 0)=some (.agg (wd st)):=by
        have hc:cut (sp st rest tk T) 0 25=wd st:=by unfold cut;rw[vB,List.take_left' (by simpa using d)]
        simp only[aB,k0,hc,aE];simp[d]
       have y3:aB 1 false j (.ptr 0 25)=some rest:=aR k0 (yW d);have b1:∀U,opV G U j .b2s (some [rest])=some (.str (kA bs),j):=fun U=>by rw[eV rfl];simp[dH,kr,OM bs t1]
       have b2:∀U,opV G U j .b2s (some [.own (L+1) 0 32])=some (.str (kA o),j):=fun U=>by
        rw[eV rfl];have:=sL kM (n:=32) (by rw[byteRows_len];exact v3.symm);simp[dH,this,OM o v2]
       have f2:(sp st rest tk T).length=54:=g1;have s1:aU 25 j (.ptr 0 27) (.agg (wd st))=some (j.set 0 (.cells (sp st rest tk (wd st++[.str J,.str []])))):=by
        have r1:(AV.agg (wd st)).cells=wd st:=rfl;have x3:bK (sp st rest tk T) 27 (wd st)=sp st rest tk (wd st++[.str J,.str []]):=by
         rw[uH _ _ _ (by rw[f2];simp;omega)];have q1:(sp st rest tk T).take 27=wd st++[rest,.n tk]:=by
          rw[AE,pA (by simp[d])];simp[d]
         have q2:(sp st rest tk T).drop (27+(wd st).length)=[.str J,.str []]:=by
          rw[xM,NW (by simp[d])];simp only[kC,d,kZ];show(rest::.n tk::T).drop 27=_;simp only[List.drop_succ_cons];rw[Q,List.drop_left' (by simpa using a2)]
         rw[q1,q2];simp
        simp only[aU,r1,k0,x3];rw[if_pos ⟨by simpa using d,by omega,pB (fun _=>rfl) st⟩,if_pos (by rw[f2];omega)]
       obtain⟨W,P⟩:∃W,W=j.set 0 (.cells (sp st rest tk (wd st++[.str J,.str []]))):=⟨_,rfl⟩;rw[<-P]at s1;have m0:W[0]?=some (.cells (sp st rest tk (wd st++[.str J,.str []]))):=by rw[P,jI (by omega)]
       have h3:∀a b:AV,(sp st rest tk (wd st++[a,b])).length=54:=fun a b=>by rw[CC d];simp[d]
       have A2:∀a b c:AV,(sp st rest tk (wd st++[a,b])).set 52 c=sp st rest tk (wd st++[c,b]):=fun a b c=>by
        rw[lZ _ _ (by simp[d])];simp only[kC,d];show wd st++(rest::.n tk::(wd st++[a,b])).set 27 c=_;simp only[List.set_cons_succ];rw[lZ _ _ (by simp[d])];simp[d]
       have A3:∀a b c:AV,(sp st rest tk (wd st++[a,b])).set 53 c=sp st rest tk (wd st++[a,c]):=fun a b c=>by
        rw[lZ _ _ (by simp[d])];simp only[kC,d];show wd st++(rest::.n tk::(wd st++[a,b])).set 28 c=_;simp only[List.set_cons_succ];rw[lZ _ _ (by simp[d])];simp[d]
       have s2:=CE m0 (off:=52) (v:=.str (kA bs)) (by rw[h3];omega) rfl rfl;rw[A2]at s2;obtain⟨V,X⟩:∃V,V=W.set 0 (.cells (sp st rest tk (wd st++[.str (kA bs),.str []]))):=⟨_,rfl⟩;rw[<-X]at s2;have n0:V[0]?=some (.cells (sp st rest tk (wd st++[.str (kA bs),.str []]))):=by rw[X,jI (by rw[P];simp;omega)]
       have s3:=CE n0 (off:=53) (v:=.str (kA o)) (by rw[h3];omega) rfl rfl;rw[A3]at s3;have d3:V.set 0 (.cells (sp st rest tk (wd st++[.str (kA bs),.str (kA o)])))=h':=by rw[X,P,m.symm];simp
       rw[d3]at s3;have z0:h'[0]?=some (.cells (sp st rest tk (wd st++[.str (kA bs),.str (kA o)]))):=by rw[<-d3,jI (by rw[X,P];simp;omega)]
       have z3:aB 1 false h' (.ptr 0 53)=some (.str (kA o)):=by
        refine aR z0 ?_;rw[fT (by simp[d])];simp only[kC,d];show(rest::.n tk::(wd st++[AV.str (kA bs),.str (kA o)]))[28]?=_;simp only[mM];rw[fT (by simp[d])];simp[d]
       have n2:aW .neq (.str []) (.str [])=some (.F):=rfl;have lo:∀H:aA,aI H 1 (.own (L+1) 0 32)=some (.n 32):=fun H=>by simp
       rw[aM];simp[Mc.cu,lo,aC,Ks.cu,o1,n2,b3,mk,z1,cp,z2,j2,m3,B1,n1,j1,l3,a3,A1,C,-aB,-bB,-vZ,-aI];refine l0 _ _ (fun B3=>?_);simp[LI,y2,y3,b1,b2,s1,s2,s3,z3,dM,Rs.cu,-aB,-bB]
      ·cases g
     ·cases g
    ·cases g
   ·cases g
  ·cases g
 ·cases g
def zs25:List Int:=[0,0,0,0,0,0,0,0,0,0,0,0,0,0,0,0,0,0,0,0,0,0,0,0,0]
theorem yv0:AW FB=some (zs25,.nils,0,zs25,[],[]):=rfl
def dsum(d:Bs):Bs:=kA (BO (fN d.length zs25 (cF d) []).1 (fN d.length zs25 (cF d) []).2.1)
def oT:List AV->Option AV:=F1 eStr eStr fun d=>if d.length<=big then some (dsum d)else none
theorem zT5:∀(N:Nat)(st bs:List Int)(a:List (List (List AV))),bs.length<136*(N+1)->(fN N st bs a).2.1.length<136
 |0,_,_,_,h=>by simpa[fN]using h|N+1,st,bs,a,h=>by
  simp only[fN];split;·assumption
  ·exact zT5 N _ _ _ (by simp;omega)
theorem zT6:∀(N:Nat)(st bs:List Int)(a:List (List (List AV))),∀n∈(fN N st bs a).2.1,n∈bs
 |0,_,_,_=>fun n h=>h|N+1,st,bs,a=>fun n h=>by
  simp only[fN]at h;split at h;·exact h
  ·exact DQ (zT6 N _ _ _ n h)
theorem yn0(d:Bs):∀n∈cF d,inB n:=fun n a=>by
 obtain⟨b,_,rfl⟩:=nY.1 a;have:=b.toNat_lt;exact⟨by omega,by omega⟩
theorem xy0{st:List Int}{tk:Int}{seen:List Int}{bs:List Int}{os:List (List (List AV))}(k:st.length=25)(m:seen.length=25)(f:bs.length<136)(i:∀n∈bs,inB n):∃b,CR [.ptr 0 0] (lV st tk (tl2 seen [] []) bs os)=some (.str (kA (BO st bs)),b):=by
 have e:bs.all (fun n=>decide (0<=n/\n<256))=true:=gV.2 fun n j=>by simpa[inB]using i n j
 have g:qP (rA (fG .u8)).dec (aF bs)=some bs:=JA (rA (fG .u8)) _;obtain⟨rest,c,d⟩:∃rest,(lV st tk (tl2 seen [] []) bs os)[0]?=some (.cells (sp st rest tk (tl2 seen [] [])))/\rowsOf (lV st tk (tl2 seen [] []) bs os) rest=some (aF bs):=by
  by_cases a:bs=[]
  ·subst a;exact⟨.nils,by simp[lV],rfl⟩
  ·refine⟨.own (1+os.length) 0 bs.length,by simp[lV,hold,a],?_⟩;have:(lV st tk (tl2 seen [] []) bs os)[1+os.length]?=some (.arr 1 0 (aF bs) true):=by
    simp only[lV,hold,if_neg a];rw[Nat.add_comm,mM,fT (by simp)];simp
   exact sL this byteRows_len.symm
 refine⟨ZG (lV st tk (tl2 seen [] []) bs os) st rest tk (tl2 seen [] []) bs,?_⟩;simp only[CR,c,yu9 k m,d,g];rw[if_pos ⟨f,e⟩]
theorem yu0(G:Gam)(g:G Fn.dn=some (.gen MQ))(j:G Fn.a8=some (.gen CS))(i:G Fn.cu=some (.gen CR)):PW G Mc.co Rs.co Ks.co oT:=mK fun d r h=>by
 split at h
 ·rename_i k;injection h with h;subst h;have b:opV G false [] (.call Fn.dn) (some [])=some (.ptr 0 0,[.cells FB]):=by rw[eX g];rfl
  obtain⟨v,o⟩:∃v,CS [.ptr 0 0,.tsl [[.str d]]] [.cells FB]=some (v,lV (fN d.length zs25 (cF d) []).1 (IntKind.i64.wrap (0+d.length)) (tl2 zs25 [] []) (fN d.length zs25 (cF d) []).2.1 (fN d.length zs25 (cF d) []).2.2):=by
   refine⟨.n (IntKind.i64.wrap (0+d.length)),?_⟩;simp only[CS,yv0];rw[if_pos k]
  have a:opV G false [.cells FB] (.call Fn.a8) (some [.ptr 0 0,.tsl [[.str d]]])=some (v,lV (fN d.length zs25 (cF d) []).1 (IntKind.i64.wrap (0+d.length)) (tl2 zs25 [] []) (fN d.length zs25 (cF d) []).2.1 (fN d.length zs25 (cF d) []).2.2):=by rw[eX j];exact o
  obtain⟨f,c⟩:=xy0 (st:=(fN d.length zs25 (cF d) []).1) (tk:=IntKind.i64.wrap (0+d.length)) (seen:=zs25) (bs:=(fN d.length zs25 (cF d) []).2.1) (os:=(fN d.length zs25 (cF d) []).2.2) (by rw[ZX];rfl) rfl (zT5 _ _ _ _ (by simp[cF];omega)) (fun n m=>yn0 d n (zT6 _ _ _ _ n m));generalize lV (fN d.length zs25 (cF d) []).1 (IntKind.i64.wrap (0+d.length)) (tl2 zs25 [] []) (fN d.length zs25 (cF d) []).2.1 (fN d.length zs25 (cF d) []).2.2=H at a c;have e:opV G false H (.call Fn.cu) (some [.ptr 0 0])=some (.str (dsum d),f):=by rw[eX i];exact c
  generalize FB=S at b a;rw[aM];simp[Mc.co,aC,Ks.co,b,a,e,Rs.co,dX,owns,bU,view,dB,fW]
 ·cases h
end Go.Proofs.YtdebajodkallbaaGreatDoor
