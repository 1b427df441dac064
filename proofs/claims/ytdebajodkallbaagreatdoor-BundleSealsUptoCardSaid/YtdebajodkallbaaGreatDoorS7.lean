/- The reference -/
import Derived.Test.YtdebajodkallbaaGreatDoorS6
namespace Go.Proofs.YtdebajodkallbaaGreatDoor
open Go.RowKit Go.IntWalk
theorem XK{G:Gam}(a:G Fn.a0=some (.pure uQ)){s:Bs}(d:s.length<=1000000)(c:Bool)(h:aA):opV G c h (.call Fn.a0) (some [.str s])=some (.n (if eY s then 0 else 2),h):=bF a (us:=[.str s]) rfl (nB (A:=eStr) (R:=eInt) (f:=fun s=>if s.length<4294967281 then some (if eY s then 0 else 2)else none) (x:=s) (r:=if eY s then 0 else 2) (if_pos (by omega))) (.inl rfl)
theorem XL(s:Bs):eqB (if eY s then 0 else 2) 0=eY s:=by cases eY s<;>rfl
def zR:List AV->Option AV
 |[.str s]=>if s.length<=100000 then some (.bool (oF s))else none|_=>none
theorem yZ1{G:Gam}(o:G Fn.bv=some (.pure zH))(m:G Fn.a0=some (.pure uQ)):PW G Mc.a4 Rs.a4 Ks.a4 zR:=by
 intro A r d;unfold zR at d;split at d
 ·rename_i s;split at d
  ·rename_i B;injection d with d;subst d;have e:∀h,opV G false h (.call Fn.bv) (some [.str s,.int .u8 33])=some (.sl ((dG 33 s).map lH),h):=fun h=>bF o (us:=[.str s,.int .u8 33]) rfl (by simp only[zH];rw[if_pos ⟨by omega,by omega,by omega⟩];rfl) (.inr rfl);have j:=zO9 33 s;have p:=CD 33 s;rw[yZ3,aM];unfold WM;cases hl:dG 33 s with
   |nil=>exact absurd hl p|cons x r=>
    rw[hl]at e j;have f:=fun k h=>XK (G:=G) m (s:=x) (by have:=j x qK;omega) k h;have a:=XL x;cases r with
    |nil=>
     have q:ltB 2 1=false:=rfl;have w:IntKind.i64.wrap 0=0:=rfl;generalize(if eY x then(0:Int)else 2)=v at*;cases c:eY x with
     |true=>rw[c]at a;simp[Mc.a4,Ks.a4,aC,e,lH,aI,q,w,bA,cut,aE,f,a,c,aD,Rs.a4]|false=>rw[c]at a;simp[Mc.a4,Ks.a4,aC,e,lH,aI,q,bA,cut,aE,f,a,c,aD,Rs.a4]
    |cons y t=>
     have l:=fun k h=>XK (G:=G) m (s:=y) (by have:=j y (by simp);omega) k h;have i:=XL y;cases t with
     |nil=>
      have q:ltB 2 (0+1+1)=false:=rfl;have C:ltB 2 2=false:=rfl;have w:IntKind.i64.wrap (0+1+1-1)=1:=rfl;have n:IntKind.i64.wrap 1=1:=rfl;generalize(if eY x then(0:Int)else 2)=v at*;generalize(if eY y then(0:Int)else 2)=D at*;cases c:eY x with
      |true=>
       rw[c]at a;cases g:eY y with
       |true=>rw[g]at i;simp[Mc.a4,Ks.a4,aC,e,lH,aI,n,bA,cut,aE,f,a,l,i,c,g,aD,Rs.a4]|false=>rw[g]at i;simp[Mc.a4,Ks.a4,aC,e,lH,aI,n,bA,cut,aE,f,a,l,i,c,g,aD,Rs.a4]
      |false=>rw[c]at a;simp[Mc.a4,Ks.a4,aC,e,lH,aI,bA,cut,aE,f,a,c,aD,Rs.a4]
     |cons z u=>
      have q:ltB 2 ((u.length:Int)+1+1+1)=true:=aO.2 (by omega);simp[Mc.a4,Ks.a4,aC,e,lH,aI,q,aD,Rs.a4]
  ·cases d
 ·cases d
theorem yZ2{G:Gam}(hN:G Fn.a4=some (.pure zR)){s:Bs}(a:s.length<=100000)(c:Bool)(h:aA):opV G c h (.call Fn.a4) (some [.str s])=some (.bool (oF s),h):=bF hN (us:=[.str s]) rfl (by simp only[zR];rw[if_pos a]) (.inl rfl)
theorem RL{G:Gam}(hT:G Fn.a5=some (.pure iL)){s:Bs}(c:s.length<=100000)(a:Bool)(h:aA):opV G a h (.call Fn.a5) (some [.str s])=some (.bool (gN s),h):=bF hT (us:=[.str s]) rfl (by simp only[iL];rw[if_pos (by omega)]) (.inl rfl)
theorem xv5{G:Gam}(a:G Fn.dg=some (.pure zU)){e:Nat}(d:e<=1000000)(c:Bool)(h:aA):opV G c h (.call Fn.dg) (some [.n e])=some (.n (kL e),h):=bF a (us:=[.n e]) rfl (by simp only[zU];rw[if_pos ⟨by omega,by omega⟩];unfold kL upZ;rfl) (.inl rfl)
abbrev PlH(a:List AV)(p:Plc):aA:=[.cells a,.cells p.row]
theorem zp3{G:Gam}(b:Bin)(I:b.pl.length<1000000)(p:Plc)(i:Nat)(J:i<b.pl.length)(a:List AV)(t:∀tl:aA,aB 1 false (.cells a::tl) (.ptr 0 3)=some (.sl (aK b.pl)))(e:Nat)(R:Bool){ks:List MK}(v:(b.pl.take i).any (fun q=>q.obj==p.obj&&q.sym==p.sym)=true->R=false)(w:(b.pl.take i).any (fun q=>q.obj==p.obj&&q.sym==p.sym)=false->∀E,exM G .normal ks (aD Rs.ae (.bool R)) E [(0,.agg a),(1,.ptr 0 0),(2,.F),(3,.n e),(4,.n i),(5,.ptr 1 0),(6,.n i),(7,.junk),(25,.sl (aK b.pl)),(26,.n b.pl.length),(27,.n i)] (PlH a p)):∀(g:List Plc)(j:Nat),(b.pl.take i).drop j=g->j<=i->(b.pl.take i).any (fun q=>q.obj==p.obj&&q.sym==p.sym)=g.any (fun q=>q.obj==p.obj&&q.sym==p.sym)->cY G [] Mc.ae_L1 2 (.blk 2::ks) (aD Rs.ae (.bool R)) [(0,.agg a),(1,.ptr 0 0),(2,.F),(3,.n e),(4,.n i),(5,.ptr 1 0),(6,.n j),(7,.junk),(25,.sl (aK b.pl)),(26,.n b.pl.length),(27,.n i)] (PlH a p)
 |[],j,l,L,d=>by
  have K:=drop_nil l;rw[lY]at K;have D:j=i:=by omega
  subst D;have M:=w (by rw[d];rfl);refine aJ (Mc.ae_L1.eq_1) ?_;rw[aQ (n:=2) rfl];generalize PlH a p=H at*;simp;exact M _|q::g,j,l,L,d=>by
  obtain⟨N,y,P⟩:=eT l;rw[lY]at N;rw[fZ,if_pos (by omega)]at y;have m:ltB (j:Int) (i:Int)=true:=aO.2 (by omega);have x:=dT (i:=j) (by unfold big;omega);have Q:=yM y;have O:q.row.length=5:=rfl;have n:∀h,bA 5 h (.sl (aK b.pl)) (.n (j:Int))=some (.fptr q.row 0):=fun h=>by simp[bA,Q,O]
  have o:∀h,aB 1 false h (.fptr q.row 0)=some (.str q.obj):=fun h=>by simp[aB,cut,aE,Plc.row]
  have B:∀h,aB 1 false h (.fptr q.row 1)=some (.str q.sym):=fun h=>by simp[aB,cut,aE,Plc.row]
  have s:aB 1 false (PlH a p) (.ptr 1 0)=some (.str p.obj):=aR (l:=1) rfl rfl;have C:aB 1 false (PlH a p) (.ptr 1 1)=some (.str p.sym):=aR (l:=1) rfl rfl;have k:aB 1 false (PlH a p) (.ptr 0 3)=some (.sl (aK b.pl)):=t _;have A:=zp3 b I p i J a t e R v w g (j+1) P (by omega);rw[List.any_cons]at d;refine aJ (Mc.ae_L1.eq_1) ?_;rw[aQ (n:=2) rfl];have u:(PlH a p).length=2:=rfl;generalize PlH a p=H at*;generalize aK b.pl=S at*;cases c:(q.obj==p.obj)with
  |true=>cases f:(q.sym==p.sym)with
   |true=>
    have F:=v (by rw[d,c,f];rfl);subst F;simp[m,k,n,o,B,s,C,dV,c,f,aD,Rs.ae,-aB]|false=>
    simp[m,k,n,o,B,s,C,dV,c,f,x,-aB];refine cZ ?_;rw[aQ u];have:=A (by rw[d,c,f];rfl);simpa using this
  |false=>
   simp[m,k,n,o,s,dV,c,x,-aB];refine cZ ?_;rw[aQ u];have:=A (by rw[d,c];rfl);simpa using this
theorem zU0{G:Gam}(b:Bin)(F:b.img.length<=1000000)(p:Plc)(u:Nat)(M:u<=b.img.length)(m:p.pos=u)(i:Nat)(a:List AV)(q:∀tl:aA,aB 1 false (.cells a::tl) (.ptr 0 2)=some (.str b.img))(e:Nat)(o:AV)(R:Bool){ks:List MK}(t:LP b.img e u=false->R=false)(v:LP b.img e u=true->∀C,exM G .normal ks (aD Rs.ae (.bool R)) C [(0,.agg a),(1,.ptr 0 0),(2,.F),(3,.n e),(4,.n i),(5,.ptr 1 0),(6,o),(7,.n u),(25,.sl (aK b.pl)),(26,.n b.pl.length),(27,.n i)] (PlH a p)):∀(j:Bs)(k:Nat),(b.img.take u).drop k=j->k<=u->LP b.img e u=j.all (·==0)->cY G [] Mc.ae_L2 2 (.blk 4::ks) (aD Rs.ae (.bool R)) [(0,.agg a),(1,.ptr 0 0),(2,.F),(3,.n e),(4,.n i),(5,.ptr 1 0),(6,o),(7,.n k),(25,.sl (aK b.pl)),(26,.n b.pl.length),(27,.n i)] (PlH a p)
 |[],k,l,K,d=>by
  have I:=drop_nil l;rw[lY]at I;have B:k=u:=by omega
  subst B;have J:=v (by rw[d];rfl);have g:aB 1 false (PlH a p) (.ptr 1 3)=some (.n k):=by rw[<-m];exact aR (l:=1) rfl rfl
  refine aJ (Mc.ae_L2.eq_1) ?_;rw[aQ (n:=2) rfl];generalize PlH a p=H at*;simp[g,-aB];exact J _|c::j,k,l,K,d=>by
  obtain⟨L,x,O⟩:=eT l;rw[lY]at L;rw[fZ,if_pos (by omega)]at x;have w:ltB (k:Int) (u:Int)=true:=aO.2 (by omega);have N:=dT (i:=k) (by unfold big;omega);have y:∀A h,opV G A h .istr (some [.str b.img,.n k])=some (.int .u8 c.toNat,h):=fun A h=>jX x;have g:aB 1 false (PlH a p) (.ptr 1 3)=some (.n u):=by rw[<-m];exact aR (l:=1) rfl rfl
  have s:aB 1 false (PlH a p) (.ptr 0 2)=some (.str b.img):=q _;have P:=zU0 b F p u M m i a q e o R t v j (k+1) O (by omega);rw[qJ]at d;refine aJ (Mc.ae_L2.eq_1) ?_;rw[aQ (n:=2) rfl];have D:(PlH a p).length=2:=rfl;generalize PlH a p=H at*;by_cases f:c=0
  ·have n:eqB (c.toNat:Int) 0=true:=by rw[f];rfl
   simp[w,g,s,y,n,N,-aB];refine cZ ?_;rw[aQ D];have:=P (by rw[d,f];simp);simpa using this
  ·have n:eqB (c.toNat:Int) 0=false:=eU.2 fun e=>f (rP.1 (by simp;omega));have E:=t (by rw[d];simp[f]);subst E;simp[w,g,s,y,n,aD,Rs.ae,-aB]
section
theorem xf3(p:Plc):yO p=(!(!oF p.obj||!gN p.sym||ltB p.siz 0||ltB 8192 p.siz)&&!((eqB p.kd 1&&ltB p.siz 2)||(eqB p.kd 2&&!eqB (p.siz.tmod 4) 0)||(!eqB p.kd 1&&!eqB p.kd 2))):=by
 unfold yO;have j:(eqB p.kd 1&&eqB p.kd 2)=false:=by
  rcases dD (eqB p.kd 1)with c|c
  ·rw[gW]at c;have:eqB p.kd 2=false:=eU.2 (by omega);rw[this,nF]
  ·rw[c];rfl
 have i:ltB p.siz 0=true->ltB p.siz 2=true:=fun h=>by rw[aO]at h⊢;omega
 generalize ltB p.siz 0=e at*;generalize ltB p.siz 2=f at*;generalize ltB 8192 p.siz=g at*;generalize eqB p.kd 1=k1 at*;generalize eqB p.kd 2=k2 at*;generalize eqB (p.siz.tmod 4) 0=m at*;generalize oF p.obj=a;generalize gN p.sym=d;cases a<;>cases d<;>cases e<;>cases f<;>cases g<;>cases k1<;>cases k2<;>cases m<;>simp_all
attribute[local congr]ite_congr in theorem zG5{G:Gam}(hN:G Fn.a4=some (.pure zR))(hT:G Fn.a5=some (.pure iL))(L:G Fn.dg=some (.pure zU))(b:Bin)(n:OkB b)(a:List AV)(w:∀f1,bN f1 a=true)(l:∀tl:aA,aB 1 false (.cells a::tl) (.ptr 0 2)=some (.str b.img))(H:∀tl:aA,aB 1 false (.cells a::tl) (.ptr 0 3)=some (.sl (aK b.pl))):∀(j:List Plc)(i:Nat)(e:Nat),b.pl.drop i=j->i<=b.pl.length->e<=b.img.length->cY G [4,5,6,7] Mc.ae_L0 1 [.blk 0,.seq (.seq (.reg [zm 140 3,zf 141 2 1,zl 142 141,zn 143 0 142,zb 144 .eql 140 143,zM 2 144]) .ret)] (aD Rs.ae (.bool (oJ b.img (b.pl.take i) e j))) [(0,.agg a),(1,.ptr 0 0),(2,.F),(3,.n e),(4,.junk),(5,.junk),(6,.junk),(7,.junk),(25,.sl (aK b.pl)),(26,.n b.pl.length),(27,.n i)] [.cells a]
 |[],i,e,x,hi,he=>by
  have g2:=drop_nil x;have ei:i=b.pl.length:=by omega
  subst ei;refine aJ (Mc.ae_L0.eq_1) ?_;rw[aQ (n:=1) rfl];have e2:eqB (e:Int) (b.img.length:Int)=(e==b.img.length):=by
   by_cases h:e=b.img.length;·subst h;simp
   ·have:eqB (e:Int) (b.img.length:Int)=false:=eU.2 (by omega);rw[this];simp[h]
  simp[l,aI,oJ,e2,aD,Rs.ae,-aB]|p::j,i,e,x,hi,he=>by
  obtain⟨h2,B,e3⟩:=eT x;have O:=fB B;obtain⟨hb,b2⟩:=yL n.p;obtain⟨⟨k1,k2⟩,k3,k4⟩:=KO (b2 p O);obtain⟨ko,ky⟩:=n.pl p O;have c3:=n.img;have f2:ltB (i:Int) (b.pl.length:Int)=true:=aO.2 (by omega);have hw:=dT (i:=i) (by unfold big;omega);have r1:=yM B;have e1:p.row.length=5:=rfl;have ia:∀h,bA 5 h (.sl (aK b.pl)) (.n (i:Int))=some (.fptr p.row 0):=fun h=>by simp[bA,r1,e1]
  have l1:∀h,aB 5 true h (.fptr p.row 0)=some (.agg p.row):=fun h=>by simp[aB,cut,aE,Plc.row]
  have sn:aU 5 [.cells a,.cells [.str [],.str [],.n 0,.n 0,.n 0]] (.ptr 1 0) (.agg p.row)=some (PlH a p):=SE (h:=[.cells a]);have p0:aB 1 false (PlH a p) (.ptr 1 0)=some (.str p.obj):=aR (l:=1) rfl rfl;have p1:aB 1 false (PlH a p) (.ptr 1 1)=some (.str p.sym):=aR (l:=1) rfl rfl;have p2:aB 1 false (PlH a p) (.ptr 1 2)=some (.n p.kd):=aR (l:=1) rfl rfl;have T:aB 1 false (PlH a p) (.ptr 1 3)=some (.n p.pos):=aR (l:=1) rfl rfl;have q:aB 1 false (PlH a p) (.ptr 1 4)=some (.n p.siz):=aR (l:=1) rfl rfl;have a3:aB 1 false (PlH a p) (.ptr 0 2)=some (.str b.img):=l _;have Y:=fun k h=>yZ2 (G:=G) hN ko k h;have Z:=fun k h=>RL (G:=G) hT ky k h;have cU:=fun k h=>xv5 (G:=G) L (e:=e) (by omega) k h;have A:=ZQ e;have mr:aW .rem (.n p.siz) (.n 4)=some (.n (p.siz.tmod 4)):=by simp[aW,fS]
  have U:IntKind.i64.wrap (p.pos+p.siz)=p.pos+p.siz:=i64_in _ ⟨by omega,by omega⟩;have d3:b.pl.take (i+1)=b.pl.take i++[p]:=by rw[xO,B];rfl
  have Q:=zG5 hN hT L b n a w l H j (i+1) (kL e+p.siz.toNat) e3 (by omega);rw[d3]at Q;obtain⟨R,K⟩:∃R,R=oJ b.img (b.pl.take i) e (p::j):=⟨_,rfl⟩;have f:=K;rw[oJ,xf3]at f;rw[<-K];have fin:∀t tl,bW 1 t=true->trunc 1 t (.cells a::tl)=[.cells a]:=fun t tl g=>sP (a:=[.cells a]) (b:=tl) rfl g (by simp[cV,gD,w 1]);have b3:=w 1;have F:=fun o g m=>zp3 (G:=G) b hb p i (by omega) a H e R (ks:=o) g m (b.pl.take i) 0 rfl (by omega) rfl;refine aJ (Mc.ae_L0.eq_1) ?_;rw[aQ (n:=1) rfl];have J:(PlH a p).length=2:=rfl;have b1:PlH a p=[.cells a,.cells p.row]:=rfl;have zl:∀(u:Nat)(A:u<=b.img.length)(P:p.pos=u)(N:e<=u)V(o:List MK)g m,_:=fun u A P N V o g m=>zU0 (G:=G) b c3 p u A P i a l e V R (ks:=o) g m ((b.img.take u).drop e) e rfl N rfl;obtain⟨W,v⟩:∃c,c=(!oF p.obj||!gN p.sym||ltB p.siz 0||ltB 8192 p.siz):=⟨_,rfl⟩;obtain⟨X,M⟩:∃c,c=((eqB p.kd 1&&ltB p.siz 2)||(eqB p.kd 2&&!eqB (p.siz.tmod 4) 0)||(!eqB p.kd 1&&!eqB p.kd 2)):=⟨_,rfl⟩;rw[<-v,<-M]at f;generalize hH:PlH a p=f3 at*;generalize g1:aK b.pl=RP at*;simp+contextual[f2,ia,l1,sn,p0,p1,q,Y,Z,-aB,-bB];rw[<-v];cases W with
  |true=>
   have:R=false:=by rw[f];simp
   subst this;simp[aD,Rs.ae]|false=>
   simp+contextual[p2,q,mr,-aB];rw[<-M];cases X with
   |true=>
    have:R=false:=by rw[f];simp
    subst this;simp[aD,Rs.ae]|false=>
    have hs:0<=p.siz:=by
     have I:=v.symm;simp only[xK,bC]at I;exact I.1.2
    simp only[iF,uX]at f;simp only[kY]at F;simp[J,-aB];refine F _ (fun y=>by rw[f,y];simp) fun y a2=>?_;rw[y]at f;simp only[iF,eF]at f;simp+contextual[T,q,cU,U,a3,aI,-aB];rcases dD (!eqB p.pos (kL e:Nat)||ltB (b.img.length:Nat) (p.pos+p.siz))with c|c
    ·have:R=false:=by
      rw[f];rw[Bool.or_eq_true,lK]at c;rcases c with c|c;·rw[c];simp
      ·rcases dD (eqB p.pos (kL e:Nat))with d|d
       ·have d':=gW.1 d;rw[d']at c;rw[c];simp
       ·rw[d];simp
     subst this;rw[c];simp[aD,Rs.ae]
    ·rw[c];rw[xK,Bool.not_eq_false']at c;obtain⟨D,s⟩:=c;have E:=gW.1 D;have a1:=s;rw[bC]at a1;rw[E]at s;rw[D,s]at f;simp only[iF,eF,uX]at f;simp[J,-aB];refine zl (kL e) (by omega) E (by omega) _ _ (fun C=>by rw[f,C];rfl) fun C a2=>?_;rw[C,eF]at f;have S:=Q (by omega);have eE:((kL e+p.siz.toNat:Nat):Int)=p.pos+p.siz:=by omega
     rw[eE,<-f]at S;simp[T,q,U,hw,-aB];refine cZ ?_;rw[b1,fin _ _ (by simp[bW,low,b3])];simpa using S
theorem xf1{G:Gam}(hN:G Fn.a4=some (.pure zR))(hT:G Fn.a5=some (.pure iL))(k:G Fn.dg=some (.pure zU)):PW G Mc.ae Rs.ae Ks.ae tB:=by
 intro n r a;unfold tB at a;split at a
 ·rename_i j;split at a
  ·rename_i b l;split at a
   ·rename_i hl;injection a with a;subst a;obtain rfl:j=b.cells:=mE l;have c:∀tl:aA,aB 1 false (.cells b.cells::tl) (.ptr 0 3)=some (.sl (aK b.pl)):=fun tl=>aR (l:=0) rfl rfl;have g:∀tl:aA,aB 1 false (.cells b.cells::tl) (.ptr 0 2)=some (.str b.img):=fun tl=>aR (l:=0) rfl rfl;have i:=zG5 (G:=G) hN hT k b (sH hl) b.cells (iS b) g c b.pl 0 0 rfl (by omega) (by omega);have e:=fun m=>qO (G:=G) b m;rw[aM];unfold iJ;rw[lA]at i;generalize b.cells=j at i c g e⊢;rcases dD (ltB (b.pl.length:Nat) 1)with d|d;·simp[Mc.ae,Ks.ae,aC,e,c,aI,d,aD,Rs.ae,-aB]
    ·rcases dD (ltB 128 (b.pl.length:Nat))with f|f;·simp[Mc.ae,Ks.ae,aC,e,c,aI,d,f,aD,Rs.ae,-aB]
     ·rcases dD (ltB 65536 (b.img.length:Nat))with h|h;·simp[Mc.ae,Ks.ae,aC,e,c,g,aI,d,f,h,aD,Rs.ae,-aB]
      ·simp[Mc.ae,Ks.ae,aC,e,c,g,aI,d,f,h,-aB];simpa using i
   ·cases a
  ·cases a
 ·cases a
end
theorem zT0{b:Bin}(h:iJ b=true){a:Int}(c:kB a b.pl=true):0<=a/\a+4<=b.img.length:=by
 unfold kB at c;obtain⟨p,e,d⟩:=tK.1 c;have:=qZ (nM h).2.2 p e;simp at d;omega
theorem zT2{G:Gam}(d:G Fn.cy=some (.pure xC)){s:Bs}{a:Int}(c:0<=a)(f:a+4<=s.length)(g:s.length<=1000000)(e:Bool)(h:aA):opV G e h (.call Fn.cy) (some [.str s,.n a])=some (.int .u32 (kN s a.toNat),h):=bF d (us:=[.str s,.n a]) rfl (by simp only[xC];rw[if_pos ⟨c,by omega,by unfold big;omega⟩]) (.inl rfl)
theorem zT1{G:Gam}(c:G Fn.bk=some (.pure xA)){b:Bin}(d:qV b=true)(a:Int)(e:Bool)(h:aA):opV G e h (.call Fn.bk) (some [.agg b.cells,.n a])=some (.bool (kB a b.pl),h):=bF c (us:=[.agg b.cells,.n a]) (by simp[bU,view,Bin.cells]) (by simp only[xA,jK];rw[if_pos d]) (.inl rfl)
theorem zj7{G:Gam}(c:G Fn.bd=some (.pure uS)){b:Bin}(d:qV b=true)(a:Int)(y:Bs)(e:Bool)(h:aA):opV G e h (.call Fn.bd) (some [.agg b.cells,.n a,.str y])=some (.bool (pE a y b.pl),h):=bF c (us:=[.agg b.cells,.n a,.str y]) (by simp[bU,view,Bin.cells]) (by simp only[uS,jK];rw[if_pos d]) (.inl rfl)
theorem xw8(s:Bs)(i:Nat):kN s i<4294967296:=by
 unfold kN;have a:=(s.getD i 0).toNat_lt;have c:=(s.getD (i+1) 0).toNat_lt;have d:=(s.getD (i+2) 0).toNat_lt;have e:=(s.getD (i+3) 0).toNat_lt;omega
theorem zt4{G:Gam}(C:G Fn.bk=some (.pure xA))(B:G Fn.bd=some (.pure uS))(D:G Fn.cy=some (.pure xC))(b:Bin)(F:lG b=true)(H:iJ b=true)(R X:Bool){ks:List MK}(E:R=X->∀l L,exM G .normal ks (aD Rs.aj (.bool R)) L [(0,.agg b.cells),(1,.ptr 0 0),(2,.F),(3,.n l),(5,.junk),(7,.junk),(9,.junk),(11,.sl (bO b.fx)),(12,.n b.fx.length),(13,.n b.fx.length),(40,.junk),(41,.junk),(42,.junk),(79,.junk),(80,.junk),(81,.junk)] [.cells b.cells]):∀(p:List Int)(i:Nat)(l:Int),b.fx.drop i=p->i<=b.fx.length->-4<=l/\l<=1000000000000->R=(fxR b l p&&X)->cY G [5] Mc.aj_L0 1 (.blk 0::ks) (aD Rs.aj (.bool R)) [(0,.agg b.cells),(1,.ptr 0 0),(2,.F),(3,.n l),(5,.junk),(7,.junk),(9,.junk),(11,.sl (bO b.fx)),(12,.n b.fx.length),(13,.n i),(40,.junk),(41,.junk),(42,.junk),(79,.junk),(80,.junk),(81,.junk)] [.cells b.cells]
 |[],i,l,v,N,hl,c=>by
  have a1:=drop_nil v;have K:i=b.fx.length:=by omega
  subst K;simp only[fxR,eF]at c;have O:=E c;refine aJ (Mc.aj_L0.eq_1) ?_;rw[aQ (n:=1) rfl];generalize b.cells=u at*;simp;exact O _ _|a::p,i,l,v,N,hl,c=>by
  obtain⟨a2,I,Q⟩:=eT v;have f:=sH F;have W:=SB (f.fx a (fB I));have Y:=f.fxl;have q:ltB (i:Int) (b.fx.length:Int)=true:=aO.2 (by omega);have P:=dT (i:=i) (by unfold big;omega);have T:=JO I;have m:∀h,bA 1 h (.sl (bO b.fx)) (.n (i:Int))=some (.fptr [.n a] 0):=fun h=>by simp[bA,T,eC]
  have o:∀h x,aB 1 false h (.fptr [.n x] 0)=some (.n x):=fun h x=>by simp[aB,cut,aE]
  have s:IntKind.i64.wrap (l+4)=l+4:=i64_in _ ⟨by omega,by omega⟩;have e:=fun g h=>zT1 (G:=G) C f.p a g h;have A:∀tl:aA,aB 1 false (.cells b.cells::tl) (.ptr 0 2)=some (.str b.img):=fun tl=>aR (l:=0) rfl rfl;have w:=AM (b:=b) [];have S:=zt4 C B D b F H R X E p (i+1) a Q (by omega);rw[fxR]at c;refine aJ (Mc.aj_L0.eq_1) ?_;rw[aQ (n:=1) rfl];generalize V:bO b.fx=U at*;rcases dD (ltB a (l+4))with d|d
  ·rw[d]at c;simp only[nG,eW]at c;subst c;generalize b.cells=u at*;simp[q,m,o,s,d,aD,Rs.aj,-aB]
  ·rw[d]at c;rcases dD (kB a b.pl)with j|j
   ·obtain⟨M,h4⟩:=zT0 H j;rw[j]at c e;simp only[iF,eF]at c;have y:=fun g h=>zT2 (G:=G) D M h4 f.img g h;have k:=fun g h=>zj7 (G:=G) B f.p (kN b.img a.toNat:Int) [] g h;have wn:=xw8 b.img a.toNat;have J:IntKind.i64.wrap (kN b.img a.toNat:Int)=(kN b.img a.toNat:Int):=i64_in _ ⟨by omega,by omega⟩;generalize(kN b.img a.toNat:Int)=n at*;generalize Z:b.cells=u at*;rcases dD (pE n [] b.pl)with t|t
    ·rw[t]at c k;simp only[eF]at c;simp[q,m,o,s,d,w,e,A,y,J,k,P,-aB];refine cZ ?_;rw[aQ (n:=1) rfl];simpa using S (by omega) c
    ·rw[t]at c k;simp only[eW]at c;subst c;simp[q,m,o,s,d,w,e,A,y,J,k,aD,Rs.aj,-aB]
   ·rw[j]at c e;simp only[eW,nF]at c;subst c;generalize b.cells=u at*;simp[q,m,o,s,d,w,e,aD,Rs.aj,-aB]
abbrev ImH(a:List AV)(x:Imp):aA:=[.cells a,.cells x.row]
theorem yy9(b a:Int):(ltB (b-4) a&&ltB a (b+4))=(ltB (a-4) b&&ltB b (a+4)):=by
 rw[Bool.eq_iff_iff];simp only[bS,aO];omega
theorem zr6{G:Gam}(b:Bin)(C:OkB b)(x:Imp)(Q:-1000000000000<=x.pos/\x.pos<=1000000000000)(c:List AV)(l:Int)(i:Nat)(w t u v:AV)(R:Bool){ks:List MK}(A:kS b.fx x.pos=false->R=false)(B:kS b.fx x.pos=true->∀J,exM G .normal ks (aD Rs.aj (.bool R)) J [(0,.agg c),(1,.ptr 0 0),(2,.F),(3,.n l),(5,w),(7,.ptr 1 0),(9,.junk),(11,t),(12,u),(13,v),(40,.sl (bP b.im)),(41,.n b.im.length),(42,.n i),(79,.sl (bO b.fx)),(80,.n b.fx.length),(81,.n b.fx.length)] (ImH c x)):∀(g:List Int)(j:Nat),b.fx.drop j=g->j<=b.fx.length->kS b.fx x.pos=kS g x.pos->cY G [9] Mc.aj_L2 2 (.blk 4::ks) (aD Rs.aj (.bool R)) [(0,.agg c),(1,.ptr 0 0),(2,.F),(3,.n l),(5,w),(7,.ptr 1 0),(9,.junk),(11,t),(12,u),(13,v),(40,.sl (bP b.im)),(41,.n b.im.length),(42,.n i),(79,.sl (bO b.fx)),(80,.n b.fx.length),(81,.n j)] (ImH c x)
 |[],j,n,L,f=>by
  have U:=drop_nil n;have I:j=b.fx.length:=by omega
  subst I;have M:=B (by rw[f];rfl);refine aJ (Mc.aj_L2.eq_1) ?_;rw[aQ (n:=2) rfl];generalize ImH c x=H at*;simp;exact M _|a::g,j,n,L,f=>by
  obtain⟨V,N,O⟩:=eT n;have T:=C.fxl;have q:ltB (j:Int) (b.fx.length:Int)=true:=aO.2 (by omega);have D:=dT (i:=j) (by unfold big;omega);have P:=JO N;have o:∀h,bA 1 h (.sl (bO b.fx)) (.n (j:Int))=some (.fptr [.n a] 0):=fun h=>by simp[bA,P,eC]
  have p:∀h x,aB 1 false h (.fptr [.n x] 0)=some (.n x):=fun h x=>by simp[aB,cut,aE]
  have m:aB 1 false (ImH c x) (.ptr 1 2)=some (.n x.pos):=aR (l:=1) rfl rfl;have s:IntKind.i64.wrap (x.pos-4)=x.pos-4:=i64_in _ ⟨by omega,by omega⟩;have F:IntKind.i64.wrap (x.pos+4)=x.pos+4:=i64_in _ ⟨by omega,by omega⟩;have E:=zr6 b C x Q c l i w t u v R A B g (j+1) O (by omega);have e:kS (a::g) x.pos=(!(ltB (x.pos-4) a&&ltB a (x.pos+4))&&kS g x.pos):=by rw[<-yy9];rfl
  rw[e]at f;refine aJ (Mc.aj_L2.eq_1) ?_;rw[aQ (n:=2) rfl];have y:(ImH c x).length=2:=rfl;generalize ImH c x=H at*;generalize bO b.fx=S at*;rcases dD (ltB (x.pos-4) a)with d|d
  ·rcases dD (ltB a (x.pos+4))with k|k
   ·have K:=A (by rw[f,d,k];rfl);subst K;simp[q,o,p,m,s,F,d,k,aD,Rs.aj,-aB]
   ·simp[q,o,p,m,s,F,d,k,D,-aB];refine cZ ?_;rw[aQ y];simpa using E (by rw[f,d,k];rfl)
  ·simp[q,o,p,m,s,d,D,-aB];refine cZ ?_;rw[aQ y];simpa using E (by rw[f,d];rfl)
theorem zw1{G:Gam}(P:G Fn.bk=some (.pure xA))(S:G Fn.cy=some (.pure xC))(Q:G Fn.a0=some (.pure uQ))(hN:G Fn.a5=some (.pure iL))(b:Bin)(Y:lG b=true)(Z:iJ b=true)(R:Bool)(E B C D:AV)(W:low 1 E=true)(T:low 1 B=true)(U:low 1 C=true)(V:low 1 D=true):∀(A:List Imp)(i:Nat)(l:Int),b.im.drop i=A->i<=b.im.length->-4<=l/\l<=1000000000000->R=imR b l A->cY G [7,9,79,80,81] Mc.aj_L1 1 [.blk 2,.seq (.seq (.reg [Kb 2 true]) .ret)] (aD Rs.aj (.bool R)) [(0,.agg b.cells),(1,.ptr 0 0),(2,.F),(3,.n l),(5,E),(7,.junk),(9,.junk),(11,B),(12,C),(13,D),(40,.sl (bP b.im)),(41,.n b.im.length),(42,.n i),(79,.junk),(80,.junk),(81,.junk)] [.cells b.cells]
 |[],i,l,M,hi,hl,a=>by
  have f1:=drop_nil M;have ei:i=b.im.length:=by omega
  subst ei;simp only[imR]at a;subst a;refine aJ (Mc.aj_L1.eq_1) ?_;rw[aQ (n:=1) rfl];generalize b.cells=J at*;simp[aD,Rs.aj]|x::A,i,l,M,hi,hl,a=>by
  obtain⟨f2,hx,b2⟩:=eT M;have s:=sH Y;obtain⟨xl,xs,d1⟩:=s.im x (fB hx);have xp:=SB d1;have hb:=s.iml;have q:ltB (i:Int) (b.im.length:Int)=true:=aO.2 (by omega);have hw:=dT (i:=i) (by unfold big;omega);have r1:=JT hx;have b1:x.row.length=3:=rfl;have k:∀h,bA 3 h (.sl (bP b.im)) (.n (i:Int))=some (.fptr x.row 0):=fun h=>by simp[bA,r1,b1]
  have m:∀h,aB 3 true h (.fptr x.row 0)=some (.agg x.row):=fun h=>by simp[aB,cut,aE,Imp.row]
  have o:IntKind.i64.wrap (l+4)=l+4:=i64_in _ ⟨by omega,by omega⟩;have e:=fun j h=>zT1 (G:=G) P s.p x.pos j h;have I:=fun j h=>XK (G:=G) Q (s:=x.lib) (by omega) j h;have p:=XL x.lib;have v:=fun j h=>RL (G:=G) hN xs j h;have t:aB 8 true (ImH b.cells x) (.ptr 0 0)=some (.agg b.cells):=AM (b:=b) [.cells x.row];have y:aB 1 false (ImH b.cells x) (.ptr 0 2)=some (.str b.img):=aR (l:=0) rfl rfl;have gf:aB 1 false (ImH b.cells x) (.ptr 0 4)=some (.sl (bO b.fx)):=aR (l:=0) rfl rfl;have L:aB 1 false (ImH b.cells x) (.ptr 1 0)=some (.str x.lib):=aR (l:=1) rfl rfl;have O:aB 1 false (ImH b.cells x) (.ptr 1 1)=some (.str x.sym):=aR (l:=1) rfl rfl;have f:aB 1 false (ImH b.cells x) (.ptr 1 2)=some (.n x.pos):=aR (l:=1) rfl rfl;have n:aU 3 [.cells b.cells,.cells [.str [],.str [],.n 0]] (.ptr 1 0) (.agg x.row)=some (ImH b.cells x):=by simp[aU,bK,Imp.row]
  have ih:=zw1 P S Q hN b Y Z R E B C D W T U V A (i+1) x.pos b2 (by omega);have N:=fun ks g hk=>zr6 (G:=G) b s x xp b.cells l i E B C D R (ks:=ks) g hk b.fx 0 rfl (by omega) rfl;have a3:((bO b.fx).length:Int)=b.fx.length:=by simp
  rw[imR]at a;have X:=iS b 1;have fin:∀K tl,bW 1 K=true->trunc 1 K (.cells b.cells::tl)=[.cells b.cells]:=fun K tl g=>sP (a:=[.cells b.cells]) (b:=tl) rfl g (by simp[cV,gD,X]);have a2:(ImH b.cells x).length=2:=rfl;have a1:ImH b.cells x=[.cells b.cells,.cells x.row]:=rfl;refine aJ (Mc.aj_L1.eq_1) ?_;rw[aQ (n:=1) rfl];simp only[kY]at N;generalize hH:ImH b.cells x=d2 at*;generalize e2:bP b.im=RI at*;generalize e1:bO b.fx=RF at*;rcases dD (ltB x.pos (l+4))with c|c
  ·rw[c]at a;simp only[nG,eW]at a;subst a;generalize b.cells=J at*;simp[q,k,m,n,f,o,c,aD,Rs.aj,-aB,-bB]
  ·rw[c]at a;rcases dD (kB x.pos b.pl)with u|u
   ·obtain⟨h0,h4⟩:=zT0 Z u;rw[u]at a e;simp only[iF,eF]at a;have w:=fun j h=>zT2 (G:=G) S h0 h4 s.img j h;generalize(kN b.img x.pos.toNat:Int)=b3 at*;generalize e3:b.cells=J at*;rcases dD (eqB b3 0)with d|d
    ·rw[d]at a;simp only[eF]at a;generalize(if eY x.lib then(0:Int)else 2)=pv at*;rcases dD (eY x.lib)with F|F
     ·rw[F]at a p;simp only[eF]at a;rcases dD (gN x.sym)with H|H
      ·rw[H]at a v;simp only[eF]at a;simp[q,k,m,n,L,O,f,o,c,t,e,y,w,d,I,p,v,gf,aI,a3,a2,-aB,-bB];refine N _ (fun g=>by rw[a,g];rfl) fun g d3=>?_;rw[g,eF]at a;simp[f,hw,-aB];refine cZ ?_;rw[a1,fin _ _ (by simp[bW,low,X,W,T,U,V])];simpa using ih (by omega) a
      ·rw[H]at a v;simp only[eW]at a;subst a;simp[q,k,m,n,L,O,f,o,c,t,e,y,w,d,I,p,v,aD,Rs.aj,-aB,-bB]
     ·rw[F]at a p;simp only[eW]at a;subst a;simp[q,k,m,n,L,f,o,c,t,e,y,w,d,I,p,aD,Rs.aj,-aB,-bB]
    ·rw[d]at a;simp only[eW]at a;subst a;simp[q,k,m,n,f,o,c,t,e,y,w,d,aD,Rs.aj,-aB,-bB]
   ·rw[u]at a e;simp only[eW,nF]at a;subst a;generalize b.cells=J at*;simp[q,k,m,n,f,o,c,t,e,aD,Rs.aj,-aB,-bB]
theorem xx3{G:Gam}(e:G Fn.bk=some (.pure xA))(h:G Fn.bd=some (.pure uS))(f:G Fn.cy=some (.pure xC))(i:G Fn.a0=some (.pure uQ))(hN:G Fn.a5=some (.pure iL)):PW G Mc.aj Rs.aj Ks.aj tC:=by
 intro y r a;unfold tC at a;split at a
 ·rename_i d;split at a
  ·rename_i b k;split at a
   ·rename_i hl;injection a with a;subst a;obtain⟨g,c⟩:=hl;obtain rfl:d=b.cells:=mE k;rw[ZW c];have q:=zw1 (G:=G) e f i hN b g c (zC b) .junk (.sl (bO b.fx)) (.n b.fx.length) (.n b.fx.length) rfl rfl rfl rfl b.im 0 (-4) rfl (by omega) (by omega);have p:=fun o=>zt4 (G:=G) e h f b g c (zC b) (imR b (-4) b.im) (ks:=[.seq (.seq (.reg [Kc 3 (-4)]) (.seq (.seq (.reg [zf 39 5 1,Kl 40 39,Kn 41 1 40,Kc 42 0]) (.blk 2 (.loop [7,9,79,80,81] Mc.aj_L1))) (.seq (.reg [Kb 2 true]) .ret)))]) o b.fx 0 (-4) rfl (by omega) (by omega) rfl;have u:=fun v=>qO (G:=G) b v;have s:∀tl:aA,aB 1 false (.cells b.cells::tl) (.ptr 0 4)=some (.sl (bO b.fx)):=fun tl=>aR (l:=0) rfl rfl;have t:∀tl:aA,aB 1 false (.cells b.cells::tl) (.ptr 0 5)=some (.sl (bP b.im)):=fun tl=>aR (l:=0) rfl rfl;have n:((bP b.im).length:Int)=b.im.length:=by simp
    have m:((bO b.fx).length:Int)=b.fx.length:=by simp
    rw[aM];generalize b.cells=d at*;generalize bP b.im=x at*;generalize bO b.fx=w at*;simp[Mc.aj,Ks.aj,aC,u,s,aI,m,-aB];refine p fun j l A=>?_;simp[t,aI,n,-aB];simpa using q j
   ·cases a
  ·cases a
 ·cases a
theorem zr3{G:Gam}(hN:G Fn.a5=some (.pure iL))(y:G Fn.bd=some (.pure uS))(b:Bin)(g:OkB b)(p:AV)(B:low 1 p=true)(R X:Bool){ks:List MK}(A:R=X->∀l K,exM G .normal ks (aD Rs.aa (.n (if R then 0 else 1))) K [(0,.agg b.cells),(1,.ptr 0 0),(2,.n 0),(3,.str l),(5,.junk),(6,.junk),(8,.junk),(24,p),(56,.sl (bZ b.ex)),(57,.n b.ex.length),(58,.n b.ex.length),(85,.junk),(86,.junk),(87,.junk)] [.cells b.cells]):∀(n:List Expo)(i:Nat)(l:Bs),b.ex.drop i=n->i<=b.ex.length->R=(exR b.pl l n&&X)->cY G [5] Mc.aa_L0 1 (.blk 1::ks) (aD Rs.aa (.n (if R then 0 else 1))) [(0,.agg b.cells),(1,.ptr 0 0),(2,.n 0),(3,.str l),(5,.junk),(6,.junk),(8,.junk),(24,p),(56,.sl (bZ b.ex)),(57,.n b.ex.length),(58,.n i),(85,.junk),(86,.junk),(87,.junk)] [.cells b.cells]
 |[],i,l,v,M,a=>by
  have Y:=drop_nil v;have J:i=b.ex.length:=by omega
  subst J;simp only[exR,eF]at a;have N:=A a;refine aJ (Mc.aa_L0.eq_1) ?_;rw[aQ (n:=1) rfl];generalize b.cells=I at*;simp;exact N _ _|x::n,i,l,v,M,a=>by
  obtain⟨Z,D,P⟩:=eT v;obtain⟨T,xp⟩:=g.ex x (fB D);have V:=g.exl;have q:ltB (i:Int) (b.ex.length:Int)=true:=aO.2 (by omega);have O:=dT (i:=i) (by unfold big;omega);have S:=JG D;have j:∀h,bA 2 h (.sl (bZ b.ex)) (.n (i:Int))=some (.fptr [.str x.sym,.n x.pos] 0):=fun h=>by simp[bA,S,Expo.row]
  have k:∀h,aB 2 true h (.fptr [.str x.sym,.n x.pos] 0)=some (.agg [.str x.sym,.n x.pos]):=fun h=>by simp[aB,cut,aE]
  obtain⟨H,e⟩:∃H:aA,H=[.cells b.cells,.cells [.str x.sym,.n x.pos]]:=⟨_,rfl⟩;have o:aU 2 [.cells b.cells,.cells [.str [],.n 0]] (.ptr 1 0) (.agg [.str x.sym,.n x.pos])=some H:=by rw[e];simp[aU,AV.cells,bK,bE]
  have m:aB 1 false H (.ptr 1 0)=some (.str x.sym):=by rw[e];exact aR (l:=1) rfl rfl
  have F:aB 1 false H (.ptr 1 1)=some (.n x.pos):=by rw[e];exact aR (l:=1) rfl rfl
  have E:aB 8 true H (.ptr 0 0)=some (.agg b.cells):=by rw[e];exact AM (b:=b) _
  have d:=fun w h=>RL (G:=G) hN T w h;have f:=fun w h=>zj7 (G:=G) y g.p x.pos x.sym w h;have Q:=zr3 hN y b g p B R X A n (i+1) x.sym P (by omega);rw[exR]at a;have C:=iS b 1;have fin:∀u,bW 1 u=true->trunc 1 u H=[.cells b.cells]:=fun u L=>by rw[e];exact sP (a:=[.cells b.cells]) (b:=[.cells [.str x.sym,.n x.pos]]) rfl L (by simp[cV,gD,C])
  refine aJ (Mc.aa_L0.eq_1) ?_;rw[aQ (n:=1) rfl];generalize W:b.cells=I at*;generalize bZ b.ex=U at*;rcases dD (gN x.sym)with s|s
  ·rw[s]at a d;rcases dD (Op.bytesLess l x.sym)with c|c
   ·rw[c]at a;rcases dD (pE x.pos x.sym b.pl)with t|t
    ·rw[t]at a f;simp only[eF]at a;simp[q,j,k,o,m,F,E,d,VX,c,f,O,-aB,-bB];refine cZ ?_;rw[fin _ (by simp[bW,low,C,B])];simpa using Q a
    ·rw[t]at a f;simp only[eF,eW]at a;subst a;simp[q,j,k,o,m,F,E,d,VX,c,f,aD,Rs.aa,-aB,-bB]
   ·rw[c]at a;simp only[eF,eW]at a;subst a;simp[q,j,k,o,m,d,VX,c,aD,Rs.aa,-aB,-bB]
  ·rw[s]at a d;simp only[eW]at a;subst a;simp[q,j,k,o,m,d,aD,Rs.aa,-aB,-bB]
abbrev NmH(c:List AV)(a:List Bs):aA:=[.cells c,.arr 1 a.length (kR a) true]
theorem zD5{G:Gam}(hN:G Fn.a5=some (.pure iL))(I:G Fn.bi=some (.pure mL))(b:Bin)(A:OkB b)(P:Bs)(B C D E:AV)(J:low 2 B=true)(K:low 2 C=true)(L:low 2 D=true)(M:low 2 E=true)(R:Bool):∀(t:List (Bs×Bs))(i:Nat)(c:List Bs),b.nt.drop i=t->i<=b.nt.length->c.length=i->R=kT c t->cY G [8] Mc.aa_L1 2 [.blk 3,.seq (.seq (.reg [Kc 2 0]) .ret)] (aD Rs.aa (.n (if R then 0 else 1))) [(0,.agg b.cells),(1,.ptr 0 0),(2,.n 0),(3,.str P),(5,.junk),(6,.own 1 c.length c.length),(8,.junk),(24,B),(56,C),(57,D),(58,E),(85,.sl (dK b.nt)),(86,.n b.nt.length),(87,.n i)] (NmH b.cells c)
 |[],i,c,x,V,X,d=>by
  have b2:=drop_nil x;have U:i=b.nt.length:=by omega
  subst U;simp only[kT]at d;subst d;refine aJ (Mc.aa_L1.eq_1) ?_;rw[aQ (n:=2) rfl];generalize NmH b.cells c=H at*;generalize b.cells=T at*;simp[aD,Rs.aa]|n::t,i,c,x,V,X,d=>by
  obtain⟨b3,O,a1⟩:=eT x;obtain⟨kn,kt⟩:=A.nt n (fB O);have hb:=A.ntl;have q:ltB (i:Int) (b.nt.length:Int)=true:=aO.2 (by omega);have Z:=dT (i:=i) (by unfold big;omega);have r1:=KL O;have o:∀h,bA 2 h (.sl (dK b.nt)) (.n (i:Int))=some (.fptr [.str n.1,.str n.2] 0):=fun h=>by simp[bA,r1,dI]
  have p:∀h,aB 2 true h (.fptr [.str n.1,.str n.2] 0)=some (.agg [.str n.1,.str n.2]):=fun h=>by simp[aB,cut,aE]
  have m:∀e,opV G e (NmH b.cells c) (.alloc [.str [],.str []]) (some [])=some (.ptr 2 0,NmH b.cells c++[.cells [.str [],.str []]]):=fun e=>by rw[eG rfl];rfl
  obtain⟨H,g⟩:∃H:aA,H=[.cells b.cells,.arr 1 c.length (kR c) true,.cells [.str n.1,.str n.2]]:=⟨_,rfl⟩;have u:aU 2 (NmH b.cells c++[.cells [.str [],.str []]]) (.ptr 2 0) (.agg [.str n.1,.str n.2])=some H:=by rw[g];exact SD (h:=NmH b.cells c)
  have p0:∀a,aB 1 false [.cells b.cells,a,.cells [.str n.1,.str n.2]] (.ptr 2 0)=some (.str n.1):=fun a=>aR (l:=2) rfl rfl;have s:aB 1 false H (.ptr 2 0)=some (.str n.1):=by rw[g];exact p0 _
  have Q:aB 1 false H (.ptr 2 1)=some (.str n.2):=by rw[g];exact aR (l:=2) rfl rfl
  have f:=fun e h=>RL (G:=G) hN kn e h;have k:∀e,opV G e H (.call Fn.bi) (some [.own 1 c.length c.length,.str n.1])=some (.bool (c.contains n.1),H):=fun e=>by
   have Y:rowsOf H (.own 1 c.length c.length)=some (kR c):=sL (l:=1) (by rw[g];rfl) (by simp[kR]);refine bF I (us:=[.sl (kR c),.str n.1]) (by simp[bU,view,Y]) ?_ (.inl rfl);simp only[mL,UF];rw[if_pos (by unfold big;omega),PY]
  have W:(c++[n.1]).length=c.length+1:=by simp
  have S:opV G false H (.app false 1 16) (some [.own 1 c.length c.length,.tsl [[.str n.1]]])=some (.own 1 (c++[n.1]).length (c++[n.1]).length,[.cells b.cells,.arr 1 (c++[n.1]).length (kR (c++[n.1])) true,.cells [.str n.1,.str n.2]]):=by
   have:=vY (G:=G) (s:=false) (h:=H) (e:=fun a2:Bs=>[AV.str a2]) (n:=1) (b:=16) (l:=1) (os:=c) (x:=n.1) (by rw[g];rfl) rfl (by omega) (by unfold big;omega);rw[this,g];simp[kR]
  have ih:=zD5 hN I b A P B C D E J K L M R t (i+1) (c++[n.1]) a1 (by omega) (by rw[W];omega);rw[kT]at d;have N:=iS b 2;have fin:∀l tl,bW 2 l=true->trunc 2 l (NmH b.cells (c++[n.1])++tl)=NmH b.cells (c++[n.1]):=fun l tl y=>sP (a:=NmH b.cells (c++[n.1])) (b:=tl) rfl y (by simp[cV,gD,N]);have F:=fun l y=>fin l [.cells [.str n.1,.str n.2]] y;simp only[tL,kZ]at F;refine aJ (Mc.aa_L1.eq_1) ?_;rw[aQ (n:=2) rfl];generalize a3:NmH b.cells c=H0 at*;generalize d1:(c++[n.1]).length=d2 at*;generalize b1:b.cells=T at*;generalize dK b.nt=RN at*;rcases dD (gN n.1)with v|v
  ·rw[v]at d f;rcases dD (c.contains n.1)with w|w
   ·rw[w]at d k;simp only[nG,eW]at d;subst d;simp[q,o,p,m,u,s,f,k,aD,Rs.aa,-aB,-bB,-fQ]
   ·rw[w]at d k;rcases dD (ltB 65536 (n.2.length:Nat))with j|j
    ·rw[j]at d;simp only[nG,iF,eF,eW]at d;subst d;simp[q,o,p,m,u,s,Q,f,k,aI,j,aD,Rs.aa,-aB,-bB,-fQ]
    ·rw[j]at d;simp only[iF,eF]at d;simp[q,o,p,m,u,s,Q,f,k,aI,j,dX,owns,bU,view,dB,fW,bE,AV.cells,S,Z,-aB,-bB,-fQ];refine cZ ?_;rw[F _ (by simp[bW,low,N,J,K,L,M])];simpa using ih d
  ·rw[v]at d f;simp only[nF,eW]at d;subst d;simp[q,o,p,m,u,s,f,aD,Rs.aa,-aB,-bB,-fQ]
theorem zV4{G:Gam}(hP:G Fn.ae=some (.pure tB))(hW:G Fn.aj=some (.pure tC))(hN:G Fn.a5=some (.pure iL))(Z:G Fn.bd=some (.pure uS))(hH:G Fn.bi=some (.pure mL)):PW G Mc.aa Rs.aa Ks.aa kX:=by
 intro b1 r j;unfold kX at j;split at j
 ·rename_i u;split at j
  ·rename_i b hb;split at j
   ·rename_i E;injection j with j;subst j;obtain rfl:u=b.cells:=mE hb;have L:=sH E;have g:=fun q=>qO (G:=G) b q;have f:=AM (b:=b) [];have c:∀q h,opV G q h (.call Fn.ae) (some [.agg b.cells])=some (.bool (iJ b),h):=fun q h=>bF hP (us:=[.agg b.cells]) (qM b h) (by simp only[tB,jK];rw[if_pos E]) (.inl rfl);have l:∀tl:aA,aB 1 false (.cells b.cells::tl) (.ptr 0 0)=some (.n b.kind):=fun tl=>aR (l:=0) rfl rfl;have o:∀tl:aA,aB 1 false (.cells b.cells::tl) (.ptr 0 1)=some (.n b.entry):=fun tl=>aR (l:=0) rfl rfl;have C:∀tl:aA,aB 1 false (.cells b.cells::tl) (.ptr 0 3)=some (.sl (aK b.pl)):=fun tl=>aR (l:=0) rfl rfl;have J:∀tl:aA,aB 1 false (.cells b.cells::tl) (.ptr 0 5)=some (.sl (bP b.im)):=fun tl=>aR (l:=0) rfl rfl;have v:∀tl:aA,aB 1 false (.cells b.cells::tl) (.ptr 0 6)=some (.sl (bZ b.ex)):=fun tl=>aR (l:=0) rfl rfl;have i:∀tl:aA,aB 1 false (.cells b.cells::tl) (.ptr 0 7)=some (.sl (dK b.nt)):=fun tl=>aR (l:=0) rfl rfl;have k:((dK b.nt).length:Int)=(b.nt.length:Int):=by simp
    have w:((bZ b.ex).length:Int)=(b.ex.length:Int):=by simp
    have P:((bP b.im).length:Int)=(b.im.length:Int):=by simp
    obtain⟨R,a⟩:∃R,R=ON b:=⟨_,rfl⟩;have K:gS b=if R then 0 else 1:=by unfold gS;rw[yn7,a]
    rw[K,aM];clear K;unfold ON at a;have nl:opV G false [.cells b.cells] (.newnil 1) (some [])=some (.own 1 0 0,NmH b.cells []):=by rw[eG rfl];rfl
    have a1:(NmH b.cells []).length=2:=rfl;have W:aB 1 false (NmH b.cells []) (.ptr 0 7)=some (.sl (dK b.nt)):=i _;have Q:∀x,low 1 x=true->low 2 x=true->R=(exR b.pl [] b.ex&&kT [] b.nt)->∀y,exM G .normal [.seq (.seq (.reg [Km 3 (.c (.str []))]) (.seq (.seq (.reg [zf 55 6 1,Kl 56 55,Kn 57 1 56,Kc 58 0]) (.blk 1 (.loop [5] Mc.aa_L0))) (.seq (.reg [kz 6 (.newnil 1) []]) (.seq (.seq (.reg [zf 84 7 1,Kl 85 84,Kn 86 1 85,Kc 87 0]) (.blk 3 (.loop [8] Mc.aa_L1))) (.seq (.reg [Kc 2 0]) .ret)))))] (aD Rs.aa (.n (if R then 0 else 1))) y [(0,.agg b.cells),(1,.ptr 0 0),(2,.n 0),(3,.junk),(5,.junk),(6,.junk),(8,.junk),(24,x),(56,.junk),(57,.junk),(58,.junk),(85,.junk),(86,.junk),(87,.junk)] [.cells b.cells]:=by
     intro x X Y F y;have O:=fun l3=>zD5 (G:=G) hN hH b L l3 x (.sl (bZ b.ex)) (.n b.ex.length) (.n b.ex.length) Y rfl rfl rfl R b.nt 0 [] rfl (by omega) rfl;have N:=fun ks hk=>zr3 (G:=G) hN Z b L x X R (kT [] b.nt) (ks:=ks) hk b.ex 0 [] rfl (by omega) F;simp only[gQ,kY]at O N;have V:=v [];generalize NmH b.cells []=H2 at*;generalize b.cells=u at*;generalize bZ b.ex=S at*;generalize dK b.nt=I at*;simp[V,aI,w,-aB];refine N _ fun hR b2 y=>?_;simp[nl,W,a1,aI,k,-aB];simpa using O _ hR
    rcases dD (iJ b)with s|s
    ·have d:∀q h,opV G q h (.call Fn.aj) (some [.agg b.cells])=some (.bool (oO b),h):=fun q h=>bF hW (us:=[.agg b.cells]) (qM b h) (by simp only[tC,jK];rw[if_pos ⟨E,s⟩]) (.inl rfl);rw[ZW s]at d;rw[s]at c a;obtain⟨p,r,M⟩:∃p r,b.pl=p::r:=by
      have:=(nM s).1.1;cases h:b.pl with
      |nil=>rw[h]at this;simp at this|cons p r=>exact⟨p,r,rfl⟩
     have a2:aK b.pl=p.row::aK r:=by rw[M];rfl
     have a3:p.row.length=5:=rfl;have H:∀h,bA 5 h (.sl (aK b.pl)) (.n 0)=some (.fptr p.row 0):=fun h=>by rw[a2];simp[bA,a3]
     have D:∀h,aB 1 false h (.fptr p.row 2)=some (.n p.kd):=fun h=>by simp[aB,cut,aE,Plc.row]
     have hh:(b.pl.head?.any fun p=>eqB p.kd 1)=eqB p.kd 1:=by rw[M];rfl
     have zl:∀n:Nat,ltB 0 (n:Int)=!eqB (n:Int) 0:=fun n=>by cases n with
      |zero=>rfl|succ m=>
       have T:ltB 0 ((m+1:Nat):Int)=true:=aO.2 (by omega);have U:eqB ((m+1:Nat):Int) 0=false:=eU.2 (by omega);rw[T,U];rfl
     have A:=zl b.ex.length;have zm:=zl b.im.length;rw[hh,<-QR,<-QR]at a;rcases dD (zC b)with B|B
     ·rw[B]at d a;rcases dD (ltB 64 (b.nt.length:Nat))with e|e
      ·rw[e]at a;simp only[nG,nF,eW]at a;subst a;generalize b.cells=u at*;generalize dK b.nt=I at*;simp[Mc.aa,Ks.aa,aC,g,f,c,d,i,aI,k,e,aD,Rs.aa,-aB]
      ·rw[e]at a;simp only[iF,eF]at a;have tl:=fun F y=>Q (.n b.kind) rfl rfl F y;clear Q;generalize b.cells=u at*;generalize aK b.pl=RP at*;generalize bP b.im=RI at*;generalize bZ b.ex=S at*;generalize dK b.nt=I at*;generalize(b.ex.length:Int)=nx at*;generalize(b.im.length:Int)=nm at*;generalize(b.nt.length:Int)=nn at*;rcases dD (eqB b.kind 1)with k1|k1
       ·have k2:eqB b.kind 2=false:=by rw[gW]at k1;exact eU.2 (by omega)
        rw[k1,k2]at a;rcases dD (eqB b.entry 0)with k3|k3
        ·rw[k3]at a;rcases dD (eqB p.kd 1)with k4|k4
         ·rw[k4]at a;rcases dD (eqB nx 0)with k5|k5
          ·rw[k5]at a A;have t:=tl (by simpa using a) [];simp[v,aI,w,-aB]at t;simp[Mc.aa,Ks.aa,aC,g,f,c,d,l,o,C,v,i,H,D,aI,k,w,e,k1,k3,k4,A,-aB];exact t
          ·rw[k5]at a A;have:R=false:=by rw[a];simp
           subst this;simp[Mc.aa,Ks.aa,aC,g,f,c,d,l,o,C,v,i,H,D,aI,k,w,e,k1,k3,k4,A,aD,Rs.aa,-aB]
         ·rw[k4]at a;have:R=false:=by rw[a];simp
          subst this;simp[Mc.aa,Ks.aa,aC,g,f,c,d,l,o,C,i,H,D,aI,k,e,k1,k3,k4,aD,Rs.aa,-aB]
        ·rw[k3]at a;have:R=false:=by rw[a];simp
         subst this;simp[Mc.aa,Ks.aa,aC,g,f,c,d,l,o,i,aI,k,e,k1,k3,aD,Rs.aa,-aB]
       ·rw[k1]at a;rcases dD (eqB b.kind 2)with k2|k2
        ·rw[k2]at a;rcases dD (eqB b.entry (-1))with k3|k3
         ·rw[k3]at a;rcases dD (eqB nm 0)with k4|k4
          ·rw[k4]at a zm;have t:=tl (by simpa using a) [];simp[v,aI,w,-aB]at t;simp[Mc.aa,Ks.aa,aC,g,f,c,d,l,o,J,v,i,aI,k,P,w,e,k1,k2,k3,zm,-aB];exact t
          ·rw[k4]at a zm;have:R=false:=by rw[a];simp
           subst this;simp[Mc.aa,Ks.aa,aC,g,f,c,d,l,o,J,i,aI,k,P,e,k1,k2,k3,zm,aD,Rs.aa,-aB]
         ·rw[k3]at a;have:R=false:=by rw[a];simp
          subst this;simp[Mc.aa,Ks.aa,aC,g,f,c,d,l,o,i,aI,k,e,k1,k2,k3,aD,Rs.aa,-aB]
        ·rw[k2]at a;have:R=false:=by rw[a];simp
         subst this;simp[Mc.aa,Ks.aa,aC,g,f,c,d,l,i,aI,k,e,k1,k2,aD,Rs.aa,-aB]
     ·rw[B]at d a;simp only[nF,eW]at a;subst a;generalize b.cells=u at*;simp[Mc.aa,Ks.aa,aC,g,f,c,d,aD,Rs.aa,-aB]
    ·rw[s]at c a;simp only[eW]at a;subst a;generalize b.cells=u at*;simp[Mc.aa,Ks.aa,aC,g,f,c,aD,Rs.aa,-aB]
   ·cases j
  ·cases j
 ·cases j
def RH(z bc:List AV)(r:Rd)(tl:aA):aA:=.cells z::.cells z8::bR none r::.cells bc::tl
def OW(tl:aA)(c:Nat)(a:List (List AV))(x:AV):Prop:=(a=[]/\x=.nils)\/∃l v,a≠[]/\x=.own (4+l) v a.length/\tl[l]?=some (.arr c v a true)
section
variable{G:Gam}{z bc:List AV}{r r':Rd}{tl:aA}{b b':Blk}
theorem DL:(RH z bc r tl).length=4+tl.length:=by simp[RH];omega
theorem NM:(RH z bc r tl)[2]?=some (bR none r):=rfl
theorem HN:aB 1 false (RH z bc r tl) (.ptr 2 1)=some (.n r.err):=aR (l:=2) rfl rfl
theorem HP:RH z bc r tl++[b]=RH z bc r (tl++[b]):=rfl
theorem SX{l:Nat}:(RH z bc r tl)[4+l]?=tl[l]?:=by
 unfold RH;rw[show 4+l=l+1+1+1+1 by omega];simp
theorem zg7{l:Nat}:(RH z bc r tl).set (4+l) b=RH z bc r (tl.set l b):=by
 unfold RH;rw[show 4+l=l+1+1+1+1 by omega];simp
theorem uW{f:FuncId}(hT:G f=some (.gen lW))(a:r.rest.length<=1000000)(m:Int):opV G false (RH z bc r tl) (.call f) (some [.ptr 2 0,.n m])=some (.str (bG m r).1,RH z bc (bG m r).2 tl):=by
 rw[eX hT];simp only[lW,NM,bR];rw[if_pos a];rfl
theorem xG{f:FuncId}(hN:G f=some (.gen gP))(d:r.rest.length<=1000000)(c a:Int)(e:Bool):opV G e (RH z bc r tl) (.callg f) (some [.ptr 2 0,.n c,.n a])=some (.n (rdNum c a r).1,RH z bc (rdNum c a r).2 tl):=by
 rw[WV hN];simp only[gP,NM,bR];rw[if_pos d];rfl
theorem xF{k:Nat}{v:AV}(a:v.cells=[v])(c:bE v=true)(f:k<bc.length):aU 1 (RH z bc r tl) (.ptr 3 k) v=some (RH z (bc.set k v) r tl):=by
 have e:k+1<=bc.length:=by omega
 have d:(RH z bc r tl)[3]?=some (.cells bc):=rfl;simp[aU,a,c,d,e,bK];rfl
theorem HL{k:Nat}{v:AV}(h:bc[k]?=some v):aB 1 false (RH z bc r tl) (.ptr 3 k)=some v:=aR (l:=3) rfl h
theorem yc5(h:bc.length=8):aB 8 true (RH z bc r tl) (.ptr 3 0)=some (.agg bc):=by
 have a:cut bc 0 8=bc:=AP h;have c:(RH z bc r tl)[3]?=some (.cells bc):=rfl;simp only[aB,c];rw[a];simp[aE,h]
theorem yc6:aB 8 true (RH z bc r tl) (.ptr 1 0)=some (.agg z8):=by
 have a:(RH z bc r tl)[1]?=some (.cells z8):=rfl;simp only[aB,a];rfl
theorem zg8{a:List AV}(d:z.length=8)(h:a.length=8)(c:a.all bE=true):aU 8 (RH z bc r tl) (.ptr 0 0) (.agg a)=some (RH a bc r tl):=by
 have:=nP (h:=RH z bc r tl) (l:=0) (n:=8) (vs:=z) (us:=a) rfl d h (by omega) c;rw[this];rfl
theorem zg6(h:z.length=8):aB 8 true (RH z bc r tl) (.ptr 0 0)=some (.agg z):=by
 have a:cut z 0 8=z:=AP h;have c:(RH z bc r tl)[0]?=some (.cells z):=rfl;simp only[aB,c];rw[a];simp[aE,h]
theorem SY{a:List AV}:(RH z bc r (tl++[.cells a]))[4+tl.length]?=some (.cells a):=by rw[SX];simp
theorem zg5{a:List AV}:(RH z bc r (tl++[b'])).set (4+tl.length) (.cells a)=RH z bc r (tl++[.cells a]):=by rw[zg7,lZ _ _ (dA _)];simp
theorem NL{c a:List AV}{n:Nat}(e:c.length=n)(f:a.length=n)(d:0<n)(g:a.all bE=true):aU n (RH z bc r (tl++[.cells c])) (.ptr (4+tl.length) 0) (.agg a)=some (RH z bc r (tl++[.cells a])):=by
 have:=nP (h:=RH z bc r (tl++[.cells c])) (l:=4+tl.length) (n:=n) (vs:=c) (us:=a) SY e f d g;rw[this,zg5]
theorem qH{a:List AV}{k:Nat}{v:AV}(c:v.cells=[v])(d:bE v=true)(f:k<a.length):aU 1 (RH z bc r (tl++[.cells a])) (.ptr (4+tl.length) k) v=some (RH z bc r (tl++[.cells (a.set k v)])):=by
 have e:k+1<=a.length:=by omega
 simp[aU,c,d,SY,e,bK,zg5]
theorem NK{a:List AV}{n:Nat}(h:a.length=n)(_:1<n):aB n true (RH z bc r (tl++[.cells a])) (.ptr (4+tl.length) 0)=some (.agg a):=by
 have c:cut a 0 n=a:=AP h;simp only[aB,SY];rw[c];simp[aE,h]
theorem DK{d:Nat}{c:List (List AV)}{x:AV}(h:OW tl d c x):OW (tl++[b]) d c x:=by
 rcases h with h|⟨l,v,e,f,a⟩;·exact .inl h
 ·exact .inr ⟨l,v,e,f,by rw[gC (aV.1 a).1];exact a⟩
theorem tF{c:Nat}{a:List (List AV)}{x:AV}(h:OW tl c a x):x.cells=[x]/\bE x=true:=by rcases h with⟨_,rfl⟩|⟨l,v,_,rfl,_⟩<;>exact⟨rfl,rfl⟩
theorem HK{c:Nat}{a:List (List AV)}{x:AV}(h:OW tl c a x):view (RH z bc r tl) x=some (.sl a):=by
 rcases h with⟨rfl,rfl⟩|⟨l,v,e,rfl,d⟩;·rfl
 ·have hl:(RH z bc r tl)[4+l]?=some (.arr c v a true):=by rw[SX];exact d
  simp only[view,sL hl rfl,fC]
theorem HJ{c byt:Nat}{a:List (List AV)}{x:AV}{row:List AV}(h:OW tl c a x)(o:row.length=c)(B:a.length<=100000)(e:byt<=64)(z bc:List AV)(r:Rd):∃q n,(∀m,opV G m (RH z bc r tl) (.app false c byt) (some [x,.tsl [row]])=some (q,RH z bc r n))/\OW n c (a++[row]) q/\(∀g f y,(f=[]\/g≠c\/f≠a)->OW tl g f y->OW n g f y):=by
 rcases h with⟨rfl,rfl⟩|⟨l,v,A,rfl,j⟩
 ·refine⟨.own (4+tl.length) 0 1,tl++[.arr c 0 [row] true],fun m=>?_,.inr ⟨tl.length,0,by simp,rfl,by simp⟩,fun g f y _ e=>DK e⟩;rw[eG rfl];have k:byt<=bT:=by unfold bT;omega
  have i:(1:Nat)<=bT:=by unfold bT;omega
  simp[cG,kF,rowsOf,dB,o,lN,k,i,DL,HP]
 ·refine⟨.own (4+l) (v+1) (a.length+1),tl.set l (.arr c (v+1) (a++[row]) true),fun m=>?_,?_,?_⟩
  ·rw[eG rfl];have hl:(RH z bc r tl)[4+l]?=some (.arr c v a true):=by rw[SX];exact j
   have k:(a.length+1)*byt<=bT:=by
    have:(a.length+1)*byt<=100001*64:=Nat.mul_le_mul (by omega) e;unfold bT;omega
   have i:a.length+1<=bT:=by unfold bT;omega
   simp[cG,kF,rowsOf,dB,o,lN,hl,k,i,zg7]
  ·have s:=(aV.1 j).1;exact .inr ⟨l,v+1,by simp,by simp,by rw[jI s]⟩
  ·intro g f y d e;rcases e with e|⟨p,w,k1,rfl,k3⟩;·exact .inl e
   ·refine .inr ⟨p,w,k1,rfl,?_⟩;have:l≠p:=by
     rintro rfl;rw[j]at k3;simp at k3;obtain⟨t,C,u⟩:=k3;rcases d with d|d|d;·exact k1 d
     ·exact d t.symm
     ·exact d u.symm
    rw[lL this];exact k3
theorem zg9{N:Nat}{fr:List (Nat×AV)}(hN:4<=N):∃j,trunc N fr (RH z bc r tl)=RH z bc r j/\∀i d x,x∈bc->OW tl i d x->OW j i d x:=by
 obtain⟨M,rfl⟩:∃M,N=M+1+1+1+1:=⟨N-4,by omega⟩;unfold trunc;split
 ·rename_i h;rw[bS]at h;refine⟨tl.take M,rfl,fun i d x o g=>?_⟩;rcases g with g|⟨l,v,k,rfl,m⟩;·exact .inl g
  ·have n:bN (M+1+1+1+1) bc=true:=by
    have:=h.2;simp only[RH,List.take_succ_cons,cV,gD,bS]at this;exact this.2.2.2.1
   have hl:low (M+1+1+1+1) (.own (4+l) v d.length)=true:=by
    have q:∀(c:List AV)(y:AV),bN (M+1+1+1+1) c=true->y∈c->low (M+1+1+1+1) y=true:=by
     intro c;induction c with
     |nil=>intro y _ h;cases h|cons a t p=>
      intro y e f;simp only[bN,bS]at e;rcases fE.1 f with rfl|f;·exact e.1
      ·exact p y e.2 f
    exact q bc _ n o
   simp only[low,fU]at hl;exact .inr ⟨l,v,k,rfl,by rw[fZ,if_pos (by omega)];exact m⟩
 ·exact⟨tl,rfl,fun _ _ _ _ h=>h⟩
end
theorem tG{G:Gam}{z bc:List AV}{r:Rd}{tl:aA}{N:Nat}{a:List (Nat×AV)}{c:MC}{d:List MK}{Q:aY}(hN:4<=N)(h:∀tl2,(∀f e x,x∈bc->OW tl f e x->OW tl2 f e x)->goM G c d Q [] a (RH z bc r tl2)):goM G c d Q [] a (trunc N a (RH z bc r tl)):=by
 obtain⟨tl2,g,i⟩:=zg9 (z:=z) (bc:=bc) (r:=r) (tl:=tl) (fr:=a) hN;rw[g];exact h tl2 i
theorem HO{G:Gam}{z bc:List AV}{r:Rd}{tl:aA}{N:Nat}{a:List (Nat×AV)}{d:List Nat}{c:MC}{e:List MK}{Q:aY}(hN:4<=N)(h:∀tl2,(∀g f x,x∈bc->OW tl g f x->OW tl2 g f x)->cY G d c N e Q a (RH z bc r tl2)):cY G d c N e Q a (trunc N a (RH z bc r tl)):=by
 obtain⟨tl2,i,j⟩:=zg9 (z:=z) (bc:=bc) (r:=r) (tl:=tl) (fr:=a) hN;rw[i];exact h tl2 j
structure RInv(tl:aA)(b:Bin)(x3 x4 x5 x6 x7:AV):Prop where
 i3:OW tl 5 (aK b.pl) x3
 i4:OW tl 1 (bO b.fx) x4
 i5:OW tl 3 (bP b.im) x5
 i6:OW tl 2 (bZ b.ex) x6
 i7:OW tl 2 (dK b.nt) x7
abbrev bcL(b:Bin)(a c d e f:AV):List AV:=[.n b.kind,.n b.entry,.str b.img,a,c,d,e,f]
theorem RInv.cut{tl k:aA}{b:Bin}{c d e f g:AV}(h:RInv tl b c d e f g)(a:∀j i x,x∈bcL b c d e f g->OW tl j i x->OW k j i x):RInv k b c d e f g:=⟨a _ _ _ (by simp) h.i3,a _ _ _ (by simp) h.i4,a _ _ _ (by simp) h.i5,a _ _ _ (by simp) h.i6,a _ _ _ (by simp) h.i7⟩
theorem RInv.snoc{tl:aA}{b:Bin}{a d e f g:AV}{c:Blk}(h:RInv tl b a d e f g):RInv (tl++[c]) b a d e f g:=⟨DK h.i3,DK h.i4,DK h.i5,DK h.i6,DK h.i7⟩
def CW:List AV->aA->Option (AV×aA)
 |[.ptr l 0],h=>gP [.ptr l 0,.n 0,.n 65536] h|_,_=>none
theorem ys8{G:Gam}(hN:G Fn.ak=some (.gen gP)):GW G Mc.cv Rs.cv Ks.cv CW:=by
 intro e h r d a;unfold CW at a;split at a
 ·rename_i l;have c:opV G false h (.call Fn.ak) (some [.ptr l 0,.n 0,.n 65536])=some (r,d):=by rw[eX hN,a]
  rw[aM];simp[Mc.cv,aC,Ks.cv,c,dM,Rs.cv,dS,eZ,fK]
 ·cases a
theorem HM{G:Gam}(a:G Fn.cv=some (.gen CW)){z bc:List AV}{r:Rd}{tl:aA}(c:r.rest.length<=1000000):opV G false (RH z bc r tl) (.call Fn.cv) (some [.ptr 2 0])=some (.n (rdNum 0 65536 r).1,RH z bc (rdNum 0 65536 r).2 tl):=by
 rw[eX a];simp only[CW,gP,NM,bR];rw[if_pos c];rfl
theorem yy2{a:List Expo}{b:List (Bs×Bs)}:bZ a=[]\/(2:Nat)≠2\/bZ a≠dK b:=by cases a with
 |nil=>exact .inl rfl|cons x r=>
  refine .inr (.inr ?_);cases b with
  |nil=>simp[bZ,dK]|cons y t=>simp[bZ,dK,Expo.row,dI]
theorem zI2{G:Gam}(hT:G Fn.ah=some (.gen lW))(hN:G Fn.ak=some (.gen gP)){g1:Nat}(H:4<=g1)(c1 U:Bs)(n:Nat)(hn:n<=65536)(c3 d1 d2 d3 f1 f2 f3:AV)(l:Bin)(M:List Plc)(rf:Rd){ks:List MK}{g2:aY}(W:∀D(i':Int)j d e f g tl,RInv tl {l with pl:=M} j d e f g->exM G .normal ks g2 D [(0,.str c1),(2,.ptr 0 0),(3,.n 0),(4,.ptr 1 0),(5,.ptr 2 0),(6,.ptr 3 0),(7,.str U),(8,.n n),(9,.n i'),(10,.junk),(11,c3),(12,d1),(13,d2),(14,d3),(15,f1),(16,f2),(17,f3)] (RH z8 (bcL l j d e f g) rf tl)):∀(k i:Nat)(r:Rd)(u:List Plc)(j d e f g:AV)(tl:aA),i+k=n->u.length<=i->r.rest.length<=1000000->RInv tl {l with pl:=u} j d e f g->u++(aS (eK 2) k r).1=M->(aS (eK 2) k r).2=rf->cY G [10] Mc.af_L0 g1 (.blk 0::ks) g2 [(0,.str c1),(2,.ptr 0 0),(3,.n 0),(4,.ptr 1 0),(5,.ptr 2 0),(6,.ptr 3 0),(7,.str U),(8,.n n),(9,.n i),(10,.junk),(11,c3),(12,d1),(13,d2),(14,d3),(15,f1),(16,f2),(17,f3)] (RH z8 (bcL l j d e f g) r tl)
 |0,i,r,u,j,d,e,f,g,l1,hi,j2,Y,V,w,x=>by
  have q:ltB (i:Int) (n:Int)=false:=bC.2 (by omega);simp only[aS,dY]at w x;subst w x;refine aJ (Mc.af_L0.eq_1) ?_;refine tG H fun tl Z=>?_;have J:RInv tl {l with pl:=u} j d e f g:=V.cut Z;have X:=fun D=>W D i j d e f g tl J;generalize RH z8 (bcL l j d e f g) r tl=h2 at*;simp[bM,q];simpa using X _|k+1,i,r,u,j,d,e,f,g,l1,hi,j2,Y,V,w,x=>by
  have q:ltB (i:Int) (n:Int)=true:=aO.2 (by omega);have hw:=dT (i:=i) (by unfold big;omega);refine aJ (Mc.af_L0.eq_1) ?_;refine tG H fun tl Z=>?_;have J:RInv tl {l with pl:=u} j d e f g:=V.cut Z;have T:=HN (z:=z8) (bc:=bcL l j d e f g) (r:=r) (tl:=tl);by_cases I:r.err=0
  ·rw[I]at T;obtain⟨m,y,N⟩:∃a q,bG 65536 r=(a,q):=⟨_,_,rfl⟩;have b1:y.rest.length<=1000000:=by have:=kV 65536 r Y;rw[N]at this;exact this
   obtain⟨o,A,O⟩:∃a q,bG 65536 y=(a,q):=⟨_,_,rfl⟩;have b2:A.rest.length<=1000000:=by have:=kV 65536 y b1;rw[O]at this;exact this
   obtain⟨p,B,P⟩:∃a q,rdNum 0 2 A=(a,q):=⟨_,_,rfl⟩;have b3:B.rest.length<=1000000:=by have:=gA 0 2 A b2;rw[P]at this;exact this
   obtain⟨s,C,Q⟩:∃a q,rdNum 0 65536 B=(a,q):=⟨_,_,rfl⟩;have b4:C.rest.length<=1000000:=by have:=gA 0 65536 B b3;rw[Q]at this;exact this
   obtain⟨t,v,S⟩:∃a q,rdNum 0 65536 C=(a,q):=⟨_,_,rfl⟩;have b5:v.rest.length<=1000000:=by have:=gA 0 65536 C b4;rw[S]at this;exact this
   have eo:(eK 2) r=(⟨m,o,p,s,t⟩,v):=by simp only[eK,N,O,P,Q,S]
   rw[aS,if_neg (by simpa using I),eo]at w x;simp only at w x;have i2:u++[⟨m,o,p,s,t⟩]++(aS (eK 2) k v).1=M:=by rw[<-w];simp
   have k1:=uW (G:=G) (z:=z8) (bc:=(bcL l j d e f g)) (r:=r) (tl:=(tl++[.cells [.str [],.str [],.n 0,.n 0,.n 0]])) hT Y 65536;rw[N]at k1;have t1:aU 1 (RH z8 (bcL l j d e f g) y (tl++[.cells [.str [],.str [],.n 0,.n 0,.n 0]])) (.ptr (4+tl.length) 0) (.str m)=some (RH z8 (bcL l j d e f g) y (tl++[.cells [.str m,.str [],.n 0,.n 0,.n 0]])):=qH rfl rfl (by simp);have k2:=uW (G:=G) (z:=z8) (bc:=(bcL l j d e f g)) (r:=y) (tl:=(tl++[.cells [.str m,.str [],.n 0,.n 0,.n 0]])) hT b1 65536;rw[O]at k2;have K:aU 1 (RH z8 (bcL l j d e f g) A (tl++[.cells [.str m,.str [],.n 0,.n 0,.n 0]])) (.ptr (4+tl.length) 1) (.str o)=some (RH z8 (bcL l j d e f g) A (tl++[.cells [.str m,.str o,.n 0,.n 0,.n 0]])):=qH rfl rfl (by simp);have k3:=xG (G:=G) (z:=z8) (bc:=(bcL l j d e f g)) (r:=A) (tl:=(tl++[.cells [.str m,.str o,.n 0,.n 0,.n 0]])) hN b2 0 2;rw[P]at k3;have t3:aU 1 (RH z8 (bcL l j d e f g) B (tl++[.cells [.str m,.str o,.n 0,.n 0,.n 0]])) (.ptr (4+tl.length) 2) (.n p)=some (RH z8 (bcL l j d e f g) B (tl++[.cells [.str m,.str o,.n p,.n 0,.n 0]])):=qH rfl rfl (by simp);have k4:=xG (G:=G) (z:=z8) (bc:=(bcL l j d e f g)) (r:=B) (tl:=(tl++[.cells [.str m,.str o,.n p,.n 0,.n 0]])) hN b3 0 65536;rw[Q]at k4;have t4:aU 1 (RH z8 (bcL l j d e f g) C (tl++[.cells [.str m,.str o,.n p,.n 0,.n 0]])) (.ptr (4+tl.length) 3) (.n s)=some (RH z8 (bcL l j d e f g) C (tl++[.cells [.str m,.str o,.n p,.n s,.n 0]])):=qH rfl rfl (by simp);have k5:=xG (G:=G) (z:=z8) (bc:=(bcL l j d e f g)) (r:=C) (tl:=(tl++[.cells [.str m,.str o,.n p,.n s,.n 0]])) hN b4 0 65536;rw[S]at k5;have t5:aU 1 (RH z8 (bcL l j d e f g) v (tl++[.cells [.str m,.str o,.n p,.n s,.n 0]])) (.ptr (4+tl.length) 4) (.n t)=some (RH z8 (bcL l j d e f g) v (tl++[.cells [.str m,.str o,.n p,.n s,.n t]])):=qH rfl rfl (by simp);have t0:aU 5 (RH z8 (bcL l j d e f g) r (tl++[.cells [.str [],.str [],.n 0,.n 0,.n 0]])) (.ptr (4+tl.length) 0) (.agg [.str [],.str [],.n 0,.n 0,.n 0])=some (RH z8 (bcL l j d e f g) r (tl++[.cells [.str [],.str [],.n 0,.n 0,.n 0]])):=NL rfl rfl (by omega) rfl;have lc:aB 5 true (RH z8 (bcL l j d e f g) v (tl++[.cells [.str m,.str o,.n p,.n s,.n t]])) (.ptr (4+tl.length) 0)=some (.agg [.str m,.str o,.n p,.n s,.n t]):=NK rfl (by omega);have al:∀st,opV G st (RH z8 (bcL l j d e f g) r tl) (.alloc [.str [],.str [],.n 0,.n 0,.n 0]) (some [])=some (.ptr (4+tl.length) 0,RH z8 (bcL l j d e f g) r (tl++[.cells [.str [],.str [],.n 0,.n 0,.n 0]])):=fun st=>by rw[eG rfl,<-HP,<-DL (z:=z8) (bc:=(bcL l j d e f g)) (r:=r)];rfl
   have E:=J.snoc (c:=.cells [.str m,.str o,.n p,.n s,.n t]);obtain⟨L,c2,a1,a2,F⟩:=HJ (G:=G) (byt:=56) (row:=Plc.row ⟨m,o,p,s,t⟩) E.i3 rfl (by simp only[xe9];omega) (by omega) z8 (bcL l j d e f g) v;have h1:=tF a2;have i3:RInv c2 {l with pl:=u++[⟨m,o,p,s,t⟩]} L d e f g:=⟨(by have h3:aK u++[Plc.row ⟨m,o,p,s,t⟩]=aK (u++[⟨m,o,p,s,t⟩]):=(by simp[aK]);rw[<-h3];exact a2),F _ _ _ (.inr (.inl (by omega))) E.i4,F _ _ _ (.inr (.inl (by omega))) E.i5,F _ _ _ (.inr (.inl (by omega))) E.i6,F _ _ _ (.inr (.inl (by omega))) E.i7⟩;have lb:∀r K,aB 1 false (RH z8 (bcL l j d e f g) r K) (.ptr 3 3)=some j:=fun r K=>HL rfl;have sb:aU 1 (RH z8 (bcL l j d e f g) v c2) (.ptr 3 3) L=some (RH z8 (bcL l L d e f g) v c2):=by rw[xF h1.1 h1.2 (by simp)];rfl
   have i1:∀h,opV G false h (.bsl false 5) (some [.agg [.str m,.str o,.n p,.n s,.n t]])=some (.tsl [Plc.row ⟨m,o,p,s,t⟩],h):=fun h=>by simp[dX,owns,bU,view,dB,fW,bE,AV.cells,Plc.row]
   simp[bM,q,T,k1,t1,k2,K,k3,t3,k4,t4,k5,t5,t0,lc,al,lb,i1,a1,sb,hw,eO,-aB,-bB,-fQ,-kI];refine cZ ?_;refine HO H fun tl2 j1=>?_;have j3:=zI2 hT hN H c1 U n hn c3 d1 d2 d3 f1 f2 f3 l M rf W k (i+1) v (u++[⟨m,o,p,s,t⟩]) L d e f g tl2 (by omega) (by simp;omega) b5 (i3.cut j1) i2 x;simp[bM];simpa using j3
  ·have qe:eqB r.err 0=false:=eU.2 I;rw[aS,if_pos I]at w x;simp only[dY]at w x;subst w x;have X:=fun D=>W D i j d e f g tl J;generalize RH z8 (bcL l j d e f g) r tl=h2 at*;simp[bM,q,T,qe,-aB];simpa using X _
theorem zI3{G:Gam}(hT:G Fn.ah=some (.gen lW))(hN:G Fn.ak=some (.gen gP)){N:Nat}(w:4<=N)(s E:Bs)(n:Nat)(hn:n<=65536)(Y P S T U V W X:AV)(g:Bin)(B:List Int)(L:Rd){ks:List MK}{Q:aY}(H:∀t(i':Int)a f c d e tl,RInv tl {g with fx:=B} a f c d e->exM G .normal ks Q t [(0,.str s),(2,.ptr 0 0),(3,.n 0),(4,.ptr 1 0),(5,.ptr 2 0),(6,.ptr 3 0),(7,.str E),(8,.n n),(9,Y),(10,P),(11,.n i'),(12,S),(13,T),(14,U),(15,V),(16,W),(17,X)] (RH z8 (bcL g a f c d e) L tl)):∀(k i:Nat)(r:Rd)(j:List Int)(a f c d e:AV)(tl:aA),i+k=n->j.length<=i->r.rest.length<=1000000->RInv tl {g with fx:=j} a f c d e->j++(aS fI k r).1=B->(aS fI k r).2=L->cY G [] Mc.af_L1 N (.blk 2::ks) Q [(0,.str s),(2,.ptr 0 0),(3,.n 0),(4,.ptr 1 0),(5,.ptr 2 0),(6,.ptr 3 0),(7,.str E),(8,.n n),(9,Y),(10,P),(11,.n i),(12,S),(13,T),(14,U),(15,V),(16,W),(17,X)] (RH z8 (bcL g a f c d e) r tl)
 |0,i,r,j,a,f,c,d,e,f1,hi,e2,J,F,m,o=>by
  have q:ltB (i:Int) (n:Int)=false:=bC.2 (by omega);simp only[aS,dY]at m o;subst m o;refine aJ (Mc.af_L1.eq_1) ?_;refine tG w fun tl K=>?_;have y:RInv tl {g with fx:=j} a f c d e:=F.cut K;have I:=fun t=>H t i a f c d e tl y;generalize RH z8 (bcL g a f c d e) r tl=b3 at*;simp[bM,q];simpa using I _|k+1,i,r,j,a,f,c,d,e,f1,hi,e2,J,F,m,o=>by
  have q:ltB (i:Int) (n:Int)=true:=aO.2 (by omega);have hw:=dT (i:=i) (by unfold big;omega);refine aJ (Mc.af_L1.eq_1) ?_;refine tG w fun tl K=>?_;have y:RInv tl {g with fx:=j} a f c d e:=F.cut K;have D:=HN (z:=z8) (bc:=bcL g a f c d e) (r:=r) (tl:=tl);by_cases x:r.err=0
  ·rw[x]at D;obtain⟨l,p,C⟩:∃c1 q,rdNum 0 65536 r=(c1,q):=⟨_,_,rfl⟩;have b1:p.rest.length<=1000000:=by have:=gA 0 65536 r J;rw[C]at this;exact this
   have eo:fI r=(l,p):=by simp only[fI,C]
   rw[aS,if_neg (by simpa using x),eo]at m o;simp only at m o;have d1:j++[l]++(aS fI k p).1=B:=by rw[<-m];simp
   have k1:=xG (G:=G) (z:=z8) (bc:=(bcL g a f c d e)) (r:=r) (tl:=tl) hN J 0 65536;rw[C]at k1;have u:=y;obtain⟨A,O,a1,Z,v⟩:=HJ (G:=G) (byt:=8) (row:=eC l) u.i4 rfl (by simp only[yA0];omega) (by omega) z8 (bcL g a f c d e) p;have b2:=tF Z;have d2:RInv O {g with fx:=j++[l]} a A c d e:=⟨v _ _ _ (.inr (.inl (by omega))) u.i3,(by have c2:bO j++[eC l]=bO (j++[l]):=(by simp[bO]);rw[<-c2];exact Z),v _ _ _ (.inr (.inl (by omega))) u.i5,v _ _ _ (.inr (.inl (by omega))) u.i6,v _ _ _ (.inr (.inl (by omega))) u.i7⟩;have lb:∀r t2,aB 1 false (RH z8 (bcL g a f c d e) r t2) (.ptr 3 4)=some f:=fun r t2=>HL rfl;have sb:aU 1 (RH z8 (bcL g a f c d e) p O) (.ptr 3 4) A=some (RH z8 (bcL g a A c d e) p O):=by rw[xF b2.1 b2.2 (by simp)];rfl
   have c3:∀M h,opV G M h (.bsl false 1) (some [.n l])=some (.tsl [eC l],h):=fun M h=>by
    cases M;·simp[dX,owns,bU,view,dB,fW,bE,AV.cells,eC]
    ·show(jL G h (.bsl false 1) [.n l]).map (fun f2=>(f2,h))=_;simp[jL,AO.quiet,dX,owns,bU,view,dB,fW,bE,AV.cells,eC]
   simp[bM,q,D,k1,lb,c3,a1,sb,hw,-aB,-bB,-fQ,-kI];refine cZ ?_;refine HO w fun tl2 d3=>?_;have e3:=zI3 hT hN w s E n hn Y P S T U V W X g B L H k (i+1) p (j++[l]) a A c d e tl2 (by omega) (by simp;omega) b1 (d2.cut d3) d1 o;simp[bM];simpa using e3
  ·have qe:eqB r.err 0=false:=eU.2 x;rw[aS,if_pos x]at m o;simp only[dY]at m o;subst m o;have I:=fun t=>H t i a f c d e tl y;generalize RH z8 (bcL g a f c d e) r tl=b3 at*;simp[bM,q,D,qe,-aB];simpa using I _
theorem zI4{G:Gam}(hT:G Fn.ah=some (.gen lW))(hN:G Fn.ak=some (.gen gP)){d1:Nat}(D:4<=d1)(s O:Bs)(n:Nat)(hn:n<=65536)(y9 X Y Z c1 c2 c3:AV)(l:Bin)(J:List Imp)(V:Rd){ks:List MK}{d2:aY}(Q:∀A(i':Int)d e j f g tl,RInv tl {l with im:=J} d e j f g->exM G .normal ks d2 A [(0,.str s),(2,.ptr 0 0),(3,.n 0),(4,.ptr 1 0),(5,.ptr 2 0),(6,.ptr 3 0),(7,.str O),(8,.n n),(9,y9),(10,X),(11,Y),(12,.n i'),(13,.junk),(14,Z),(15,c1),(16,c2),(17,c3)] (RH z8 (bcL l d e j f g) V tl)):∀(k i:Nat)(r:Rd)(t:List Imp)(d e j f g:AV)(tl:aA),i+k=n->t.length<=i->r.rest.length<=1000000->RInv tl {l with im:=t} d e j f g->t++(aS fD k r).1=J->(aS fD k r).2=V->cY G [13] Mc.af_L2 d1 (.blk 4::ks) d2 [(0,.str s),(2,.ptr 0 0),(3,.n 0),(4,.ptr 1 0),(5,.ptr 2 0),(6,.ptr 3 0),(7,.str O),(8,.n n),(9,y9),(10,X),(11,Y),(12,.n i),(13,.junk),(14,Z),(15,c1),(16,c2),(17,c3)] (RH z8 (bcL l d e j f g) r tl)
 |0,i,r,t,d,e,j,f,g,i1,hi,h2,T,P,v,w=>by
  have q:ltB (i:Int) (n:Int)=false:=bC.2 (by omega);simp only[aS,dY]at v w;subst v w;refine aJ (Mc.af_L2.eq_1) ?_;refine tG D fun tl U=>?_;have F:RInv tl {l with im:=t} d e j f g:=P.cut U;have S:=fun A=>Q A i d e j f g tl F;generalize RH z8 (bcL l d e j f g) r tl=f1 at*;simp[bM,q];simpa using S _|k+1,i,r,t,d,e,j,f,g,i1,hi,h2,T,P,v,w=>by
  have q:ltB (i:Int) (n:Int)=true:=aO.2 (by omega);have hw:=dT (i:=i) (by unfold big;omega);refine aJ (Mc.af_L2.eq_1) ?_;refine tG D fun tl U=>?_;have F:RInv tl {l with im:=t} d e j f g:=P.cut U;have N:=HN (z:=z8) (bc:=bcL l d e j f g) (r:=r) (tl:=tl);by_cases E:r.err=0
  ·rw[E]at N;obtain⟨m,x,K⟩:∃a q,bG 65536 r=(a,q):=⟨_,_,rfl⟩;have b1:x.rest.length<=1000000:=by have:=kV 65536 r T;rw[K]at this;exact this
   obtain⟨o,y,L⟩:∃a q,bG 65536 x=(a,q):=⟨_,_,rfl⟩;have b2:y.rest.length<=1000000:=by have:=kV 65536 x b1;rw[L]at this;exact this
   obtain⟨p,u,M⟩:∃a q,rdNum 0 65536 y=(a,q):=⟨_,_,rfl⟩;have b3:u.rest.length<=1000000:=by have:=gA 0 65536 y b2;rw[M]at this;exact this
   have eo:fD r=(⟨m,o,p⟩,u):=by simp only[fD,K,L,M]
   rw[aS,if_neg (by simpa using E),eo]at v w;simp only at v w;have g1:t++[⟨m,o,p⟩]++(aS fD k u).1=J:=by rw[<-v];simp
   have k1:=uW (G:=G) (z:=z8) (bc:=(bcL l d e j f g)) (r:=r) (tl:=(tl++[.cells [.str [],.str [],.n 0]])) hT T 65536;rw[K]at k1;have t1:aU 1 (RH z8 (bcL l d e j f g) x (tl++[.cells [.str [],.str [],.n 0]])) (.ptr (4+tl.length) 0) (.str m)=some (RH z8 (bcL l d e j f g) x (tl++[.cells [.str m,.str [],.n 0]])):=qH rfl rfl (by simp);have k2:=uW (G:=G) (z:=z8) (bc:=(bcL l d e j f g)) (r:=x) (tl:=(tl++[.cells [.str m,.str [],.n 0]])) hT b1 65536;rw[L]at k2;have H:aU 1 (RH z8 (bcL l d e j f g) y (tl++[.cells [.str m,.str [],.n 0]])) (.ptr (4+tl.length) 1) (.str o)=some (RH z8 (bcL l d e j f g) y (tl++[.cells [.str m,.str o,.n 0]])):=qH rfl rfl (by simp);have k3:=xG (G:=G) (z:=z8) (bc:=(bcL l d e j f g)) (r:=y) (tl:=(tl++[.cells [.str m,.str o,.n 0]])) hN b2 0 65536;rw[M]at k3;have t3:aU 1 (RH z8 (bcL l d e j f g) u (tl++[.cells [.str m,.str o,.n 0]])) (.ptr (4+tl.length) 2) (.n p)=some (RH z8 (bcL l d e j f g) u (tl++[.cells [.str m,.str o,.n p]])):=qH rfl rfl (by simp);have t0:aU 3 (RH z8 (bcL l d e j f g) r (tl++[.cells [.str [],.str [],.n 0]])) (.ptr (4+tl.length) 0) (.agg [.str [],.str [],.n 0])=some (RH z8 (bcL l d e j f g) r (tl++[.cells [.str [],.str [],.n 0]])):=NL rfl rfl (by omega) rfl;have lc:aB 3 true (RH z8 (bcL l d e j f g) u (tl++[.cells [.str m,.str o,.n p]])) (.ptr (4+tl.length) 0)=some (.agg [.str m,.str o,.n p]):=NK rfl (by omega);have al:∀st,opV G st (RH z8 (bcL l d e j f g) r tl) (.alloc [.str [],.str [],.n 0]) (some [])=some (.ptr (4+tl.length) 0,RH z8 (bcL l d e j f g) r (tl++[.cells [.str [],.str [],.n 0]])):=fun st=>by rw[eG rfl,<-HP,<-DL (z:=z8) (bc:=(bcL l d e j f g)) (r:=r)];rfl
   have B:=F.snoc (c:=.cells [.str m,.str o,.n p]);obtain⟨I,W,a1,a2,C⟩:=HJ (G:=G) (byt:=40) (row:=Imp.row ⟨m,o,p⟩) B.i5 rfl (by simp only[yR9];omega) (by omega) z8 (bcL l d e j f g) u;have d3:=tF a2;have g2:RInv W {l with im:=t++[⟨m,o,p⟩]} d e I f g:=⟨C _ _ _ (.inr (.inl (by omega))) B.i3,C _ _ _ (.inr (.inl (by omega))) B.i4,(by have f2:bP t++[Imp.row ⟨m,o,p⟩]=bP (t++[⟨m,o,p⟩]):=(by simp[bP]);rw[<-f2];exact a2),C _ _ _ (.inr (.inl (by omega))) B.i6,C _ _ _ (.inr (.inl (by omega))) B.i7⟩;have lb:∀r H,aB 1 false (RH z8 (bcL l d e j f g) r H) (.ptr 3 5)=some j:=fun r H=>HL rfl;have sb:aU 1 (RH z8 (bcL l d e j f g) u W) (.ptr 3 5) I=some (RH z8 (bcL l d e I f g) u W):=by rw[xF d3.1 d3.2 (by simp)];rfl
   have f3:∀h,opV G false h (.bsl false 3) (some [.agg [.str m,.str o,.n p]])=some (.tsl [Imp.row ⟨m,o,p⟩],h):=fun h=>by simp[dX,owns,bU,view,dB,fW,bE,AV.cells,Imp.row]
   simp[bM,q,N,k1,t1,k2,H,k3,t3,t0,lc,al,lb,f3,a1,sb,hw,eO,-aB,-bB,-fQ,-kI];refine cZ ?_;refine HO D fun tl2 h1=>?_;have h3:=zI4 hT hN D s O n hn y9 X Y Z c1 c2 c3 l J V Q k (i+1) u (t++[⟨m,o,p⟩]) d e I f g tl2 (by omega) (by simp;omega) b3 (g2.cut h1) g1 w;simp[bM];simpa using h3
  ·have qe:eqB r.err 0=false:=eU.2 E;rw[aS,if_pos E]at v w;simp only[dY]at v w;subst v w;have S:=fun A=>Q A i d e j f g tl F;generalize RH z8 (bcL l d e j f g) r tl=f1 at*;simp[bM,q,N,qe,-aB];simpa using S _
theorem zI5{G:Gam}(hT:G Fn.ah=some (.gen lW))(hN:G Fn.ak=some (.gen gP)){b3:Nat}(B:4<=b3)(s L:Bs)(n:Nat)(hn:n<=65536)(y9 U V W X Y Z:AV)(l:Bin)(c2:l.nt=[])(H:List Expo)(S:Rd){ks:List MK}{c1:aY}(N:∀x(i':Int)d e f j g tl,RInv tl {l with ex:=H} d e f j g->exM G .normal ks c1 x [(0,.str s),(2,.ptr 0 0),(3,.n 0),(4,.ptr 1 0),(5,.ptr 2 0),(6,.ptr 3 0),(7,.str L),(8,.n n),(9,y9),(10,U),(11,V),(12,W),(13,X),(14,.n i'),(15,.junk),(16,Y),(17,Z)] (RH z8 (bcL l d e f j g) S tl)):∀(k i:Nat)(r:Rd)(p:List Expo)(d e f j g:AV)(tl:aA),i+k=n->p.length<=i->r.rest.length<=1000000->RInv tl {l with ex:=p} d e f j g->p++(aS fH k r).1=H->(aS fH k r).2=S->cY G [15] Mc.af_L3 b3 (.blk 6::ks) c1 [(0,.str s),(2,.ptr 0 0),(3,.n 0),(4,.ptr 1 0),(5,.ptr 2 0),(6,.ptr 3 0),(7,.str L),(8,.n n),(9,y9),(10,U),(11,V),(12,W),(13,X),(14,.n i),(15,.junk),(16,Y),(17,Z)] (RH z8 (bcL l d e f j g) r tl)
 |0,i,r,p,d,e,f,j,g,g2,hi,f3,P,M,u,v=>by
  have q:ltB (i:Int) (n:Int)=false:=bC.2 (by omega);simp only[aS,dY]at u v;subst u v;refine aJ (Mc.af_L3.eq_1) ?_;refine tG B fun tl Q=>?_;have D:RInv tl {l with ex:=p} d e f j g:=M.cut Q;have O:=fun x=>N x i d e f j g tl D;generalize RH z8 (bcL l d e f j g) r tl=d1 at*;simp[bM,q];simpa using O _|k+1,i,r,p,d,e,f,j,g,g2,hi,f3,P,M,u,v=>by
  have q:ltB (i:Int) (n:Int)=true:=aO.2 (by omega);have hw:=dT (i:=i) (by unfold big;omega);refine aJ (Mc.af_L3.eq_1) ?_;refine tG B fun tl Q=>?_;have D:RInv tl {l with ex:=p} d e f j g:=M.cut Q;have K:=HN (z:=z8) (bc:=bcL l d e f j g) (r:=r) (tl:=tl);by_cases C:r.err=0
  ·rw[C]at K;obtain⟨m,w,I⟩:∃a q,bG 65536 r=(a,q):=⟨_,_,rfl⟩;have b1:w.rest.length<=1000000:=by have:=kV 65536 r P;rw[I]at this;exact this
   obtain⟨o,t,J⟩:∃a q,rdNum 0 65536 w=(a,q):=⟨_,_,rfl⟩;have b2:t.rest.length<=1000000:=by have:=gA 0 65536 w b1;rw[J]at this;exact this
   have eo:fH r=(⟨m,o⟩,t):=by simp only[fH,I,J]
   rw[aS,if_neg (by simpa using C),eo]at u v;simp only at u v;have e3:p++[⟨m,o⟩]++(aS fH k t).1=H:=by rw[<-u];simp
   have k1:=uW (G:=G) (z:=z8) (bc:=(bcL l d e f j g)) (r:=r) (tl:=(tl++[.cells [.str [],.n 0]])) hT P 65536;rw[I]at k1;have t1:aU 1 (RH z8 (bcL l d e f j g) w (tl++[.cells [.str [],.n 0]])) (.ptr (4+tl.length) 0) (.str m)=some (RH z8 (bcL l d e f j g) w (tl++[.cells [.str m,.n 0]])):=qH rfl rfl (by simp);have k2:=xG (G:=G) (z:=z8) (bc:=(bcL l d e f j g)) (r:=w) (tl:=(tl++[.cells [.str m,.n 0]])) hN b1 0 65536;rw[J]at k2;have E:aU 1 (RH z8 (bcL l d e f j g) t (tl++[.cells [.str m,.n 0]])) (.ptr (4+tl.length) 1) (.n o)=some (RH z8 (bcL l d e f j g) t (tl++[.cells [.str m,.n o]])):=qH rfl rfl (by simp);have t0:aU 2 (RH z8 (bcL l d e f j g) r (tl++[.cells [.str [],.n 0]])) (.ptr (4+tl.length) 0) (.agg [.str [],.n 0])=some (RH z8 (bcL l d e f j g) r (tl++[.cells [.str [],.n 0]])):=NL rfl rfl (by omega) rfl;have lc:aB 2 true (RH z8 (bcL l d e f j g) t (tl++[.cells [.str m,.n o]])) (.ptr (4+tl.length) 0)=some (.agg [.str m,.n o]):=NK rfl (by omega);have al:∀st,opV G st (RH z8 (bcL l d e f j g) r tl) (.alloc [.str [],.n 0]) (some [])=some (.ptr (4+tl.length) 0,RH z8 (bcL l d e f j g) r (tl++[.cells [.str [],.n 0]])):=fun st=>by rw[eG rfl,<-HP,<-DL (z:=z8) (bc:=(bcL l d e f j g)) (r:=r)];rfl
   have y:=D.snoc (c:=.cells [.str m,.n o]);obtain⟨F,T,a1,a2,A⟩:=HJ (G:=G) (byt:=24) (row:=Expo.row ⟨m,o⟩) y.i6 rfl (by simp only[yy1];omega) (by omega) z8 (bcL l d e f j g) t;have c3:=tF a2;have f1:RInv T {l with ex:=p++[⟨m,o⟩]} d e f F g:=⟨A _ _ _ (.inr (.inl (by omega))) y.i3,A _ _ _ (.inr (.inl (by omega))) y.i4,A _ _ _ (.inr (.inl (by omega))) y.i5,(by have d2:bZ p++[Expo.row ⟨m,o⟩]=bZ (p++[⟨m,o⟩]):=(by simp[bZ]);rw[<-d2];exact a2),A _ _ _ (.inl (by rw[c2];rfl)) y.i7⟩;have lb:∀r E,aB 1 false (RH z8 (bcL l d e f j g) r E) (.ptr 3 6)=some j:=fun r E=>HL rfl;have sb:aU 1 (RH z8 (bcL l d e f j g) t T) (.ptr 3 6) F=some (RH z8 (bcL l d e f F g) t T):=by rw[xF c3.1 c3.2 (by simp)];rfl
   have d3:∀h,opV G false h (.bsl false 2) (some [.agg [.str m,.n o]])=some (.tsl [Expo.row ⟨m,o⟩],h):=fun h=>by simp[dX,owns,bU,view,dB,fW,bE,AV.cells,Expo.row]
   simp[bM,q,K,k1,t1,k2,E,t0,lc,al,lb,d3,a1,sb,hw,eO,-aB,-bB,-fQ,-kI];refine cZ ?_;refine HO B fun tl2 f2=>?_;have g1:=zI5 hT hN B s L n hn y9 U V W X Y Z l c2 H S N k (i+1) t (p++[⟨m,o⟩]) d e f F g tl2 (by omega) (by simp;omega) b2 (f1.cut f2) e3 v;simp[bM];simpa using g1
  ·have qe:eqB r.err 0=false:=eU.2 C;rw[aS,if_pos C]at u v;simp only[dY]at u v;subst u v;have O:=fun x=>N x i d e f j g tl D;generalize RH z8 (bcL l d e f j g) r tl=d1 at*;simp[bM,q,K,qe,-aB];simpa using O _
theorem zI6{G:Gam}(hT:G Fn.ah=some (.gen lW))(hN:G Fn.ak=some (.gen gP)){b3:Nat}(B:4<=b3)(s L:Bs)(n:Nat)(hn:n<=65536)(y9 U V W X Y Z:AV)(l:Bin)(H:List (Bs×Bs))(S:Rd){ks:List MK}{c1:aY}(N:∀x(i':Int)d e f g j tl,RInv tl {l with nt:=H} d e f g j->exM G .normal ks c1 x [(0,.str s),(2,.ptr 0 0),(3,.n 0),(4,.ptr 1 0),(5,.ptr 2 0),(6,.ptr 3 0),(7,.str L),(8,.n n),(9,y9),(10,U),(11,V),(12,W),(13,X),(14,Y),(15,Z),(16,.n i'),(17,.junk)] (RH z8 (bcL l d e f g j) S tl)):∀(k i:Nat)(r:Rd)(p:List (Bs×Bs))(d e f g j:AV)(tl:aA),i+k=n->p.length<=i->r.rest.length<=1000000->RInv tl {l with nt:=p} d e f g j->p++(aS fJ k r).1=H->(aS fJ k r).2=S->cY G [17] Mc.af_L4 b3 (.blk 8::ks) c1 [(0,.str s),(2,.ptr 0 0),(3,.n 0),(4,.ptr 1 0),(5,.ptr 2 0),(6,.ptr 3 0),(7,.str L),(8,.n n),(9,y9),(10,U),(11,V),(12,W),(13,X),(14,Y),(15,Z),(16,.n i),(17,.junk)] (RH z8 (bcL l d e f g j) r tl)
 |0,i,r,p,d,e,f,g,j,g1,hi,f2,P,M,u,v=>by
  have q:ltB (i:Int) (n:Int)=false:=bC.2 (by omega);simp only[aS,dY]at u v;subst u v;refine aJ (Mc.af_L4.eq_1) ?_;refine tG B fun tl Q=>?_;have D:RInv tl {l with nt:=p} d e f g j:=M.cut Q;have O:=fun x=>N x i d e f g j tl D;generalize RH z8 (bcL l d e f g j) r tl=c3 at*;simp[bM,q];simpa using O _|k+1,i,r,p,d,e,f,g,j,g1,hi,f2,P,M,u,v=>by
  have q:ltB (i:Int) (n:Int)=true:=aO.2 (by omega);have hw:=dT (i:=i) (by unfold big;omega);refine aJ (Mc.af_L4.eq_1) ?_;refine tG B fun tl Q=>?_;have D:RInv tl {l with nt:=p} d e f g j:=M.cut Q;have K:=HN (z:=z8) (bc:=bcL l d e f g j) (r:=r) (tl:=tl);by_cases C:r.err=0
  ·rw[C]at K;obtain⟨m,w,I⟩:∃a q,bG 65536 r=(a,q):=⟨_,_,rfl⟩;have b1:w.rest.length<=1000000:=by have:=kV 65536 r P;rw[I]at this;exact this
   obtain⟨o,t,J⟩:∃a q,bG 65536 w=(a,q):=⟨_,_,rfl⟩;have b2:t.rest.length<=1000000:=by have:=kV 65536 w b1;rw[J]at this;exact this
   have eo:fJ r=((m,o),t):=by simp only[fJ,I,J]
   rw[aS,if_neg (by simpa using C),eo]at u v;simp only at u v;have d3:p++[(m,o)]++(aS fJ k t).1=H:=by rw[<-u];simp
   have k1:=uW (G:=G) (z:=z8) (bc:=(bcL l d e f g j)) (r:=r) (tl:=(tl++[.cells [.str [],.str []]])) hT P 65536;rw[I]at k1;have t1:aU 1 (RH z8 (bcL l d e f g j) w (tl++[.cells [.str [],.str []]])) (.ptr (4+tl.length) 0) (.str m)=some (RH z8 (bcL l d e f g j) w (tl++[.cells [.str m,.str []]])):=qH rfl rfl (by simp);have k2:=uW (G:=G) (z:=z8) (bc:=(bcL l d e f g j)) (r:=w) (tl:=(tl++[.cells [.str m,.str []]])) hT b1 65536;rw[J]at k2;have E:aU 1 (RH z8 (bcL l d e f g j) t (tl++[.cells [.str m,.str []]])) (.ptr (4+tl.length) 1) (.str o)=some (RH z8 (bcL l d e f g j) t (tl++[.cells [.str m,.str o]])):=qH rfl rfl (by simp);have t0:aU 2 (RH z8 (bcL l d e f g j) r (tl++[.cells [.str [],.str []]])) (.ptr (4+tl.length) 0) (.agg [.str [],.str []])=some (RH z8 (bcL l d e f g j) r (tl++[.cells [.str [],.str []]])):=NL rfl rfl (by omega) rfl;have lc:aB 2 true (RH z8 (bcL l d e f g j) t (tl++[.cells [.str m,.str o]])) (.ptr (4+tl.length) 0)=some (.agg [.str m,.str o]):=NK rfl (by omega);have al:∀st,opV G st (RH z8 (bcL l d e f g j) r tl) (.alloc [.str [],.str []]) (some [])=some (.ptr (4+tl.length) 0,RH z8 (bcL l d e f g j) r (tl++[.cells [.str [],.str []]])):=fun st=>by rw[eG rfl,<-HP,<-DL (z:=z8) (bc:=(bcL l d e f g j)) (r:=r)];rfl
   have y:=D.snoc (c:=.cells [.str m,.str o]);obtain⟨F,T,a1,a2,A⟩:=HJ (G:=G) (byt:=32) (row:=dI (m,o)) y.i7 rfl (by simp only[xa1];omega) (by omega) z8 (bcL l d e f g j) t;have c2:=tF a2;have e3:RInv T {l with nt:=p++[(m,o)]} d e f g F:=⟨A _ _ _ (.inr (.inl (by omega))) y.i3,A _ _ _ (.inr (.inl (by omega))) y.i4,A _ _ _ (.inr (.inl (by omega))) y.i5,A _ _ _ (yy2) y.i6,(by have d1:dK p++[dI (m,o)]=dK (p++[(m,o)]):=(by simp[dK]);rw[<-d1];exact a2)⟩;have lb:∀r E,aB 1 false (RH z8 (bcL l d e f g j) r E) (.ptr 3 7)=some j:=fun r E=>HL rfl;have sb:aU 1 (RH z8 (bcL l d e f g j) t T) (.ptr 3 7) F=some (RH z8 (bcL l d e f g F) t T):=by rw[xF c2.1 c2.2 (by simp)];rfl
   have d2:∀h,opV G false h (.bsl false 2) (some [.agg [.str m,.str o]])=some (.tsl [dI (m,o)],h):=fun h=>by simp[dX,owns,bU,view,dB,fW,bE,AV.cells,dI]
   simp[bM,q,K,k1,t1,k2,E,t0,lc,al,lb,d2,a1,sb,hw,eO,-aB,-bB,-fQ,-kI];refine cZ ?_;refine HO B fun tl2 f1=>?_;have f3:=zI6 hT hN B s L n hn y9 U V W X Y Z l H S N k (i+1) t (p++[(m,o)]) d e f g F tl2 (by omega) (by simp;omega) b2 (e3.cut f1) d3 v;simp[bM];simpa using f3
  ·have qe:eqB r.err 0=false:=eU.2 C;rw[aS,if_pos C]at u v;simp only[dY]at u v;subst u v;have O:=fun x=>N x i d e f g j tl D;generalize RH z8 (bcL l d e f g j) r tl=c3 at*;simp[bM,q,K,qe,-aB];simpa using O _
theorem KG{d:Type}(a:Rd->d×Rd){r c:Rd}{m:Int}(e:rdNum 0 65536 r=(m,c)):∃k:Nat,m=k/\k<=65536/\bH a r=aS a k c:=by
 have h:=wD (lo:=0) (hi:=65536) (by omega) (by omega) (r:=r);rw[e]at h;simp only at h;exact⟨m.toNat,by omega,by omega,by unfold bH;rw[e]⟩
theorem yi2{z:List AV}{r:Rd}{tl:aA}{b:Bin}{c d e f g:AV}(h:RInv tl b c d e f g)(a:Bin)(i:a.kind=b.kind)(j:a.entry=b.entry)(k:a.img=b.img)(bc:List AV):view (RH z bc r tl) (.agg (bcL a c d e f g))=some (.agg b.cells):=by
 have l:=HK (z:=z) (bc:=bc) (r:=r) h.i3;have m:=HK (z:=z) (bc:=bc) (r:=r) h.i4;have n:=HK (z:=z) (bc:=bc) (r:=r) h.i5;have o:=HK (z:=z) (bc:=bc) (r:=r) h.i6;have p:=HK (z:=z) (bc:=bc) (r:=r) h.i7;generalize RH z bc r tl=H at*;simp[view,bU,l,m,n,o,p,Bin.cells,i,j,k]
theorem zX0{G:Gam}(hT:G Fn.ah=some (.gen lW))(hN:G Fn.ak=some (.gen gP))(C:G Fn.cv=some (.gen CW))(hC:G Fn.d6=some (.gen (cJ sV)))(hK:G Fn.aa=some (.pure kX)):PW G Mc.af Rs.af Ks.af qB:=by
 intro z1 r u;unfold qB at u;split at u
 ·rename_i s;split at u
  ·rename_i hs;injection u with u;subst u;rw[yv3];obtain⟨k,r0,e0⟩:∃a q,bG 6 ⟨s,0⟩=(a,q):=⟨_,_,rfl⟩;have b0:r0.rest.length<=1000000:=by have:=kV 6 ⟨s,0⟩ hs;rw[e0]at this;exact this
   obtain⟨l,v,e1⟩:∃a q,rdNum 0 2 r0=(a,q):=⟨_,_,rfl⟩;have b1:v.rest.length<=1000000:=by have:=gA 0 2 r0 b0;rw[e1]at this;exact this
   have g1:=SC (hi:=1) (by omega) (by omega) v;obtain⟨t,w,Q⟩:∃a q,rdNum 0 1 v=(a,q):=⟨_,_,rfl⟩;have b2:w.rest.length<=1000000:=by have:=gA 0 1 v b1;rw[Q]at this;exact this
   rw[Q]at g1;have wv:IntKind.i64.wrap (t-1)=t-1:=i64_in _ ⟨by simp only at g1;omega,by simp only at g1;omega⟩;obtain⟨v3,y,e3⟩:∃a q,bG 65536 w=(a,q):=⟨_,_,rfl⟩;have b3:y.rest.length<=1000000:=by have:=kV 65536 w b2;rw[e3]at this;exact this
   obtain⟨c0,j,a2⟩:∃a q,rdNum 0 65536 y=(a,q):=⟨_,_,rfl⟩;have h1:j.rest.length<=1000000:=by have:=gA 0 65536 y b3;rw[a2]at this;exact this
   obtain⟨k0,rfl,p3,m2⟩:=KG (eK 2) a2;obtain⟨p,H,S⟩:∃a q,aS (eK 2) k0 j=(a,q):=⟨_,_,rfl⟩;rw[S]at m2;have b4:H.rest.length<=1000000:=by have:=BY (FL 2) k0 j h1;rw[S]at this;exact this
   have j3:=fun bc tl=>HM (G:=G) C (z:=z8) (bc:=bc) (r:=y) (tl:=tl) b3;rw[a2]at j3;obtain⟨c1,n,a3⟩:∃a q,rdNum 0 65536 H=(a,q):=⟨_,_,rfl⟩;have h2:n.rest.length<=1000000:=by have:=gA 0 65536 H b4;rw[a3]at this;exact this
   obtain⟨k1,rfl,u1,m3⟩:=KG fI a3;obtain⟨f,I,T⟩:∃a q,aS fI k1 n=(a,q):=⟨_,_,rfl⟩;rw[T]at m3;have b5:I.rest.length<=1000000:=by have:=BY (LF) k1 n h2;rw[T]at this;exact this
   have l1:=fun bc tl=>HM (G:=G) C (z:=z8) (bc:=bc) (r:=H) (tl:=tl) b4;rw[a3]at l1;obtain⟨c2,o,d1⟩:∃a q,rdNum 0 65536 I=(a,q):=⟨_,_,rfl⟩;have h3:o.rest.length<=1000000:=by have:=gA 0 65536 I b5;rw[d1]at this;exact this
   obtain⟨k2,rfl,u2,n1⟩:=KG fD d1;obtain⟨m,J,U⟩:∃a q,aS fD k2 o=(a,q):=⟨_,_,rfl⟩;rw[U]at n1;have b6:J.rest.length<=1000000:=by have:=BY (LG) k2 o h3;rw[U]at this;exact this
   have l2:=fun bc tl=>HM (G:=G) C (z:=z8) (bc:=bc) (r:=I) (tl:=tl) b5;rw[d1]at l2;obtain⟨c3,q3,d2⟩:∃a q,rdNum 0 65536 J=(a,q):=⟨_,_,rfl⟩;have j1:q3.rest.length<=1000000:=by have:=gA 0 65536 J b6;rw[d2]at this;exact this
   obtain⟨k3,rfl,w2,n2⟩:=KG fH d2;obtain⟨x,K,V⟩:∃a q,aS fH k3 q3=(a,q):=⟨_,_,rfl⟩;rw[V]at n2;have b7:K.rest.length<=1000000:=by have:=BY (LE) k3 q3 j1;rw[V]at this;exact this
   have l3:=fun bc tl=>HM (G:=G) C (z:=z8) (bc:=bc) (r:=J) (tl:=tl) b6;rw[d2]at l3;obtain⟨c4,q4,d3⟩:∃a q,rdNum 0 65536 K=(a,q):=⟨_,_,rfl⟩;have j2:q4.rest.length<=1000000:=by have:=gA 0 65536 K b7;rw[d3]at this;exact this
   obtain⟨k4,rfl,w3,n3⟩:=KG fJ d3;obtain⟨a1,c,W⟩:∃a q,aS fJ k4 q4=(a,q):=⟨_,_,rfl⟩;rw[W]at n3;have b8:c.rest.length<=1000000:=by have:=BY (YP) k4 q4 j2;rw[W]at this;exact this
   have m1:=fun bc tl=>HM (G:=G) C (z:=z8) (bc:=bc) (r:=K) (tl:=tl) b7;rw[d3]at m1;have Y:=XT (mh:=6) (mk:=2) (me:=1) (mp:=2) (by omega) (by omega) ⟨s,0⟩ hs;have eB:jQ 6 2 1 2 ⟨s,0⟩=((k,⟨l,t-1,v3,p,f,m,x,a1⟩),c):=by simp only[jQ,e0,e1,Q,e3,m2,m3,n1,n2,n3]
   unfold lC;rw[eB]at Y⊢;simp only at Y⊢;obtain⟨b,E⟩:∃b:Bin,b=⟨l,t-1,v3,p,f,m,x,a1⟩:=⟨_,rfl⟩;rw[<-E]at Y⊢;have x2:=QV Y;have t0:=uW (G:=G) (z:=z8) (bc:=z8) (r:=⟨s,0⟩) (tl:=[]) hT hs 6;rw[e0]at t0;have t1:=xG (G:=G) (z:=z8) (bc:=z8) (r:=r0) (tl:=[]) hN b0 0 2;rw[e1]at t1;have s1:aU 1 (RH z8 z8 v []) (.ptr 3 0) (.n l)=some (RH z8 [.n l,.n 0,.str [],.nils,.nils,.nils,.nils,.nils] v []):=xF rfl rfl (by simp);have t2:=xG (G:=G) (z:=z8) (bc:=[.n l,.n 0,.str [],.nils,.nils,.nils,.nils,.nils]) (r:=v) (tl:=[]) hN b1 0 1;rw[Q]at t2;have s2:aU 1 (RH z8 [.n l,.n 0,.str [],.nils,.nils,.nils,.nils,.nils] w []) (.ptr 3 1) (.n (t-1))=some (RH z8 [.n l,.n (t-1),.str [],.nils,.nils,.nils,.nils,.nils] w []):=xF rfl rfl (by simp);have t3:=uW (G:=G) (z:=z8) (bc:=[.n l,.n (t-1),.str [],.nils,.nils,.nils,.nils,.nils]) (r:=w) (tl:=[]) hT b2 65536;rw[e3]at t3;obtain⟨e,g⟩:∃e:Bin,e=⟨l,t-1,v3,[],[],[],[],[]⟩:=⟨_,rfl⟩;have s3:aU 1 (RH z8 [.n l,.n (t-1),.str [],.nils,.nils,.nils,.nils,.nils] y []) (.ptr 3 2) (.str v3)=some (RH z8 (bcL e .nils .nils .nils .nils .nils) y []):=by rw[xF rfl rfl (by simp),g];rfl
   have sA:aU 8 [.cells z8,.cells z8] (.ptr 1 0) (.agg z8)=some [.cells z8,.cells z8]:=by simp[aU,bK,bE]
   have sB:aU 8 [.cells z8,.cells z8,.cells [.str s,.n 0],.cells z8] (.ptr 3 0) (.agg z8)=some (RH z8 z8 ⟨s,0⟩ []):=by simp[aU,bK,bE];rfl
   have iH:([.cells z8,.cells z8,.cells [.str s,.n 0],.cells z8]:aA)=RH z8 z8 ⟨s,0⟩ []:=rfl;have o2:RInv [] e .nils .nils .nils .nils .nils:=by
    rw[g];exact⟨.inl ⟨rfl,rfl⟩,.inl ⟨rfl,rfl⟩,.inl ⟨rfl,rfl⟩,.inl ⟨rfl,rfl⟩,.inl ⟨rfl,rfl⟩⟩
   have g2:∀h,view h (.tup [.agg z8,.n 17])=some (oB (bin0,17)):=fun h=>by rw[view,TK];rfl
   obtain⟨o3,i⟩:∃o3,o3=oB (if 65536<s.length\/k≠iI\/jC c≠0\/gS b≠0 then(bin0,17)else(b,0)):=⟨_,rfl⟩;rw[<-i,aM];by_cases hl:65536<s.length
   ·have ql:ltB 65536 (s.length:Int)=true:=aO.2 (by omega);rw[if_pos (.inl hl)]at i;rw[<-i]at g2;simp[Mc.af,Ks.af,aC,eO,bK,aI,ql,cut,aE,aD,Rs.af,dS,eZ,fK];simpa using g2 []
   ·have ql:ltB 65536 (s.length:Int)=false:=bC.2 (by omega);have D:∀bc r tl,4<=(RH z8 bc r tl).length:=fun bc r tl=>by rw[DL];omega
    simp[Mc.af,Ks.af,aC,eO,bK,aI,ql,sA,sB,t0,t1,s1,t2,wv,s2,t3,s3,j3,-aB,-bB];refine zI2 (G:=G) hT hN (D _ _ _) s k k0 p3 .junk .junk .junk .junk .junk .junk .junk e p H (fun X i0 L M N O P tl d=>?_) k0 0 j [] _ _ _ _ _ _ (by omega) (by simp) h1 (by rw[g]at o2⊢;exact o2) (by rw[S];rfl) (by rw[S]);simp[l1,-aB,-bB];refine zI3 (G:=G) hT hN (D _ _ _) s k k1 u1 (.n i0) .junk .junk .junk .junk .junk .junk .junk {e with pl:=p} f I (fun X i1 L M N O P tl d=>?_) k1 0 n [] _ _ _ _ _ _ (by omega) (by simp) h2 (by rw[g]at d⊢;exact d) (by rw[T];rfl) (by rw[T]);simp[l2,-aB,-bB];refine zI4 (G:=G) hT hN (D _ _ _) s k k2 u2 (.n i0) .junk (.n i1) .junk .junk .junk .junk {e with pl:=p,fx:=f} m J (fun X i2 L M N O P tl d=>?_) k2 0 o [] _ _ _ _ _ _ (by omega) (by simp) h3 (by rw[g]at d⊢;exact d) (by rw[U];rfl) (by rw[U]);simp[l3,-aB,-bB];refine zI5 (G:=G) hT hN (D _ _ _) s k k3 w2 (.n i0) .junk (.n i1) (.n i2) .junk .junk .junk {e with pl:=p,fx:=f,im:=m} (by rw[g]) x K (fun X i3 L M N O P tl d=>?_) k3 0 q3 [] _ _ _ _ _ _ (by omega) (by simp) j1 (by rw[g]at d⊢;exact d) (by rw[V];rfl) (by rw[V]);simp[m1,-aB,-bB];refine zI6 (G:=G) hT hN (D _ _ _) s k k4 w3 (.n i0) .junk (.n i1) (.n i2) .junk (.n i3) .junk {e with pl:=p,fx:=f,im:=m,ex:=x} a1 c (fun X i4 L M N O P tl d=>?_) k4 0 q4 [] _ _ _ _ _ _ (by omega) (by simp) j2 (by rw[g]at d⊢;exact d) (by rw[W];rfl) (by rw[W]);have p1:({e with pl:=p,fx:=f,im:=m,ex:=x,nt:=a1}:Bin)=b:=by rw[g,E]
    rw[p1]at d;have p2:∀y3 y4 y5 y6 y7,bcL {e with pl:=p,fx:=f,im:=m,ex:=x} y3 y4 y5 y6 y7=bcL e y3 y4 y5 y6 y7:=fun _ _ _ _ _=>rfl;obtain⟨bc,Z⟩:∃bc,bc=bcL e L M N O P:=⟨_,rfl⟩;have f2:bc.length=8:=by rw[Z];rfl
    have x1:bc.all bE=true:=by
     rw[Z];simp only[bcL,qJ,List.all_nil,(tF d.i3).2,(tF d.i4).2,(tF d.i5).2,(tF d.i6).2,(tF d.i7).2,uX];rfl
    have o1:∀z,view (RH z bc c tl) (.agg bc)=some (.agg b.cells):=fun z=>by
     have:=yi2 (z:=z) (r:=c) d e (by rw[g,E]) (by rw[g,E]) (by rw[g,E]) bc;rw[<-Z]at this;exact this
    have B:opV G false (RH z8 bc c tl) (.call Fn.d6) (some [.ptr 2 0])=some (.n (jC c),RH z8 bc c tl):=by
     rw[eX hC];simp only[cJ,sV,NM,bR];rfl
    have cK:opV G false (RH z8 bc c tl) (.call Fn.aa) (some [.agg bc])=some (.n (gS b),RH z8 bc c tl):=bF hK (us:=[.agg b.cells]) (by simp only[bU,o1]) (by simp only[kX,jK];rw[if_pos x2]) (.inl rfl);have l8:aB 8 true (RH z8 bc c tl) (.ptr 3 0)=some (.agg bc):=yc5 f2;have n8:aB 8 true (RH z8 bc c tl) (.ptr 1 0)=some (.agg z8):=yc6;have s8:aU 8 (RH z8 bc c tl) (.ptr 0 0) (.agg bc)=some (RH bc bc c tl):=zg8 rfl f2 x1;have f3:aU 8 (RH z8 bc c tl) (.ptr 0 0) (.agg z8)=some (RH z8 bc c tl):=zg8 rfl rfl rfl;have f8:aB 8 true (RH bc bc c tl) (.ptr 0 0)=some (.agg bc):=zg6 f2;have f1:aB 8 true (RH z8 bc c tl) (.ptr 0 0)=some (.agg z8):=zg6 rfl;have w1:view (RH bc bc c tl) (.tup [.agg bc,.n 0])=some (oB (b,0)):=by rw[view,bU,o1 bc];rfl
    have A:=g2 (RH z8 bc c tl);rw[p2,<-Z];generalize RH z8 bc c tl=H1 at*;generalize RH bc bc c tl=H2 at*;by_cases o:k=iI
    ·have F:(k==[98,105,110,97,114,121])=true:=by rw[o];rfl
     by_cases j:jC c=0
     ·by_cases n:gS b=0
      ·rw[if_neg (by rintro(h|h|h|h);exact hl h;exact h o;exact h j;exact h n)]at i;rw[j]at B;rw[n]at cK;rw[<-i]at w1;simp[dV,F,B,l8,cK,s8,aD,Rs.af,dS,eZ,fK,f8,-aB,-bB];simpa using w1
      ·rw[if_pos (.inr (.inr (.inr n)))]at i;have y2:eqB (gS b) 0=false:=eU.2 n;rw[j]at B;rw[<-i]at A;simp[dV,F,B,l8,cK,y2,n8,f3,aD,Rs.af,dS,eZ,fK,f1,-aB,-bB];simpa using A
     ·rw[if_pos (.inr (.inr (.inl j)))]at i;have y1:eqB (jC c) 0=false:=eU.2 j;rw[<-i]at A;simp[dV,F,B,y1,n8,f3,aD,Rs.af,dS,eZ,fK,f1,-aB,-bB];simpa using A
    ·have F:(k==[98,105,110,97,114,121])=false:=by simpa[iI]using o
     rw[if_pos (.inr (.inl o))]at i;rw[<-i]at A;simp[dV,F,n8,f3,aD,Rs.af,dS,eZ,fK,f1,-aB,-bB];simpa using A
  ·cases u
 ·cases u
def qF:List AV->Option AV
 |[.str s]=>if s.length<=65536 then some (.str (cM s))else none|_=>none
theorem xl2{G:Gam}(hT:G Fn.c5=some (.pure rG)):PW G Mc.a7 Rs.a7 Ks.a7 qF:=by
 intro f r a;unfold qF at a;split at a
 ·rename_i s;split at a
  ·rename_i e;injection a with a;subst a;have c:∀d h,opV G d h (.call Fn.c5) (some [.str s])=some (.tup [.str (cM s),.n 0],h):=fun d h=>bF hT (us:=[.str s]) rfl (by simp only[rG];rw[if_neg (by omega),if_pos e]) (.inl rfl);rw[aM];generalize cM s=x at c⊢;simp[Mc.a7,Ks.a7,aC,c,aD,Rs.a7]
  ·cases a
 ·cases a
def qE:List AV->Option AV
 |[.n n]=>if 0<=n/\n<=281474976710656 then some (.str (bQ n.toNat))else none|_=>none
theorem xj7{G:Gam}(hT:G Fn.ck=some (.pure rE)):PW G Mc.az Rs.az Ks.az qE:=by
 intro f r a;unfold qE at a;split at a
 ·rename_i n;split at a
  ·rename_i e;injection a with a;subst a;have c:∀d h,opV G d h (.call Fn.ck) (some [.n n])=some (.tup [.str (bQ n.toNat),.n 0],h):=fun d h=>bF hT (us:=[.n n]) rfl (by simp only[rE];rw[if_pos e]) (.inl rfl);rw[aM];generalize bQ n.toNat=x at c⊢;simp[Mc.az,Ks.az,aC,c,aD,Rs.az]
  ·cases a
 ·cases a
theorem wI{G:Gam}(hT:G Fn.a7=some (.pure qF)){s:Bs}(h:s.length<=65536)(c:Bool)(a:aA):opV G c a (.call Fn.a7) (some [.str s])=some (.str (cM s),a):=bF hT (us:=[.str s]) rfl (by simp only[qF];rw[if_pos h]) (.inl rfl)
theorem pP{G:Gam}(hN:G Fn.az=some (.pure qE)){n:Int}(h:0<=n/\n<=281474976710656)(c:Bool)(a:aA):opV G c a (.call Fn.az) (some [.n n])=some (.str (bQ n.toNat),a):=bF hN (us:=[.n n]) rfl (by simp only[qE];rw[if_pos h]) (.inl rfl)
theorem zJ2{G:Gam}(hT:G Fn.a7=some (.pure qF))(hN:G Fn.az=some (.pure qE))(b:Bin)(c:Bs)(U:c.length+(b.pl.flatMap plB).length<=1000000)(Z:b.pl.length<=1000000)(t:∀x∈b.pl,x.obj.length<=65536/\x.sym.length<=65536/\(0<=x.kd/\x.kd<=65536)/\(0<=x.pos/\x.pos<=65536)/\(0<=x.siz/\x.siz<=65536)){ks:List MK}{Q:aY}(p:∀N,exM G .normal ks Q N [(0,.agg b.cells),(1,.ptr 0 0),(2,.str []),(3,.n 0),(4,.str (c++b.pl.flatMap plB)),(6,.junk),(8,.junk),(10,.junk),(12,.junk),(14,.junk),(39,.sl (aK b.pl)),(40,.n b.pl.length),(41,.n b.pl.length),(74,.junk),(75,.junk),(76,.junk),(92,.junk),(93,.junk),(94,.junk),(119,.junk),(120,.junk),(121,.junk),(142,.junk),(143,.junk),(144,.junk)] [.cells b.cells]):∀(m:List (Plc))(i:Nat),b.pl.drop i=m->i<=b.pl.length->cY G [6] Mc.ad_L0 1 (.blk 0::ks) Q [(0,.agg b.cells),(1,.ptr 0 0),(2,.str []),(3,.n 0),(4,.str (c++(b.pl.take i).flatMap plB)),(6,.junk),(8,.junk),(10,.junk),(12,.junk),(14,.junk),(39,.sl (aK b.pl)),(40,.n b.pl.length),(41,.n i),(74,.junk),(75,.junk),(76,.junk),(92,.junk),(93,.junk),(94,.junk),(119,.junk),(120,.junk),(121,.junk),(142,.junk),(143,.junk),(144,.junk)] [.cells b.cells]
 |[],i,l,Y=>by
  have b2:=drop_nil l;have e:i=b.pl.length:=by omega
  subst e;have q:ltB (b.pl.length:Int) b.pl.length=false:=bC.2 (by omega);rw[kE];refine aJ (Mc.ad_L0.eq_1) ?_;rw[aQ (n:=1) rfl];generalize c++b.pl.flatMap plB=b1 at*;generalize b.cells=M at*;simp;simpa using p _|x::m,i,l,Y=>by
  obtain⟨b3,g,a2⟩:=eT l;have q:ltB (i:Int) (b.pl.length:Int)=true:=aO.2 (by omega);have hw:=dT (i:=i) (by unfold big;omega);have r1:=yM g;have a1:x.row.length=5:=rfl;obtain⟨x1,x2,y1,y2,y3⟩:=t x (fB g);have ia:∀h,bA 5 h (.sl (aK b.pl)) (.n (i:Int))=some (.fptr x.row 0):=fun h=>by simp[bA,r1,a1]
  have l1:∀h,aB 5 true h (.fptr x.row 0)=some (.agg x.row):=fun h=>by simp[aB,cut,aE,Plc.row]
  have O:=qT (f:=plB) g;have j:=zJ2 hT hN b c U Z t p m (i+1) a2 (by omega);rw[O,<-iN]at j;have fl:=rV (f:=plB) g;obtain⟨s,v⟩:∃s,s=c++(b.pl.take i).flatMap plB:=⟨_,rfl⟩;have w:s.length+(plB x).length<=1000000:=by rw[v,bX];omega
  rw[<-v]at j⊢;have V:=iS b 1;have I:=fun a h=>wI (G:=G) hT x1 a h;obtain⟨d,y⟩:∃u,u=cM x.obj:=⟨_,rfl⟩;rw[<-y]at I;have J:=fun a h=>wI (G:=G) hT x2 a h;obtain⟨f,A⟩:∃u,u=cM x.sym:=⟨_,rfl⟩;rw[<-A]at J;have E:=fun a h=>pP (G:=G) (n:=x.kd) hN ⟨y1.1,by omega⟩ a h;obtain⟨k,B⟩:∃u,u=bQ (x.kd).toNat:=⟨_,rfl⟩;rw[<-B]at E;have F:=fun a h=>pP (G:=G) (n:=x.pos) hN ⟨y2.1,by omega⟩ a h;obtain⟨n,C⟩:∃u,u=bQ (x.pos).toNat:=⟨_,rfl⟩;rw[<-C]at F;have H:=fun a h=>pP (G:=G) (n:=x.siz) hN ⟨y3.1,by omega⟩ a h;obtain⟨K,D⟩:∃u,u=bQ (x.siz).toNat:=⟨_,rfl⟩;rw[<-D]at H;have L:∀a,opV G a [.cells b.cells] (.alloc [.str [],.str [],.n 0,.n 0,.n 0]) (some [])=some (.ptr 1 0,[.cells b.cells,.cells [.str [],.str [],.n 0,.n 0,.n 0]]):=fun a=>by rw[eG rfl];rfl
  have a3:aU 5 [.cells b.cells,.cells [.str [],.str [],.n 0,.n 0,.n 0]] (.ptr 1 0) (.agg x.row)=some [.cells b.cells,.cells x.row]:=by simp[aU,bK,Plc.row]
  have fin:=fun o(X:bW 1 o=true)=>wR (fr:=o) (a:=.cells b.cells) (x:=.cells x.row) X (by simp[cV,gD,iS b 1]);have P:aB 1 false [.cells b.cells,.cells x.row] (.ptr 1 0)=some (.str x.obj):=aR (l:=1) rfl rfl;have S:aB 1 false [.cells b.cells,.cells x.row] (.ptr 1 1)=some (.str x.sym):=aR (l:=1) rfl rfl;have T:aB 1 false [.cells b.cells,.cells x.row] (.ptr 1 2)=some (.n x.kd):=aR (l:=1) rfl rfl;have g3:aB 1 false [.cells b.cells,.cells x.row] (.ptr 1 3)=some (.n x.pos):=aR (l:=1) rfl rfl;have g4:aB 1 false [.cells b.cells,.cells x.row] (.ptr 1 4)=some (.n x.siz):=aR (l:=1) rfl rfl;have W:plB x=d++(f++(k++(n++(K)))):=by simp only[plB,<-y,<-A,<-B,<-C,<-D]
  rw[W]at j w;simp only[bX]at w;have m0:s.length+d.length<=dP:=by unfold dP;omega
  have m1:s.length+d.length+f.length<=dP:=by unfold dP;omega
  have m2:s.length+(d.length+(f.length))+k.length<=dP:=by unfold dP;omega
  have m3:s.length+(d.length+(f.length+(k.length)))+n.length<=dP:=by unfold dP;omega
  have m4:s.length+(d.length+(f.length+(k.length+(n.length))))+K.length<=dP:=by unfold dP;omega
  refine aJ (Mc.ad_L0.eq_1) ?_;rw[aQ (n:=1) rfl];generalize aK b.pl=RF at*;generalize b.cells=M at*;simp[q,ia,l1,I,J,E,F,H,L,a3,P,S,T,g3,g4,m0,m1,m2,m3,m4,hw,-aB,-bB,-fQ];refine cZ ?_;rw[fin _ (by simp[bW,low,V])];simpa using j
theorem zJ3{G:Gam}(hT:G Fn.a7=some (.pure qF))(hN:G Fn.az=some (.pure qE))(b:Bin)(a:Bs)(w:a.length+(b.fx.flatMap fxB).length<=1000000)(B:b.fx.length<=1000000)(k:∀x∈b.fx,0<=x/\x<=65536){ks:List MK}{Q:aY}(j:∀t,exM G .normal ks Q t [(0,.agg b.cells),(1,.ptr 0 0),(2,.str []),(3,.n 0),(4,.str (a++b.fx.flatMap fxB)),(6,.junk),(8,.junk),(10,.junk),(12,.junk),(14,.junk),(39,.sl (aK b.pl)),(40,.n b.pl.length),(41,.n b.pl.length),(74,.sl (bO b.fx)),(75,.n b.fx.length),(76,.n b.fx.length),(92,.junk),(93,.junk),(94,.junk),(119,.junk),(120,.junk),(121,.junk),(142,.junk),(143,.junk),(144,.junk)] [.cells b.cells]):∀(g:List (Int))(i:Nat),b.fx.drop i=g->i<=b.fx.length->cY G [8] Mc.ad_L1 1 (.blk 2::ks) Q [(0,.agg b.cells),(1,.ptr 0 0),(2,.str []),(3,.n 0),(4,.str (a++(b.fx.take i).flatMap fxB)),(6,.junk),(8,.junk),(10,.junk),(12,.junk),(14,.junk),(39,.sl (aK b.pl)),(40,.n b.pl.length),(41,.n b.pl.length),(74,.sl (bO b.fx)),(75,.n b.fx.length),(76,.n i),(92,.junk),(93,.junk),(94,.junk),(119,.junk),(120,.junk),(121,.junk),(142,.junk),(143,.junk),(144,.junk)] [.cells b.cells]
 |[],i,f,A=>by
  have T:=drop_nil f;have e:i=b.fx.length:=by omega
  subst e;have q:ltB (b.fx.length:Int) b.fx.length=false:=bC.2 (by omega);rw[kE];refine aJ (Mc.ad_L1.eq_1) ?_;rw[aQ (n:=1) rfl];generalize a++b.fx.flatMap fxB=S at*;generalize b.cells=p at*;simp;simpa using j _|x::g,i,f,A=>by
  obtain⟨U,c,F⟩:=eT f;have q:ltB (i:Int) (b.fx.length:Int)=true:=aO.2 (by omega);have E:=dT (i:=i) (by unfold big;omega);have K:=JO c;have C:(eC x).length=1:=rfl;obtain M:=k x (fB c);have H:∀h,bA 1 h (.sl (bO b.fx)) (.n (i:Int))=some (.fptr (eC x) 0):=fun h=>by simp[bA,K,C]
  have I:∀h,aB 1 false h (.fptr (eC x) 0)=some (.n x):=fun h=>by simp[aB,cut,aE,eC]
  have v:=qT (f:=fxB) c;have d:=zJ3 hT hN b a w B k j g (i+1) F (by omega);rw[v,<-iN]at d;have O:=rV (f:=fxB) c;obtain⟨s,l⟩:∃s,s=a++(b.fx.take i).flatMap fxB:=⟨_,rfl⟩;have D:s.length+(fxB x).length<=1000000:=by rw[l,bX];omega
  rw[<-l]at d⊢;have P:=iS b 1;have n:=fun L h=>pP (G:=G) (n:=x) hN ⟨M.1,by omega⟩ L h;obtain⟨o,m⟩:∃u,u=bQ (x).toNat:=⟨_,rfl⟩;rw[<-m]at n;have y:fxB x=o:=by simp only[fxB,<-m]
  rw[y]at d D;have J:s.length+o.length<=dP:=by unfold dP;omega
  refine aJ (Mc.ad_L1.eq_1) ?_;rw[aQ (n:=1) rfl];generalize bO b.fx=N at*;generalize b.cells=p at*;simp[q,H,I,n,J,E,-aB,-bB,-fQ];refine cZ ?_;rw[aQ (n:=1) rfl];simpa using d
theorem zJ4{G:Gam}(hT:G Fn.a7=some (.pure qF))(hN:G Fn.az=some (.pure qE))(b:Bin)(c:Bs)(M:c.length+(b.im.flatMap imB).length<=1000000)(T:b.im.length<=1000000)(o:∀x∈b.im,x.lib.length<=65536/\x.sym.length<=65536/\(0<=x.pos/\x.pos<=65536)){ks:List MK}{Q:aY}(n:∀H,exM G .normal ks Q H [(0,.agg b.cells),(1,.ptr 0 0),(2,.str []),(3,.n 0),(4,.str (c++b.im.flatMap imB)),(6,.junk),(8,.junk),(10,.junk),(12,.junk),(14,.junk),(39,.sl (aK b.pl)),(40,.n b.pl.length),(41,.n b.pl.length),(74,.sl (bO b.fx)),(75,.n b.fx.length),(76,.n b.fx.length),(92,.sl (bP b.im)),(93,.n b.im.length),(94,.n b.im.length),(119,.junk),(120,.junk),(121,.junk),(142,.junk),(143,.junk),(144,.junk)] [.cells b.cells]):∀(k:List (Imp))(i:Nat),b.im.drop i=k->i<=b.im.length->cY G [10] Mc.ad_L2 1 (.blk 4::ks) Q [(0,.agg b.cells),(1,.ptr 0 0),(2,.str []),(3,.n 0),(4,.str (c++(b.im.take i).flatMap imB)),(6,.junk),(8,.junk),(10,.junk),(12,.junk),(14,.junk),(39,.sl (aK b.pl)),(40,.n b.pl.length),(41,.n b.pl.length),(74,.sl (bO b.fx)),(75,.n b.fx.length),(76,.n b.fx.length),(92,.sl (bP b.im)),(93,.n b.im.length),(94,.n i),(119,.junk),(120,.junk),(121,.junk),(142,.junk),(143,.junk),(144,.junk)] [.cells b.cells]
 |[],i,j,S=>by
  have a3:=drop_nil j;have e:i=b.im.length:=by omega
  subst e;have q:ltB (b.im.length:Int) b.im.length=false:=bC.2 (by omega);rw[kE];refine aJ (Mc.ad_L2.eq_1) ?_;rw[aQ (n:=1) rfl];generalize c++b.im.flatMap imB=a2 at*;generalize b.cells=F at*;simp;simpa using n _|x::k,i,j,S=>by
  obtain⟨b1,d,W⟩:=eT j;have q:ltB (i:Int) (b.im.length:Int)=true:=aO.2 (by omega);have V:=dT (i:=i) (by unfold big;omega);have r1:=JT d;have U:x.row.length=3:=rfl;obtain⟨x1,x2,y1⟩:=o x (fB d);have X:∀h,bA 3 h (.sl (bP b.im)) (.n (i:Int))=some (.fptr x.row 0):=fun h=>by simp[bA,r1,U]
  have Y:∀h,aB 3 true h (.fptr x.row 0)=some (.agg x.row):=fun h=>by simp[aB,cut,aE,Imp.row]
  have I:=qT (f:=imB) d;have f:=zJ4 hT hN b c M T o n k (i+1) W (by omega);rw[I,<-iN]at f;have fl:=rV (f:=imB) d;obtain⟨s,p⟩:∃s,s=c++(b.im.take i).flatMap imB:=⟨_,rfl⟩;have t:s.length+(imB x).length<=1000000:=by rw[p,bX];omega
  rw[<-p]at f⊢;have N:=iS b 1;have B:=fun a h=>wI (G:=G) hT x1 a h;obtain⟨g,v⟩:∃u,u=cM x.lib:=⟨_,rfl⟩;rw[<-v]at B;have C:=fun a h=>wI (G:=G) hT x2 a h;obtain⟨l,w⟩:∃u,u=cM x.sym:=⟨_,rfl⟩;rw[<-w]at C;have A:=fun a h=>pP (G:=G) (n:=x.pos) hN ⟨y1.1,by omega⟩ a h;obtain⟨D,y⟩:∃u,u=bQ (x.pos).toNat:=⟨_,rfl⟩;rw[<-y]at A;have E:∀a,opV G a [.cells b.cells] (.alloc [.str [],.str [],.n 0]) (some [])=some (.ptr 1 0,[.cells b.cells,.cells [.str [],.str [],.n 0]]):=fun a=>by rw[eG rfl];rfl
  have a1:aU 3 [.cells b.cells,.cells [.str [],.str [],.n 0]] (.ptr 1 0) (.agg x.row)=some [.cells b.cells,.cells x.row]:=by simp[aU,bK,Imp.row]
  have fin:=fun m(P:bW 1 m=true)=>wR (fr:=m) (a:=.cells b.cells) (x:=.cells x.row) P (by simp[cV,gD,iS b 1]);have J:aB 1 false [.cells b.cells,.cells x.row] (.ptr 1 0)=some (.str x.lib):=aR (l:=1) rfl rfl;have K:aB 1 false [.cells b.cells,.cells x.row] (.ptr 1 1)=some (.str x.sym):=aR (l:=1) rfl rfl;have L:aB 1 false [.cells b.cells,.cells x.row] (.ptr 1 2)=some (.n x.pos):=aR (l:=1) rfl rfl;have O:imB x=g++(l++(D)):=by simp only[imB,<-v,<-w,<-y]
  rw[O]at f t;simp only[bX]at t;have Z:s.length+g.length<=dP:=by unfold dP;omega
  have m1:s.length+g.length+l.length<=dP:=by unfold dP;omega
  have m2:s.length+(g.length+(l.length))+D.length<=dP:=by unfold dP;omega
  refine aJ (Mc.ad_L2.eq_1) ?_;rw[aQ (n:=1) rfl];generalize bP b.im=RF at*;generalize b.cells=F at*;simp[q,X,Y,B,C,A,E,a1,J,K,L,Z,m1,m2,V,-aB,-bB,-fQ];refine cZ ?_;rw[fin _ (by simp[bW,low,N])];simpa using f
theorem zJ5{G:Gam}(hT:G Fn.a7=some (.pure qF))(hN:G Fn.az=some (.pure qE))(b:Bin)(a:Bs)(I:a.length+(b.ex.flatMap exB).length<=1000000)(N:b.ex.length<=1000000)(n:∀x∈b.ex,x.sym.length<=65536/\(0<=x.pos/\x.pos<=65536)){ks:List MK}{Q:aY}(m:∀D,exM G .normal ks Q D [(0,.agg b.cells),(1,.ptr 0 0),(2,.str []),(3,.n 0),(4,.str (a++b.ex.flatMap exB)),(6,.junk),(8,.junk),(10,.junk),(12,.junk),(14,.junk),(39,.sl (aK b.pl)),(40,.n b.pl.length),(41,.n b.pl.length),(74,.sl (bO b.fx)),(75,.n b.fx.length),(76,.n b.fx.length),(92,.sl (bP b.im)),(93,.n b.im.length),(94,.n b.im.length),(119,.sl (bZ b.ex)),(120,.n b.ex.length),(121,.n b.ex.length),(142,.junk),(143,.junk),(144,.junk)] [.cells b.cells]):∀(j:List (Expo))(i:Nat),b.ex.drop i=j->i<=b.ex.length->cY G [12] Mc.ad_L3 1 (.blk 6::ks) Q [(0,.agg b.cells),(1,.ptr 0 0),(2,.str []),(3,.n 0),(4,.str (a++(b.ex.take i).flatMap exB)),(6,.junk),(8,.junk),(10,.junk),(12,.junk),(14,.junk),(39,.sl (aK b.pl)),(40,.n b.pl.length),(41,.n b.pl.length),(74,.sl (bO b.fx)),(75,.n b.fx.length),(76,.n b.fx.length),(92,.sl (bP b.im)),(93,.n b.im.length),(94,.n b.im.length),(119,.sl (bZ b.ex)),(120,.n b.ex.length),(121,.n i),(142,.junk),(143,.junk),(144,.junk)] [.cells b.cells]
 |[],i,g,M=>by
  have a2:=drop_nil g;have e:i=b.ex.length:=by omega
  subst e;have q:ltB (b.ex.length:Int) b.ex.length=false:=bC.2 (by omega);rw[kE];refine aJ (Mc.ad_L3.eq_1) ?_;rw[aQ (n:=1) rfl];generalize a++b.ex.flatMap exB=a1 at*;generalize b.cells=C at*;simp;simpa using m _|x::j,i,g,M=>by
  obtain⟨a3,d,S⟩:=eT g;have q:ltB (i:Int) (b.ex.length:Int)=true:=aO.2 (by omega);have P:=dT (i:=i) (by unfold big;omega);have X:=JG d;have O:x.row.length=2:=rfl;obtain⟨Z,y1⟩:=n x (fB d);have T:∀h,bA 2 h (.sl (bZ b.ex)) (.n (i:Int))=some (.fptr x.row 0):=fun h=>by simp[bA,X,O]
  have U:∀h,aB 2 true h (.fptr x.row 0)=some (.agg x.row):=fun h=>by simp[aB,cut,aE,Expo.row]
  have E:=qT (f:=exB) d;have f:=zJ5 hT hN b a I N n m j (i+1) S (by omega);rw[E,<-iN]at f;have fl:=rV (f:=exB) d;obtain⟨s,o⟩:∃s,s=a++(b.ex.take i).flatMap exB:=⟨_,rfl⟩;have p:s.length+(exB x).length<=1000000:=by rw[o,bX];omega
  rw[<-o]at f⊢;have J:=iS b 1;have y:=fun c h=>wI (G:=G) hT Z c h;obtain⟨k,t⟩:∃u,u=cM x.sym:=⟨_,rfl⟩;rw[<-t]at y;have w:=fun c h=>pP (G:=G) (n:=x.pos) hN ⟨y1.1,by omega⟩ c h;obtain⟨A,v⟩:∃u,u=bQ (x.pos).toNat:=⟨_,rfl⟩;rw[<-v]at w;have B:∀c,opV G c [.cells b.cells] (.alloc [.str [],.n 0]) (some [])=some (.ptr 1 0,[.cells b.cells,.cells [.str [],.n 0]]):=fun c=>by rw[eG rfl];rfl
  have Y:aU 2 [.cells b.cells,.cells [.str [],.n 0]] (.ptr 1 0) (.agg x.row)=some [.cells b.cells,.cells x.row]:=by simp[aU,bK,Expo.row]
  have fin:=fun l(L:bW 1 l=true)=>wR (fr:=l) (a:=.cells b.cells) (x:=.cells x.row) L (by simp[cV,gD,iS b 1]);have F:aB 1 false [.cells b.cells,.cells x.row] (.ptr 1 0)=some (.str x.sym):=aR (l:=1) rfl rfl;have H:aB 1 false [.cells b.cells,.cells x.row] (.ptr 1 1)=some (.n x.pos):=aR (l:=1) rfl rfl;have K:exB x=k++(A):=by simp only[exB,<-t,<-v]
  rw[K]at f p;simp only[bX]at p;have V:s.length+k.length<=dP:=by unfold dP;omega
  have W:s.length+k.length+A.length<=dP:=by unfold dP;omega
  refine aJ (Mc.ad_L3.eq_1) ?_;rw[aQ (n:=1) rfl];generalize bZ b.ex=RF at*;generalize b.cells=C at*;simp[q,T,U,y,w,B,Y,F,H,V,W,P,-aB,-bB,-fQ];refine cZ ?_;rw[fin _ (by simp[bW,low,J])];simpa using f
theorem zJ6{G:Gam}(hT:G Fn.a7=some (.pure qF))(hN:G Fn.az=some (.pure qE))(b:Bin)(a:Bs)(I:a.length+(b.nt.flatMap ntB).length<=1000000)(N:b.nt.length<=1000000)(n:∀x∈b.nt,x.1.length<=65536/\x.2.length<=65536){ks:List MK}{Q:aY}(m:∀D,exM G .normal ks Q D [(0,.agg b.cells),(1,.ptr 0 0),(2,.str []),(3,.n 0),(4,.str (a++b.nt.flatMap ntB)),(6,.junk),(8,.junk),(10,.junk),(12,.junk),(14,.junk),(39,.sl (aK b.pl)),(40,.n b.pl.length),(41,.n b.pl.length),(74,.sl (bO b.fx)),(75,.n b.fx.length),(76,.n b.fx.length),(92,.sl (bP b.im)),(93,.n b.im.length),(94,.n b.im.length),(119,.sl (bZ b.ex)),(120,.n b.ex.length),(121,.n b.ex.length),(142,.sl (dK b.nt)),(143,.n b.nt.length),(144,.n b.nt.length)] [.cells b.cells]):∀(j:List (Bs×Bs))(i:Nat),b.nt.drop i=j->i<=b.nt.length->cY G [14] Mc.ad_L4 1 (.blk 8::ks) Q [(0,.agg b.cells),(1,.ptr 0 0),(2,.str []),(3,.n 0),(4,.str (a++(b.nt.take i).flatMap ntB)),(6,.junk),(8,.junk),(10,.junk),(12,.junk),(14,.junk),(39,.sl (aK b.pl)),(40,.n b.pl.length),(41,.n b.pl.length),(74,.sl (bO b.fx)),(75,.n b.fx.length),(76,.n b.fx.length),(92,.sl (bP b.im)),(93,.n b.im.length),(94,.n b.im.length),(119,.sl (bZ b.ex)),(120,.n b.ex.length),(121,.n b.ex.length),(142,.sl (dK b.nt)),(143,.n b.nt.length),(144,.n i)] [.cells b.cells]
 |[],i,g,M=>by
  have a2:=drop_nil g;have e:i=b.nt.length:=by omega
  subst e;have q:ltB (b.nt.length:Int) b.nt.length=false:=bC.2 (by omega);rw[kE];refine aJ (Mc.ad_L4.eq_1) ?_;rw[aQ (n:=1) rfl];generalize a++b.nt.flatMap ntB=a1 at*;generalize b.cells=C at*;simp;simpa using m _|x::j,i,g,M=>by
  obtain⟨a3,d,S⟩:=eT g;have q:ltB (i:Int) (b.nt.length:Int)=true:=aO.2 (by omega);have P:=dT (i:=i) (by unfold big;omega);have X:=KL d;have O:(dI x).length=2:=rfl;obtain⟨Z,x2⟩:=n x (fB d);have T:∀h,bA 2 h (.sl (dK b.nt)) (.n (i:Int))=some (.fptr (dI x) 0):=fun h=>by simp[bA,X,O]
  have U:∀h,aB 2 true h (.fptr (dI x) 0)=some (.agg (dI x)):=fun h=>by simp[aB,cut,aE,dI]
  have E:=qT (f:=ntB) d;have f:=zJ6 hT hN b a I N n m j (i+1) S (by omega);rw[E,<-iN]at f;have fl:=rV (f:=ntB) d;obtain⟨s,o⟩:∃s,s=a++(b.nt.take i).flatMap ntB:=⟨_,rfl⟩;have p:s.length+(ntB x).length<=1000000:=by rw[o,bX];omega
  rw[<-o]at f⊢;have J:=iS b 1;have w:=fun c h=>wI (G:=G) hT Z c h;obtain⟨k,t⟩:∃u,u=cM x.1:=⟨_,rfl⟩;rw[<-t]at w;have y:=fun c h=>wI (G:=G) hT x2 c h;obtain⟨A,v⟩:∃u,u=cM x.2:=⟨_,rfl⟩;rw[<-v]at y;have B:∀c,opV G c [.cells b.cells] (.alloc [.str [],.str []]) (some [])=some (.ptr 1 0,[.cells b.cells,.cells [.str [],.str []]]):=fun c=>by rw[eG rfl];rfl
  have Y:aU 2 [.cells b.cells,.cells [.str [],.str []]] (.ptr 1 0) (.agg (dI x))=some [.cells b.cells,.cells (dI x)]:=by simp[aU,bK,dI]
  have fin:=fun l(L:bW 1 l=true)=>wR (fr:=l) (a:=.cells b.cells) (x:=.cells (dI x)) L (by simp[cV,gD,iS b 1]);have F:aB 1 false [.cells b.cells,.cells (dI x)] (.ptr 1 0)=some (.str x.1):=aR (l:=1) rfl rfl;have H:aB 1 false [.cells b.cells,.cells (dI x)] (.ptr 1 1)=some (.str x.2):=aR (l:=1) rfl rfl;have K:ntB x=k++(A):=by simp only[ntB,<-t,<-v]
  rw[K]at f p;simp only[bX]at p;have V:s.length+k.length<=dP:=by unfold dP;omega
  have W:s.length+k.length+A.length<=dP:=by unfold dP;omega
  refine aJ (Mc.ad_L4.eq_1) ?_;rw[aQ (n:=1) rfl];generalize dK b.nt=RF at*;generalize b.cells=C at*;simp[q,T,U,w,y,B,Y,F,H,V,W,P,-aB,-bB,-fQ];refine cZ ?_;rw[fin _ (by simp[bW,low,J])];simpa using f
theorem xi9{G:Gam}(b:Bin)(hl:(dC b).length<=65536)(a:List (Nat×AV)):exM G .normal [.seq NR] (aD Rs.ad (.tup [.str (dC b),.n 0])) a [(0,.agg b.cells),(1,.ptr 0 0),(2,.str []),(3,.n 0),(4,.str (dC b)),(6,.junk),(8,.junk),(10,.junk),(12,.junk),(14,.junk),(39,.sl (aK b.pl)),(40,.n b.pl.length),(41,.n b.pl.length),(74,.sl (bO b.fx)),(75,.n b.fx.length),(76,.n b.fx.length),(92,.sl (bP b.im)),(93,.n b.im.length),(94,.n b.im.length),(119,.sl (bZ b.ex)),(120,.n b.ex.length),(121,.n b.ex.length),(142,.sl (dK b.nt)),(143,.n b.nt.length),(144,.n b.nt.length)] [.cells b.cells]:=by
 have q:ltB 65536 ((dC b).length:Int)=false:=bC.2 (by omega);generalize dC b=S at*;generalize b.cells=c at*;simp[NR,q,aD,Rs.ad,upd,lkp]
section
variable{G:Gam}(hT:G Fn.a7=some (.pure qF))(hN:G Fn.az=some (.pure qE))(b:Bin)(R:OkRange b)(hl:(dC b).length<=65536)
include hT hN R hl
theorem xi8(S:Bs)(d:S++bQ b.nt.length++b.nt.flatMap ntB=dC b)(a:List (Nat×AV)):exM G .normal [.seq NQ] (aD Rs.ad (.tup [.str (dC b),.n 0])) a [(0,.agg b.cells),(1,.ptr 0 0),(2,.str []),(3,.n 0),(4,.str (S)),(6,.junk),(8,.junk),(10,.junk),(12,.junk),(14,.junk),(39,.sl (aK b.pl)),(40,.n b.pl.length),(41,.n b.pl.length),(74,.sl (bO b.fx)),(75,.n b.fx.length),(76,.n b.fx.length),(92,.sl (bP b.im)),(93,.n b.im.length),(94,.n b.im.length),(119,.sl (bZ b.ex)),(120,.n b.ex.length),(121,.n b.ex.length),(142,.junk),(143,.junk),(144,.junk)] [.cells b.cells]:=by
 have i:=congrArg List.length d;simp only[bX]at i;have p:=R.ntL;have c:=fun n h=>pP (G:=G) (n:=(b.nt.length:Int)) hN ⟨by omega,by omega⟩ n h;rw[iG]at c;have j:(S++bQ b.nt.length).length+(b.nt.flatMap ntB).length<=1000000:=by simp only[bX];omega
 have l:S.length+(bQ b.nt.length).length<=dP:=by unfold dP;omega
 have m:aB 1 false [.cells b.cells] (.ptr 0 7)=some (.sl (dK b.nt)):=aR (l:=0) rfl rfl;have e:=zJ6 hT hN b (S++bQ b.nt.length) j (by omega) (fun x k=>by obtain⟨f,g⟩:=R.nt x k;exact⟨f,g⟩) (ks:=[.seq NR]) (Q:=(aD Rs.ad (.tup [.str (dC b),.n 0]))) (fun a=>by rw[d];exact xi9 b hl a) b.nt 0 rfl (by omega);simp only[lA,jS,dY,kY]at e;generalize bQ b.nt.length=U at*;generalize b.cells=o at*;simp[NQ,m,c,l,upd,-aB];simpa using e
theorem xi7(S:Bs)(d:S++bQ b.ex.length++b.ex.flatMap exB++dU ntB b.nt=dC b)(a:List (Nat×AV)):exM G .normal [.seq NP] (aD Rs.ad (.tup [.str (dC b),.n 0])) a [(0,.agg b.cells),(1,.ptr 0 0),(2,.str []),(3,.n 0),(4,.str (S)),(6,.junk),(8,.junk),(10,.junk),(12,.junk),(14,.junk),(39,.sl (aK b.pl)),(40,.n b.pl.length),(41,.n b.pl.length),(74,.sl (bO b.fx)),(75,.n b.fx.length),(76,.n b.fx.length),(92,.sl (bP b.im)),(93,.n b.im.length),(94,.n b.im.length),(119,.junk),(120,.junk),(121,.junk),(142,.junk),(143,.junk),(144,.junk)] [.cells b.cells]:=by
 have i:=congrArg List.length d;simp only[bX]at i;have tl:=xi8 hT hN b R hl (S++bQ b.ex.length++b.ex.flatMap exB) (by rw[<-d];simp[dU]);have p:=R.exL;have c:=fun n h=>pP (G:=G) (n:=(b.ex.length:Int)) hN ⟨by omega,by omega⟩ n h;rw[iG]at c;have j:(S++bQ b.ex.length).length+(b.ex.flatMap exB).length<=1000000:=by simp only[bX];omega
 have l:S.length+(bQ b.ex.length).length<=dP:=by unfold dP;omega
 have m:aB 1 false [.cells b.cells] (.ptr 0 6)=some (.sl (bZ b.ex)):=aR (l:=0) rfl rfl;have e:=zJ5 hT hN b (S++bQ b.ex.length) j (by omega) (fun x k=>by obtain⟨f,g⟩:=R.ex x k;exact⟨f,g⟩) (ks:=[.seq NQ]) (Q:=(aD Rs.ad (.tup [.str (dC b),.n 0]))) (fun a=>tl a) b.ex 0 rfl (by omega);simp only[lA,jS,dY,kY]at e;generalize bQ b.ex.length=U at*;generalize b.cells=o at*;simp[NP,m,c,l,upd,-aB];simpa using e
theorem xi6(S:Bs)(d:S++bQ b.im.length++b.im.flatMap imB++dU exB b.ex++dU ntB b.nt=dC b)(a:List (Nat×AV)):exM G .normal [.seq NO] (aD Rs.ad (.tup [.str (dC b),.n 0])) a [(0,.agg b.cells),(1,.ptr 0 0),(2,.str []),(3,.n 0),(4,.str (S)),(6,.junk),(8,.junk),(10,.junk),(12,.junk),(14,.junk),(39,.sl (aK b.pl)),(40,.n b.pl.length),(41,.n b.pl.length),(74,.sl (bO b.fx)),(75,.n b.fx.length),(76,.n b.fx.length),(92,.junk),(93,.junk),(94,.junk),(119,.junk),(120,.junk),(121,.junk),(142,.junk),(143,.junk),(144,.junk)] [.cells b.cells]:=by
 have j:=congrArg List.length d;simp only[bX]at j;have tl:=xi7 hT hN b R hl (S++bQ b.im.length++b.im.flatMap imB) (by rw[<-d];simp[dU]);have q:=R.imL;have c:=fun o h=>pP (G:=G) (n:=(b.im.length:Int)) hN ⟨by omega,by omega⟩ o h;rw[iG]at c;have k:(S++bQ b.im.length).length+(b.im.flatMap imB).length<=1000000:=by simp only[bX];omega
 have m:S.length+(bQ b.im.length).length<=dP:=by unfold dP;omega
 have n:aB 1 false [.cells b.cells] (.ptr 0 5)=some (.sl (bP b.im)):=aR (l:=0) rfl rfl;have e:=zJ4 hT hN b (S++bQ b.im.length) k (by omega) (fun x l=>by obtain⟨f,g,i⟩:=R.im x l;exact⟨f,g,i⟩) (ks:=[.seq NP]) (Q:=(aD Rs.ad (.tup [.str (dC b),.n 0]))) (fun a=>tl a) b.im 0 rfl (by omega);simp only[lA,jS,dY,kY]at e;generalize bQ b.im.length=U at*;generalize b.cells=p at*;simp[NO,n,c,m,upd,-aB];simpa using e
theorem xi5(S:Bs)(d:S++bQ b.fx.length++b.fx.flatMap fxB++dU imB b.im++dU exB b.ex++dU ntB b.nt=dC b)(a:List (Nat×AV)):exM G .normal [.seq HQ] (aD Rs.ad (.tup [.str (dC b),.n 0])) a [(0,.agg b.cells),(1,.ptr 0 0),(2,.str []),(3,.n 0),(4,.str (S)),(6,.junk),(8,.junk),(10,.junk),(12,.junk),(14,.junk),(39,.sl (aK b.pl)),(40,.n b.pl.length),(41,.n b.pl.length),(74,.junk),(75,.junk),(76,.junk),(92,.junk),(93,.junk),(94,.junk),(119,.junk),(120,.junk),(121,.junk),(142,.junk),(143,.junk),(144,.junk)] [.cells b.cells]:=by
 have f:=congrArg List.length d;simp only[bX]at f;have tl:=xi6 hT hN b R hl (S++bQ b.fx.length++b.fx.flatMap fxB) (by rw[<-d];simp[dU]);have n:=R.fxL;have c:=fun l h=>pP (G:=G) (n:=(b.fx.length:Int)) hN ⟨by omega,by omega⟩ l h;rw[iG]at c;have g:(S++bQ b.fx.length).length+(b.fx.flatMap fxB).length<=1000000:=by simp only[bX];omega
 have j:S.length+(bQ b.fx.length).length<=dP:=by unfold dP;omega
 have k:aB 1 false [.cells b.cells] (.ptr 0 4)=some (.sl (bO b.fx)):=aR (l:=0) rfl rfl;have e:=zJ3 hT hN b (S++bQ b.fx.length) g (by omega) (fun x i=>R.fx x i) (ks:=[.seq NO]) (Q:=(aD Rs.ad (.tup [.str (dC b),.n 0]))) (fun a=>tl a) b.fx 0 rfl (by omega);simp only[lA,jS,dY,kY]at e;generalize bQ b.fx.length=U at*;generalize b.cells=m at*;simp[HQ,k,c,j,upd,-aB];simpa using e
end
theorem yc4{G:Gam}(F:G Fn.aa=some (.pure kX))(hT:G Fn.a7=some (.pure qF))(hN:G Fn.az=some (.pure qE)):PW G Mc.ad Rs.ad Ks.ad qC:=by
 intro a3 r c;unfold qC at c;split at c
 ·rename_i x;split at c
  ·rename_i b H;have J:=mE H;subst J;split at c
   ·rename_i I;obtain⟨M,t,hl⟩:=I;injection c with c;subst c;have R:=OO t hl;have V:=fun a=>qO (G:=G) b a;have P:=AM (b:=b) [];have w:∀a h,opV G a h (.call Fn.aa) (some [.agg b.cells])=some (.n 0,h):=fun a h=>bF F (us:=[.agg b.cells]) (qM b h) (by simp only[kX,jK];rw[if_pos M,t]) (.inl rfl);have f:(dC b).length=(cM iI).length+((bQ b.kind.toNat).length+((bQ (b.entry+1).toNat).length+((cM b.img).length+((bQ b.pl.length).length+((b.pl.flatMap plB).length+((dU fxB b.fx).length+((dU imB b.im).length+((dU exB b.ex).length+(dU ntB b.nt).length)))))))):=by
     unfold dC oA;simp only[bX,dU];omega
    have hm:=R.plL;have L:=R.img;have hk:=R.kind;have hy:=R.entry;have j:=fun a h=>wI (G:=G) (s:=iI) hT (by decide) a h;have k:=fun a h=>pP (G:=G) (n:=b.kind) hN ⟨by omega,by omega⟩ a h;have l:=fun a h=>pP (G:=G) (n:=b.entry+1) hN ⟨by omega,by omega⟩ a h;have m:=fun a h=>wI (G:=G) (s:=b.img) hT L a h;have i:=fun a h=>pP (G:=G) (n:=(b.pl.length:Int)) hN ⟨by omega,by omega⟩ a h;rw[iG]at i;have W:aB 1 false [.cells b.cells] (.ptr 0 0)=some (.n b.kind):=aR (l:=0) rfl rfl;have X:aB 1 false [.cells b.cells] (.ptr 0 1)=some (.n b.entry):=aR (l:=0) rfl rfl;have Y:aB 1 false [.cells b.cells] (.ptr 0 2)=some (.str b.img):=aR (l:=0) rfl rfl;have Z:aB 1 false [.cells b.cells] (.ptr 0 3)=some (.sl (aK b.pl)):=aR (l:=0) rfl rfl;have wr:IntKind.i64.wrap (b.entry+1)=b.entry+1:=i64_in _ ⟨by omega,by omega⟩;obtain⟨d,n⟩:∃u,u=cM iI:=⟨_,rfl⟩;obtain⟨e,o⟩:∃u,u=bQ b.kind.toNat:=⟨_,rfl⟩;obtain⟨u3,p⟩:∃u,u=bQ (b.entry+1).toNat:=⟨_,rfl⟩;obtain⟨u4,q⟩:∃u,u=cM b.img:=⟨_,rfl⟩;obtain⟨g,s⟩:∃u,u=bQ b.pl.length:=⟨_,rfl⟩;have tl:=xi5 hT hN b R hl (d++(e++(u3++(u4++g)))++b.pl.flatMap plB) (by rw[n,o,p,q,s];simp[dU,dC,oA]);rw[<-n]at j f;rw[<-o]at k f;rw[<-p]at l f;rw[<-q]at m f;rw[<-s]at i f;have N:(d++(e++(u3++(u4++g)))).length+(b.pl.flatMap plB).length<=1000000:=by simp only[bX];omega
    have v:=zJ2 hT hN b (d++(e++(u3++(u4++g)))) N (by omega) (fun a1 O=>by obtain⟨A,B,C,h4,h5,D,E⟩:=R.pl a1 O;exact⟨A,B,⟨C,h5⟩,D,E⟩) (ks:=[.seq HQ]) (Q:=(aD Rs.ad (.tup [.str (dC b),.n 0]))) (fun y=>tl y) b.pl 0 rfl (by omega);simp only[lA,jS,dY,kY]at v;have Q:d.length+e.length<=dP:=by unfold dP;omega
    have S:d.length+e.length+u3.length<=dP:=by unfold dP;omega
    have T:d.length+(e.length+u3.length)+u4.length<=dP:=by unfold dP;omega
    have U:d.length+(e.length+(u3.length+u4.length))+g.length<=dP:=by unfold dP;omega
    have K:([98,105,110,97,114,121]:Bs)=iI:=rfl;rw[Mc.ad,aM];simp only[K];generalize iI=HB at*;generalize HQ=a2 at*;generalize dC b=BB at*;generalize b.cells=x at*;simp[Ks.ad,aC,upd,lkp,V,P,w,W,X,Y,Z,j,k,l,m,i,wr,Q,S,T,U,-aB];simpa using v
   ·cases c
  ·cases c
 ·cases c
theorem zU8{G:Gam}(s:G Fn.aa=some (.pure kX))(t:G Fn.d5=some (.pure rJ))(hT:G Fn.a5=some (.pure iL)):PW G Mc.dz Rs.dz Ks.dz sS:=by
 intro L r e;unfold sS at e;split at e
 ·rename_i M f g;split at e
  ·rename_i b u;have B:=mE u;subst B;split at e
   ·rename_i v;obtain⟨E,w,A,C,O,N⟩:=v;injection e with e;subst e;have k:=A;unfold BL at k;obtain⟨P,Q,S,T,l⟩:=of_decide_eq_true k;have j:=fun d h=>zD3 (G:=G) t l f d h;have i:∀d h,opV G d h (.call Fn.aa) (some [.agg b.cells])=some (.n 0,h):=fun d h=>bF s (us:=[.agg b.cells]) (qM b h) (by simp only[kX,jK];rw[if_pos E,w]) (.inl rfl);have p:∀d h,opV G d h (.call Fn.a5) (some [.str f])=some (.T,h):=fun d h=>bF hT (us:=[.str f]) rfl (by simp only[iL];rw[if_pos (by omega),C]) (.inl rfl);have q:ltB 65536 (g.length:Int)=false:=bC.2 (by omega);have F:ltB (0:Int) 64=true:=rfl;have D:dK b.nt=[]:=by rw[l];rfl
    have y:b.cells=[.n b.kind,.n b.entry,.str b.img,.sl (aK b.pl),.sl (bO b.fx),.sl (bP b.im),.sl (bZ b.ex),.sl []]:=by unfold Bin.cells;rw[D]
    have x:(eQ b (f,g)).cells=[.n b.kind,.n b.entry,.str b.img,.sl (aK b.pl),.sl (bO b.fx),.sl (bP b.im),.sl (bZ b.ex),.sl [[.str f,.str g]]]:=rfl;rw[x];rw[y]at j i⊢;have m:∀d(h:aA),opV G d h (.app false 2 32) (some [.tsl [],.sl []])=some (.tsl [],h):=fun d h=>by rw[eG rfl];simp[cG,kF,rowsOf,dB,lN]
    have o:∀d(a b c:Blk),opV G d [a,b,c] (.app false 2 32) (some [.tsl [],.tsl [[.str f,.str g]]])=some (.own 3 0 1,[a,b,c,.arr 2 0 [[.str f,.str g]] true]):=fun d a b c=>by rw[eG rfl];simp[cG,kF,rowsOf,dB,lN,bT]
    have n:∀d(h:aA),opV G d h (.bsl false 2) (some [])=some (.tsl [],h):=fun d h=>by rw[kI rfl];simp[bU,dB,fW]
    rw[aM];generalize aK b.pl=H at*;generalize bO b.fx=I at*;generalize bP b.im=J at*;generalize bZ b.ex=K at*;simp[Mc.dz,Ks.dz,aC,upd,lkp,j,i,p,q,F,aD,Rs.dz,AV.cells,bK,cut,aE,dB,fW,bE,bU,view,dX,owns,m,n,o,rowsOf]
   ·cases e
  ·cases e
 ·cases e
end Go.Proofs.YtdebajodkallbaaGreatDoor
