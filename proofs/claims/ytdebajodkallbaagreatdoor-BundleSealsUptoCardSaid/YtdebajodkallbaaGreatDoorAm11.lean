/- Running the small language -/
import Derived.Test.YtdebajodkallbaaGreatDoorAm8
namespace Go.Proofs.YtdebajodkallbaaGreatDoor
open Go.RowKit
mutual def gE:AV->AV->Bool
 |.bool a,.bool b=>a==b|.int k a,.int n b=>decide (k=n)&&decide (a=b)|.str s,.str t=>decide (s=t)|.agg a,.agg b=>pD a b|.tup a,.tup b=>pD a b|.sl a,.sl b=>xQ a b|.tsl a,.tsl b=>xQ a b|.nils,.nils=>true|.own a b c,.own e h l=>decide (a=e)&&decide (b=h)&&decide (c=l)|.ptr a b,.ptr e h=>decide (a=e)&&decide (b=h)|.fptr r a,.fptr o e=>pD r o&&decide (a=e)|.eptr a b c d,.eptr e h l m=>decide (a=e)&&decide (b=h)&&decide (c=l)&&decide (d=m)|.gptr a b,.gptr e h=>decide (a=e)&&decide (b=h)|.nilp,.nilp=>true|.map a,.map b=>decide (a=b)|.nilm,.nilm=>true|.fn f a,.fn g b=>decide (f=g)&&pD a b|.mth f a,.mth g b=>decide (f=g)&&gE a b|.nilf,.nilf=>true|.iface t a,.iface u b=>decide (t=u)&&gE a b|.nili,.nili=>true|.junk,.junk=>true|_,_=>false def pD:List AV->List AV->Bool
 |[],[]=>true|a::i,b::j=>gE a b&&pD i j|_,_=>false def xQ:List (List AV)->List (List AV)->Bool
 |[],[]=>true|a::i,b::j=>pD a b&&xQ i j|_,_=>false end
mutual theorem xR:∀(a b:AV),gE a b=true->a=b
 |.bool a,b,h=>by cases b<;>simp_all[gE]|.int k a,b,h=>by cases b<;>simp_all[gE]|.str s,b,h=>by cases b<;>simp_all[gE]|.agg a,b,h=>by
  cases b<;>simp only[gE,dE]at h;rw[tR a _ h]|.tup a,b,h=>by
  cases b<;>simp only[gE,dE]at h;rw[tR a _ h]|.sl a,b,h=>by
  cases b<;>simp only[gE,dE]at h;rw[OB a _ h]|.tsl a,b,h=>by
  cases b<;>simp only[gE,dE]at h;rw[OB a _ h]|.nils,b,h=>by cases b<;>simp_all[gE]|.own _ _ _,b,h=>by cases b<;>simp_all[gE]|.win _ _ _ _,b,h=>by cases b<;>simp_all[gE]|.ptr _ _,b,h=>by cases b<;>simp_all[gE]|.fptr r _,b,h=>by
  cases b<;>simp only[gE,dE,bS,fU]at h;rw[tR r _ h.1,h.2]|.eptr _ _ _ _,b,h=>by cases b<;>simp_all[gE]|.gptr _ _,b,h=>by cases b<;>simp_all[gE]|.nilp,b,h=>by cases b<;>simp_all[gE]|.map _,b,h=>by cases b<;>simp_all[gE]|.nilm,b,h=>by cases b<;>simp_all[gE]|.fn _ a,b,h=>by
  cases b<;>simp only[gE,dE,bS,fU]at h;rw[tR a _ h.2,h.1]|.mth _ a,b,h=>by
  cases b<;>simp only[gE,dE,bS,fU]at h;rw[xR a _ h.2,h.1]|.nilf,b,h=>by cases b<;>simp_all[gE]|.iface _ a,b,h=>by
  cases b<;>simp only[gE,dE,bS,fU]at h;rw[xR a _ h.2,h.1]|.nili,b,h=>by cases b<;>simp_all[gE]|.yld _,b,h=>by cases b<;>simp_all[gE]|.junk,b,h=>by cases b<;>simp_all[gE]theorem tR:∀(a b:List AV),pD a b=true->a=b
 |[],b,h=>by cases b<;>simp_all[pD]|a::c,b,h=>by cases b with
  |nil=>simp[pD]at h|cons b d=>
   simp only[pD,bS]at h;rw[xR a b h.1,tR c d h.2]theorem OB:∀(a b:List (List AV)),xQ a b=true->a=b
 |[],b,h=>by cases b<;>simp_all[xQ]|a::c,b,h=>by cases b with
  |nil=>simp[xQ]at h|cons b d=>
   simp only[xQ,bS]at h;rw[tR a b h.1,OB c d h.2]end
def LC(G:Gam)(m:MI)(a b:List (Nat×AV))(v:AV)(h:aA):Bool:=!m.o.loud&&match eH G true m (bV a b) h with
 |some (u,_)=>gE u v|none=>false
theorem xq8{G:Gam}{m:MI}{e:Nat->Option AV}{h c:aA}{v:AV}(d:m.o.loud=false)(a:eH G true m e h=some (v,c)):c=h:=by
 unfold eH at a;simp only[d,iF,uX,bD]at a;split at a
 ·split at a;·cases b:jL G h m.o _ with
   |none=>rw[b]at a;cases a|some u=>rw[b]at a;simp at a;exact a.2.symm
  ·cases a
 ·split at a
  ·split at a
   ·split at a;·cases b:jL G h m.o _ with
     |none=>rw[b]at a;cases a|some u=>rw[b]at a;simp at a;exact a.2.symm
    ·cases a
   ·simp at a;exact a.2.symm
  ·simp at a;exact a.2.symm
  ·cases a
theorem zN5{G:Gam}{m:MI}{b c:List (Nat×AV)}{v:AV}{h:aA}(a:LC G m b c v h=true):eH G true m (bV b c) h=some (v,h):=by
 unfold LC at a;simp only[bS,lK]at a;obtain⟨e,a⟩:=a;split at a
 ·rename_i u f d;rw[d,xR _ _ a,xq8 e d]
 ·cases a
structure PX where
 n:Nat
 m:MI
 env:List (Nat×AV)fr:List (Nat×AV)v:AV
def PX.pd(G:Gam)(x:PX):Nat×(aA->Prop):=(x.n,fun h=>eH G true x.m (bV x.env x.fr) h=some (x.v,h))
def EC(G:Gam)(h:aA):List PX->Bool
 |[]=>true|x::r=>(x.n !=0||LC G x.m x.env x.fr x.v h)&&EC G h r
def FC:List PX->List PX
 |[]=>[]|⟨0,_,_,_,_⟩::r=>FC r|⟨n+1,m,e,f,v⟩::r=>⟨n,m,e,f,v⟩::FC r
def KK(m:MI)(a b:List (Nat×AV))(v:AV):List Nat->List PX
 |[]=>[]|d::r=>⟨d,m,a,b,v⟩::KK m a b v r
theorem PH{G:Gam}{h:aA}:∀{l:List PX},EC G h l=true->oH h (l.map (PX.pd G))
 |[],_=>trivial|⟨0,m,e,f,v⟩::r,a=>by
  simp only[EC,bS,Bool.or_eq_true,bne_iff_ne,ne_eq,xP,false_or]at a;exact⟨zN5 a.1,PH a.2⟩|⟨n+1,m,e,f,v⟩::r,a=>by
  simp only[EC,bS]at a;exact PH (l:=r) a.2
theorem WN{G:Gam}:∀{l:List PX},mW (l.map (PX.pd G))=(FC l).map (PX.pd G)
 |[]=>rfl|⟨0,_,_,_,_⟩::r=>WN (l:=r)|⟨_+1,_,_,_,_⟩::r=>congrArg (_::·) (WN (l:=r))
theorem zC9{G:Gam}{m:MI}{a b:List (Nat×AV)}{v:AV}:∀{l:List Nat},qX G m a b v l=(KK m a b v l).map (PX.pd G)
 |[]=>rfl|_::r=>congrArg (_::·) (zC9 (l:=r))
def yT(G:Gam)(d:aA):List ME->List PX->List (Nat×AV)->List (Nat×AV)->aA->Option (List (Nat×AV)×List (Nat×AV)×aA)
 |[],c,a,b,h=>if EC G h c then some (a,b,h)else none|(e,i,m)::g,c,a,b,h=>if EC G h c then(match eH G true m (bV a b) h with
  |none=>none|some (v,f)=>if !e||LC G m a b v d then(match m.dst with
   |none=>yT G d g (KK m a b v i++FC c) a b f|some t=>if m.kept then yT G d g (KK m a b v i++FC c) a (upd t v b) f else yT G d g (KK m a b v i++FC c) ((t,v)::a) b f)else none)else none
theorem RS{G:Gam}{p:aA}{Q:List (Nat×AV)->List (Nat×AV)->aA->Prop}:∀{o:List ME}{pd:List PX}{d g f i:List (Nat×AV)}{h j:aA},yT G p o pd d g h=some (f,i,j)->Q f i j->kJ G p o Q (pd.map (PX.pd G)) d g h
 |[],pd,d,g,f,i,h,j,a,c=>by
  simp only[yT]at a;split at a
  ·rename_i k;simp only[aT,dF]at a;obtain⟨rfl,rfl,rfl⟩:=a;exact⟨PH k,c⟩
  ·cases a|(e,w,m)::o,pd,d,g,f,i,h,j,a,c=>by
  simp only[yT]at a;split at a
  ·rename_i k;refine⟨PH k,?_⟩;split at a;·cases a
   ·rename_i v s r;split at a
    ·rename_i b;rw[r];refine⟨fun q=>?_,?_⟩
     ·subst q;simp only[nG,uY]at b;have u:m.o.loud=false:=by
       unfold LC at b;simp only[bS,lK]at b;exact b.1
      exact zN5 b
     ·rw[zC9,WN,<-List.map_append];split at a;·rename_i n;simp only[n];exact RS a c
      ·rename_i t n;simp only[n];split at a;·rename_i l;rw[if_pos l];exact RS a c
       ·rename_i l;rw[if_neg l];exact RS a c
    ·cases a
  ·cases a
abbrev StX:=MX×List (Nat×AV)×List (Nat×AV)×aA
abbrev TX:=List (Nat×AV)->List (Nat×AV)->aA->Option StX
def QK(T:TX)(a:List Nat)(n:Nat):Nat->List (Nat×AV)->aA->Option StX
 |0,_,_=>none|N+1,b,h=>match T [] (bM a b) (sO a n (bM a b) h)with
  |some (.normal,_,c,d)=>QK T a n N c d|r=>r
def EZ(h:aA)(k:Nat)(b:Bool):Bool:=match h[k]? with
 |some (.lp c .normal)=>c==b|_=>false
theorem QO{h:aA}{k:Nat}{b:Bool}(a:EZ h k b=true):h[k]?=some (.lp b .normal):=by
 unfold EZ at a;split at a;·rename_i c d;rw[d];simp at a;rw[a]
 ·cases a
def YC(e f:TX)(d:List Nat)(g:List (Nat×AV))(k:Nat)(a:List AV)(h:aA):Option (MX×aA):=if EZ h k false&&decide (a.length=d.length)then(match e [] (oK d a g) h with
 |some (.normal,_,i,b)=>if EZ b k false then(match f [] i (b.set k (.lp true .normal))with
  |some (x,_,_,c)=>if EZ c k true then some (x,c.set k (.lp false x))else none|none=>none)else none|_=>none)else none
def rgX(F:RdF)(T:List AV->aA->Option (MX×aA))(k:Nat):Nat->Nat->aA->Option (MX×aA)
 |0,_,_=>none|N+1,j,h=>match F j h with
  |none=>none|some (none,a)=>if EZ a k false then some (.normal,a.set k .dead)else none|some (some c,a)=>match T c a with
   |some (.normal,b)=>rgX F T k N (j+1) b|some (x,b)=>some (x,b.set k .dead)|none=>none
def sK:R->Option StX
 |.ok a b h=>some (.normal,a,b,h)|.bad=>none
def YB:Option (List (Nat×AV)×List (Nat×AV)×aA)->Option StX
 |some (a,b,h)=>some (.normal,a,b,h)|none=>none
def zN6(r:Option StX)(k:TX):Option StX:=match r with
 |some (.normal,a,b,h)=>k a b h|r=>r
def zx2(c:Option AV)(a b:TX)(d e:List (Nat×AV))(h:aA):Option StX:=match c with
 |some (.bool true)=>a d e h|some (.bool false)=>b d e h|_=>none
def zk0(id:Nat)(r:Option StX):Option StX:=match r with
 |some (.exit j,a,b,h)=>some (if j=id then .normal else .exit j,a,b,h)|r=>r
def zK2(G:Gam)(N:Nat)(g:Option AV)(j:List Nat)(a b:TX)(e c:List (Nat×AV))(h:aA):Option StX:=match g with
 |some (.fn f d)=>(match G f with
  |some (.iter F)=>match rgX (F d (h++[.lp false .normal])) (YC a b j c h.length) h.length N 0 (h++[.lp false .normal])with
   |some (x,i)=>some (x,e,c,i)|none=>none
  |_=>none)|_=>none
def zK3(G:Gam)(g:Option AV)(a:Option Nat)(d:Bool)(c:List MI)(b:List (Nat×AV))(h:aA):Option StX:=match g with
 |some (.ptr l 0)=>(match mV h l with
  |some [r]=>sK (run G false c (iP a d [] b (some r)))|_=>none)|_=>none
def jD(G:Gam)(N:Nat):MC->TX
 |.skip=>fun e d h=>some (.normal,e,d,h)|.reg f=>fun _ d h=>sK (run G false f (.ok [] d h))|.rgd f=>fun _ d h=>sK (run G true f (.ok [] d h))|.rge f=>fun _ d h=>YB (yT G h f [] [] d h)|.seq a b=>fun e d h=>zN6 (jD G N a e d h) (jD G N b)|.ite c a b=>fun e d h=>zx2 (iD (bV e d) c) (jD G N a) (jD G N b) e d h|.blk id a=>fun e d h=>zk0 id (jD G N a e d h)|.loop i a=>fun _ d h=>QK (jD G N a) i h.length N d h|.exit id=>fun e d h=>some (.exit id,e,d,h)|.ret=>fun e d h=>some (.ret,e,d,h)|.rgf g l a b=>fun e d h=>zK2 G N (iD (bV e d) g) l (jD G N a) (jD G N b) e d h|.rgn g j k f=>fun _ d h=>zK3 G (iD (bV [] d) g) j k f d h|.both _ _=>fun _ _ _=>none|.bad=>fun _ _ _=>none
theorem zz6{T:aY->List (Nat×AV)->List (Nat×AV)->aA->Prop}{R:TX}(g:∀{Q:aY}{f c h x b d e},R f c h=some (x,b,d,e)->Q x b d e->T Q f c h){k:List Nat}{n:Nat}{Q:aY}:∀(N:Nat){f c:List (Nat×AV)}{h:aA}{x:MX}{b d:List (Nat×AV)}{e:aA},QK R k n N c h=some (x,b,d,e)->Q x b d e->iK T k n Q N f c h
 |0,_,_,_,_,_,_,_,a,_=>by cases a|N+1,f,c,h,x,b,d,e,a,j=>by
  simp only[QK]at a;simp only[iK];split at a
  ·rename_i o p q m;exact g m (by simp only[pR];exact zz6 g N a j)
  ·rename_i l;refine g a ?_;cases x with
   |normal=>exact absurd a (l _ _ _)|exit i=>exact j|ret=>exact j
theorem xk4{Ta Tb:aY->List (Nat×AV)->List (Nat×AV)->aA->Prop}{i j:TX}(n:∀{Q:aY}{d b h x e f c},i d b h=some (x,e,f,c)->Q x e f c->Ta Q d b h)(o:∀{Q:aY}{d b h x e f c},j d b h=some (x,e,f,c)->Q x e f c->Tb Q d b h){m:List Nat}{b:List (Nat×AV)}{k:Nat}{l:List AV}{h c:aA}{x:MX}{K:MX->aA->Prop}(a:YC i j m b k l h=some (x,c))(p:K x c):pQ Ta Tb m b k l h K:=by
 unfold YC at a;split at a
 ·rename_i g;simp only[bS,fU]at g;refine⟨QO g.1,g.2,?_⟩;split at a
  ·rename_i u w A s;split at a
   ·rename_i q;split at a
    ·rename_i y v z B t;split at a
     ·rename_i r;simp only[aT,dF]at a;obtain⟨rfl,rfl⟩:=a;exact n s ⟨QO q,o t ⟨QO r,p⟩⟩
     ·cases a
    ·cases a
   ·cases a
  ·cases a
 ·cases a
theorem zK1{F:RdF}{T:List AV->aA->(MX->aA->Prop)->Prop}{R:List AV->aA->Option (MX×aA)}(e:∀{d h x b}{K:MX->aA->Prop},R d h=some (x,b)->K x b->T d h K){k:Nat}{Q:MX->aA->Prop}:∀(N j:Nat){h:aA}{x:MX}{b:aA},rgX F R k N j h=some (x,b)->Q x b->rgM F T k Q N j h
 |0,_,_,_,_,a,_=>by cases a|N+1,j,h,x,b,a,c=>by
  simp only[rgX]at a;simp only[rgM];split at a;·cases a
  ·rename_i l f;simp only[f];split at a
   ·rename_i n;simp only[aT,dF]at a;obtain⟨rfl,rfl⟩:=a;exact⟨QO n,c⟩
   ·cases a
  ·rename_i d l f;simp only[f];split at a
   ·rename_i m g;exact e g (zK1 e N (j+1) a c)
   ·rename_i y m o g;simp only[aT,dF]at a;obtain⟨rfl,rfl⟩:=a;refine e g ?_;cases y with
    |normal=>simp at o|exit i=>exact c|ret=>exact c
   ·cases a
theorem oM{G:Gam}{N:Nat}:∀(c:MC){Q:aY}{p m:List (Nat×AV)}{h:aA}{x:MX}{k n:List (Nat×AV)}{o:aA},jD G N c p m h=some (x,k,n,o)->Q x k n o->wpM G c Q p m h
 |.skip,Q,p,m,h,x,k,n,o,d,e=>by simp only[jD,aT,dF]at d;obtain⟨rfl,rfl,rfl,rfl⟩:=d;exact e|.reg s,Q,p,m,h,x,k,n,o,d,e=>by
  simp only[jD,sK]at d;simp only[wpM];split at d;·rename_i q;simp only[aT,dF]at d;obtain⟨rfl,rfl,rfl,rfl⟩:=d;rw[q];exact e
  ·cases d|.rgd s,Q,p,m,h,x,k,n,o,d,e=>by
  simp only[jD,sK]at d;simp only[wpM];split at d;·rename_i q;simp only[aT,dF]at d;obtain⟨rfl,rfl,rfl,rfl⟩:=d;rw[q];exact e
  ·cases d|.rge s,Q,p,m,h,x,k,n,o,d,e=>by
  simp only[jD,YB]at d;simp only[wpM];split at d
  ·rename_i q;simp only[aT,dF]at d;obtain⟨rfl,rfl,rfl,rfl⟩:=d;exact RS (pd:=[]) q e
  ·cases d|.seq a b,Q,p,m,h,x,k,n,o,d,e=>by
  simp only[jD,zN6]at d;simp only[wpM];split at d
  ·rename_i D E z t;exact oM a t (by simp only[pR];exact oM b d e)
  ·rename_i w;refine oM a d ?_;cases x with
   |normal=>exact absurd d (w _ _ _)|exit i=>exact e|ret=>exact e
 |.ite c a b,Q,p,m,h,x,k,n,o,d,e=>by
  simp only[jD,zx2]at d;simp only[wpM];split at d;·rename_i u;rw[u];exact oM a d e
  ·rename_i u;rw[u];exact oM b d e
  ·cases d|.blk id a,Q,p,m,h,x,k,n,o,d,e=>by
  simp only[jD,zk0]at d;simp only[wpM];split at d
  ·rename_i j D E z t;simp only[aT,dF]at d;obtain⟨rfl,rfl,rfl,rfl⟩:=d;refine oM a t ?_;simp only[qN];split<;>rename_i A;·rw[if_pos A]at e;exact e
   ·rw[if_neg A]at e;exact e
  ·rename_i w;refine oM a d ?_;cases x with
   |normal=>exact e|exit i=>exact absurd d (w _ _ _ _)|ret=>exact e
 |.loop P a,Q,p,m,h,x,k,n,o,d,e=>by
  simp only[jD]at d;simp only[wpM];exact⟨N,zz6 (T:=wpM G a) (fun d e=>oM a d e) N d e⟩|.exit id,Q,p,m,h,x,k,n,o,d,e=>by simp only[jD,aT,dF]at d;obtain⟨rfl,rfl,rfl,rfl⟩:=d;exact e|.ret,Q,p,m,h,x,k,n,o,d,e=>by simp only[jD,aT,dF]at d;obtain⟨rfl,rfl,rfl,rfl⟩:=d;exact e|.rgf g M a b,Q,p,m,h,x,k,n,o,d,e=>by
  simp only[jD,zK2]at d;simp only[wpM];split at d
  ·rename_i f O v;rw[v];dsimp only;split at d
   ·rename_i F H;rw[H];split at d
    ·rename_i y z q;simp only[aT,dF]at d;obtain⟨rfl,rfl,rfl,rfl⟩:=d;exact⟨N,zK1 (T:=pQ (wpM G a) (wpM G b) M m h.length) (fun d e=>xk4 (Ta:=wpM G a) (Tb:=wpM G b) (fun d e=>oM a d e) (fun d e=>oM b d e) d e) N 0 q e⟩
    ·cases d
   ·cases d
  ·cases d|.rgn g C K s,Q,p,m,h,x,k,n,o,d,e=>by
  simp only[jD,zK3]at d;simp only[wpM];split at d
  ·rename_i l v;rw[v];split at d
   ·rename_i r I;have L:(match mV h l with
     |some B=>∀r∈B,match run G false s (iP C K [] m (some r))with
      |.ok k n o=>Q .normal k n o|.bad=>False
     |none=>False):=by
     rw[I];intro S J;obtain rfl:=mN.1 J;unfold sK at d;split at d;·rename_i q;simp only[aT,dF]at d;obtain⟨rfl,rfl,rfl,rfl⟩:=d;first|exact e|(rw[q];exact e)
     ·cases d
    exact L
   ·cases d
  ·cases d|.both a b,Q,p,m,h,x,k,n,o,d,e=>by cases d|.bad,Q,p,m,h,x,k,n,o,d,e=>by cases d
structure FE where
 ks:List Nat
 ow:List Nat
 dl:List (List Nat)kind:Nat deriving Inhabited
def fin(x:Option StX)(c:List RV):Option (AV×aA):=match x with
 |some (.exit _,_,_,_)=>none|some (_,a,b,h)=>(dS (bV a b) h c).map fun v=>(v,h)|none=>none
def FK(G:Gam)(N:Nat)(c:MC)(b:List Nat)(d:List RV)(a:List AV)(h:aA):Option (AV×aA):=fin (jD G N c [] (aC b a) h) d
def xm0(G:Gam)(N:Nat)(c:MC)(b:List Nat)(d:List RV)(a:List AV):Option AV:=match FK G N c b d a []with
 |some (v,h)=>view h v|none=>none
def xl6(G:Gam)(N:Nat)(c:MC)(b:List Nat)(d:List RV)(a:List AV):Option AV:=match FK G N c b d a []with
 |some (v,h)=>gB h v|none=>none
def xl9(G:Gam)(N:Nat)(d:MC)(c:List Nat)(e:List RV)(a:List AV):Option AV:=match FK G N d c e a []with
 |some (v,h)=>(match yU h (XJ v)with
  |some b=>gB b v|none=>none)|none=>none
def xm1(G:Gam)(N:Nat)(d:MC)(c:List Nat)(e:List RV)(a:List AV)(h:aA):Option (AV×aA):=match FK G N d c e a h with
 |some (v,b)=>frz b v|none=>none
def yF(n:Nat)(v:AV)(h:aA):Option aA:=if decide (n<=h.length)&&low n v&&cV n (h.take n)then some (h.take n)else if decide (n<=h.length)&&low h.length v&&cV h.length h then some h else none
theorem VU{n:Nat}{rs:List RV}{e:Nat->Option AV}{v:AV}{h f:aA}(i:dS e h rs=some v)(a:yF n v h=some f):NI n rs e h v f:=by
 unfold yF at a;split at a
 ·rename_i c;simp only[bS,fU]at c;injection a with a;subst a;have g:(h.take n).length=n:=by simp;omega
  refine⟨i,by omega,⟨by simp;omega,fun l b d=>.inr ?_⟩,by rw[g];exact c.1.2,by rw[g];exact c.2⟩;rw[fZ]at d;split at d;·exact d
  ·cases d
 ·split at a
  ·rename_i c;simp only[bS,fU]at c;injection a with a;subst a;exact⟨i,c.1.1,⟨dA _,fun l b d=>.inr d⟩,c.1.2,c.2⟩
  ·cases a
def xl7(G:Gam)(N:Nat)(e:MC)(d:List Nat)(f:List RV)(a:List AV)(h:aA):Option (AV×aA):=match FK G N e d f a h with
 |some (v,b)=>(yF h.length v b).map fun c=>(v,c)|none=>none
structure DfE where
 is0:List MI
 m1:MI
 g:FuncId
 gks:List Nat
 gis:List MI
structure Ent where
 mc:MC
 ks:List Nat
 rs:List RV
 kind:Nat
 df:Option DfE
def xl4(G:Gam)(N:Nat)(l:MC)(k:List Nat)(m:List RV)(x:DfE)(d:List AV)(h:aA):Option (AV×aA):=match run G false x.is0 (.ok [] (aC k d) h)with
 |.ok _ a b=>(match eH G false x.m1 (bV [] a) b with
  |some (.fn g n,_)=>if g=x.g then(match jD G N l [] a b with
   |some (.exit _,_,_,_)=>none|some (_,e,f,i)=>(match run G false x.gis (.ok [] (aC x.gks n) i)with
    |.ok _ _ c=>(match dS (bV e f) c m with
     |some v=>(yF h.length v c).map fun j=>(v,j)|none=>none)|.bad=>none)|none=>none)else none|_=>none)|.bad=>none
def UM(P:Program)(a:Gv)(T:FuncId->Option FE)(e:FE)(n:Nat)(o:List RV)(c:Code):Option Ent:=match ZA c with
 |some (l,h,f,t,g,_,m)=>(match T g,P.funcs[g]? with
  |some b,some d=>(match d.body with
   |some i=>(match XV i with
    |some j=>if !(e.ks.contains t)&&d.results.toList.isEmpty&&(b.ks.all fun k=>decide (k<d.ntmps))&&AZ P g&&(dZ P a e.ks n e.ow h f).o.quiet then some ⟨(nH P a e.ks n e.ow m e.dl).1,e.ks,o,4,some ⟨aX P a e.ks n e.ow l,dZ P a e.ks n e.ow h f,g,b.ks,aX P a b.ks d.ntmps b.ow j⟩⟩else none|none=>none)|none=>none)|_,_=>none)|none=>none
def entry(P:Program)(b:Gv)(T:FuncId->Option FE)(f:FuncId):Option Ent:=match T f with
 |none=>none|some e=>match P.funcs[f]? with
  |none=>none|some a=>match a.body with
   |none=>none|some c=>match mD P a.results.toList with
    |none=>none|some d=>if(e.ks.all fun k=>decide (k<a.ntmps))&&AZ P f then(if e.kind=4 then UM P b T e a.ntmps d c else some ⟨(nH P b e.ks a.ntmps e.ow c e.dl).1,e.ks,d,e.kind,none⟩)else none
def Ent.ct(x:Ent)(G:Gam)(N:Nat):CT:=match x.df with
 |some d=>.gen (xl4 G N x.mc x.ks x.rs d)|none=>match x.kind with
  |0=>.pure (xm0 G N x.mc x.ks x.rs)|1=>.pure (xl6 G N x.mc x.ks x.rs)|3=>.gen (xl7 G N x.mc x.ks x.rs)|5=>.pure (xl9 G N x.mc x.ks x.rs)|6=>.gen (xm1 G N x.mc x.ks x.rs)|_=>.gen (FK G N x.mc x.ks x.rs)
theorem xq7{G:Gam}{m:MI}{e:Nat->Option AV}{h c:aA}{v:AV}(f:m.o.quiet=true)(a:eH G false m e h=some (v,c)):c=h:=by
 have g:∀d,jB G h m.o d=some (v,c)->c=h:=fun d b=>by
  have i:jB G h m.o d=dN G h m.o d:=by
   generalize m.o=o at f;cases o<;>first|rfl|cases f
  rw[i,dN,if_pos f]at b;split at b;·injection b with b;injection b with _ b;exact b.symm
  ·cases b
 unfold eH at a;simp only[eW,dE,bY]at a;split at a
 ·split at a;·exact g _ a
  ·cases a
 ·split at a
  ·split at a
   ·split at a;·exact g _ a
    ·cases a
   ·injection a with a;injection a with _ a;exact a.symm
  ·injection a with a;injection a with _ a;exact a.symm
  ·cases a
def ED:List (AV×AV)->List (AV×AV)->Bool
 |[],[]=>true|(a,b)::r,(c,d)::s=>gE a c&&(gE b d&&ED r s)|_,_=>false
theorem zq7:∀(a b:List (AV×AV)),ED a b=true->a=b
 |[],b,h=>by cases b<;>simp_all[ED]|(a,b)::r,[],h=>by simp[ED]at h|(a,b)::r,(c,d)::s,h=>by
  simp only[ED,bS]at h;rw[xR _ _ h.1,xR _ _ h.2.1,zq7 r s h.2.2]
def TN:Blk->Blk->Bool
 |.cellsT t k,.cellsT u m=>decide (t=u)&&pD k m|.arrX c t g v e wr,.arrX d i h j f l=>decide (c=d/\t=i/\g=h/\v=j/\wr=l)&&xQ e f|.map a,.map b=>ED a b|.dead,.dead=>true|_,_=>false
theorem yj4(a b:Blk)(h:TN a b=true):a=b:=by
 cases a<;>cases b<;>simp only[TN,dE,bS,fU]at h;·rw[h.1,tR _ _ h.2]
 ·obtain⟨⟨rfl,rfl,rfl,rfl,rfl⟩,c⟩:=h;rw[OB _ _ c]
 ·rw[zq7 _ _ h]
 ·rfl
def vS:aA->aA->Bool
 |[],[]=>true|a::r,b::s=>TN a b&&vS r s|_,_=>false
theorem JQ:∀(a b:aA),vS a b=true->a=b
 |[],b,h=>by cases b<;>simp_all[vS]|a::r,[],h=>by simp[vS]at h|a::r,b::s,h=>by
  simp only[vS,bS]at h;rw[yj4 _ _ h.1,JQ r s h.2]
abbrev TS:=List (Nat×AV)->List (Nat×AV)->aA->Option (List StX)
def II(f:StX->Option (List StX)):List StX->Option (List StX)
 |[]=>some []|o::a=>match f o with
  |some l=>(II f a).map (l++·)|none=>none
theorem TL{f:StX->Option (List StX)}:∀{L b:List StX},II f L=some b->∀o∈L,∃l,f o=some l/\∀x∈l,x∈b
 |[],b,h,o,a=>by cases a|p::k,b,h,o,a=>by
  simp only[II]at h;split at h
  ·rename_i l i;simp only[dJ]at h;obtain⟨r,d,rfl⟩:=h;rcases fE.1 a with rfl|a;·exact⟨l,i,fun x c=>List.mem_append_left _ c⟩
   ·obtain⟨j,e,g⟩:=TL d o a;exact⟨j,e,fun x c=>List.mem_append_right _ (g x c)⟩
  ·cases h
def DX(k:TS):StX->Option (List StX)
 |(.normal,a,b,h)=>k a b h|o=>some [o]
def QJ(T:TS)(a:List Nat)(n:Nat):Nat->List (Nat×AV)->aA->Option (List StX)
 |0,_,_=>none|N+1,b,h=>match T [] (bM a b) (sO a n (bM a b) h)with
  |some L=>II (DX fun _ b h=>QJ T a n N b h) L|none=>none
def zj9(id:Nat):StX->StX
 |(.exit j,a,b,h)=>(if j=id then .normal else .exit j,a,b,h)|o=>o
def KP:Option StX->Option (List StX)
 |some o=>some [o]|none=>none
def OA(G:Gam)(a:Option Nat)(d:Bool)(c:List MI)(b:List (Nat×AV)):List (AV×aA)->Option (List StX)
 |[]=>some []|r::e=>match sK (run G false c (iP a d [] b (some r))),OA G a d c b e with
  |some o,some l=>some (o::l)|_,_=>none
theorem zi4{G:Gam}{c:Option Nat}{f:Bool}{e:List MI}{d:List (Nat×AV)}:∀{b:List (AV×aA)}{L:List StX},OA G c f e d b=some L->∀r∈b,∃o∈L,sK (run G false e (iP c f [] d (some r)))=some o
 |[],L,_,r,a=>by cases a|s::b,L,h,r,a=>by
  simp only[OA]at h;split at h
  ·rename_i o l g i;injection h with h;subst h;rcases fE.1 a with rfl|a;·exact⟨o,by simp,g⟩
   ·obtain⟨k,j,h4⟩:=zi4 i r a;exact⟨k,by simp[j],h4⟩
  ·cases h
def vQ:List (Nat×AV)->List (Nat×AV)->Bool
 |[],[]=>true|(a,v)::r,(b,w)::s=>Nat.beq a b&&(gE v w&&vQ r s)|_,_=>false
theorem JN:∀(a b:List (Nat×AV)),vQ a b=true->a=b
 |[],b,h=>by cases b<;>simp_all[vQ]|(a,v)::r,[],h=>by simp[vQ]at h|(a,v)::r,(b,w)::s,h=>by
  simp only[vQ,bS]at h;rw[Nat.eq_of_beq_eq_true h.1,xR _ _ h.2.1,JN r s h.2.2]
def SF:StX->StX->Bool
 |(.normal,e,f,h),(.normal,a,b,c)=>vQ e a&&(vQ f b&&vS h c)|(.exit i,e,f,h),(.exit j,a,b,c)=>Nat.beq i j&&(vQ e a&&(vQ f b&&vS h c))|_,_=>false
theorem xq3(a b:StX)(c:SF a b=true):a=b:=by
 obtain⟨x,e,f,h⟩:=a;obtain⟨y,d,g,i⟩:=b;cases x<;>cases y<;>simp only[SF,dE,bS]at c;·rw[JN _ _ c.1,JN _ _ c.2.1,JQ _ _ c.2.2]
 ·rw[Nat.eq_of_beq_eq_true c.1,JN _ _ c.2.1,JN _ _ c.2.2.1,JQ _ _ c.2.2.2]
def ddS:List StX->List StX
 |[]=>[]|o::a=>o::(ddS a).filter fun p=>!SF o p
theorem zn6:∀{L:List StX}{o:StX},o∈L->o∈ddS L
 |[],o,h=>by cases h|p::b,o,h=>by
  rw[ddS];cases a:SF p o with
  |true=>rw[xq3 _ _ a];exact qK|false=>
   rcases fE.1 h with rfl|h;·exact qK
   ·exact rO _ (nX.2 ⟨zn6 h,by simp[a]⟩)
def jE(G:Gam)(N:Nat):MC->TS
 |.skip=>fun e d h=>some [(.normal,e,d,h)]|.reg f=>fun _ d h=>KP (sK (run G false f (.ok [] d h)))|.rgd f=>fun _ d h=>KP (sK (run G true f (.ok [] d h)))|.rge f=>fun _ d h=>KP (YB (yT G h f [] [] d h))|.seq a b=>fun e d h=>match jE G N a e d h with
  |some L=>II (DX (jE G N b)) L|none=>none
 |.ite c a b=>fun e d h=>match iD (bV e d) c with
  |some (.bool true)=>jE G N a e d h|some (.bool false)=>jE G N b e d h|_=>none
 |.blk id a=>fun e d h=>(jE G N a e d h).map fun L=>L.map (zj9 id)|.loop j a=>fun _ d h=>(QJ (jE G N a) j h.length N d h).map ddS|.exit id=>fun e d h=>some [(.exit id,e,d,h)]|.ret=>fun e d h=>some [(.ret,e,d,h)]|.rgf g n a b=>fun e d h=>KP (jD G N (.rgf g n a b) e d h)|.rgn g k m f=>fun _ d h=>match iD (bV [] d) g with
  |some (.ptr l 0)=>(match mV h l with
   |some i=>OA G k m f d i|none=>none)|_=>none
 |.both a b=>fun e d h=>match jE G N a e d h,jE G N b e d h with
  |some L,some M=>some (L++M)|_,_=>none
 |.bad=>fun _ _ _=>none
abbrev HI(Q:aY)(o:StX):Prop:=Q o.1 o.2.1 o.2.2.1 o.2.2.2
theorem zz5{T:aY->List (Nat×AV)->List (Nat×AV)->aA->Prop}{R:TS}(p:∀{Q:aY}{c a:List (Nat×AV)}{h:aA}{L:List StX},R c a h=some L->(∀o∈L,HI Q o)->T Q c a h){m:List Nat}{n:Nat}{Q:aY}:∀(N:Nat){c a:List (Nat×AV)}{h:aA}{L:List StX},QJ R m n N a h=some L->(∀o∈L,HI Q o)->iK T m n Q N c a h
 |0,_,_,_,_,b,_=>by cases b|N+1,c,a,h,L,b,k=>by
  simp only[QJ]at b;simp only[iK];split at b
  ·rename_i r q;refine p q fun o j=>?_;obtain⟨l,d,g⟩:=TL b o j;obtain⟨x,e,f,s⟩:=o;cases x with
   |normal=>exact zz5 p N d fun o j=>k o (g o j)|exit i=>
    simp only[DX,aT]at d;subst d;exact k _ (g _ (by simp))|ret=>
    simp only[DX,aT]at d;subst d;exact k _ (g _ (by simp))
  ·cases b
theorem QW{r:Option StX}{L:List StX}(h:KP r=some L):∃o,r=some o/\L=[o]:=by cases r with
 |none=>cases h|some o=>injection h with h;exact⟨o,rfl,h.symm⟩
theorem uF{G:Gam}{N:Nat}:∀(c:MC){Q:aY}{m k:List (Nat×AV)}{h:aA}{L:List StX},jE G N c m k h=some L->(∀o∈L,HI Q o)->wpM G c Q m k h
 |.skip,Q,m,k,h,L,d,j=>by simp only[jE,aT]at d;subst d;exact j _ (mN.2 rfl)|.reg t,Q,m,k,h,L,d,j=>by
  simp only[jE]at d;obtain⟨o,n,rfl⟩:=QW d;obtain⟨x,e,f,s⟩:=o;exact oM (.reg t) (N:=N) n (j _ (mN.2 rfl))|.rgd t,Q,m,k,h,L,d,j=>by
  simp only[jE]at d;obtain⟨o,n,rfl⟩:=QW d;obtain⟨x,e,f,s⟩:=o;exact oM (.rgd t) (N:=N) n (j _ (mN.2 rfl))|.rge t,Q,m,k,h,L,d,j=>by
  simp only[jE]at d;obtain⟨o,n,rfl⟩:=QW d;obtain⟨x,e,f,s⟩:=o;exact oM (.rge t) (N:=N) n (j _ (mN.2 rfl))|.seq a b,Q,m,k,h,L,d,j=>by
  simp only[jE]at d;simp only[wpM];split at d
  ·rename_i y n;refine uF a n fun o q=>?_;obtain⟨l,p,v⟩:=TL d o q;obtain⟨x,e,f,s⟩:=o;cases x with
   |normal=>exact uF b p fun o q=>j o (v o q)|exit i=>
    simp only[DX,aT]at p;subst p;exact j _ (v _ (by simp))|ret=>
    simp only[DX,aT]at p;subst p;exact j _ (v _ (by simp))
  ·cases d|.ite c a b,Q,m,k,h,L,d,j=>by
  simp only[jE]at d;simp only[wpM];split at d;·rename_i w;rw[w];exact uF a d j
  ·rename_i w;rw[w];exact uF b d j
  ·cases d|.blk id a,Q,m,k,h,L,d,j=>by
  simp only[jE,dJ]at d;obtain⟨y,n,rfl⟩:=d;simp only[wpM];refine uF a n fun o q=>?_;have u:=j _ (nY.2 ⟨o,q,rfl⟩);obtain⟨x,e,f,s⟩:=o;cases x with
  |normal=>exact u|ret=>exact u|exit i=>
   simp only[HI,zj9]at u;simp only[HI,qN];split<;>rename_i B;·rw[if_pos B]at u;exact u
   ·rw[if_neg B]at u;exact u
 |.loop S a,Q,m,k,h,L,d,j=>by
  simp only[jE]at d;simp only[wpM];simp only[dJ]at d;obtain⟨O,d,rfl⟩:=d;exact⟨N,zz5 (T:=wpM G a) (fun d j=>uF a d j) N d fun o q=>j o (zn6 q)⟩|.exit id,Q,m,k,h,L,d,j=>by simp only[jE,aT]at d;subst d;exact j _ (mN.2 rfl)|.ret,Q,m,k,h,L,d,j=>by simp only[jE,aT]at d;subst d;exact j _ (mN.2 rfl)|.rgf g M a b,Q,m,k,h,L,d,j=>by
  simp only[jE]at d;obtain⟨o,n,rfl⟩:=QW d;obtain⟨x,e,f,s⟩:=o;exact oM (.rgf g M a b) (N:=N) n (j _ (mN.2 rfl))|.rgn g A D t,Q,m,k,h,L,d,j=>by
  simp only[jE]at d;simp only[wpM];split at d
  ·rename_i l H;rw[H];split at d
   ·rename_i z I;have K:(match mV h l with
     |some z=>∀r∈z,match run G false t (iP A D [] k (some r))with
      |.ok E F s=>Q .normal E F s|.bad=>False
     |none=>False):=by
     rw[I];intro r J;obtain⟨o,n,p⟩:=zi4 d r J;have v:=j o n;cases C:run G false t (iP A D [] k (some r))with
     |ok e f s=>
      rw[C]at p;simp only[sK,aT]at p;subst p;exact v|bad=>rw[C]at p;cases p
    exact K
   ·cases d
  ·cases d|.both a b,Q,m,k,h,L,d,j=>by
  simp only[jE]at d;split at d
  ·rename_i y P n p;injection d with d;subst d;exact⟨uF a n fun o q=>j o (List.mem_append_left _ q),uF b p fun o q=>j o (List.mem_append_right _ q)⟩
  ·cases d|.bad,Q,m,k,h,L,d,j=>by cases d
def PR(d:List RV)(c:AV->aA->Option (AV×aA)):StX->Option (AV×aA)
 |(.exit _,_,_,_)=>none|(_,a,b,h)=>match dS (bV a b) h d with
  |some v=>c v h|none=>none
theorem yz1{f:List RV}{e:AV->aA->Option (AV×aA)}{x:MX}{c d:List (Nat×AV)}{h:aA}{r:AV×aA}:PR f e (x,c,d,h)=some r->(match x with|.exit _=>False|_=>True)/\∃v,dS (bV c d) h f=some v/\e v h=some r:=by
 intro a;cases x with
 |exit i=>cases a|normal=>
  simp only[PR]at a;split at a;·rename_i v b;exact⟨trivial,v,b,a⟩
  ·cases a|ret=>
  simp only[PR]at a;split at a;·rename_i v b;exact⟨trivial,v,b,a⟩
  ·cases a
def zx1(r:AV×aA):Option (AV×aA)->Bool
 |some q=>gE r.1 q.1&&vS r.2 q.2|none=>false
def NZ(f:StX->Option (AV×aA)):List StX->Option (AV×aA)
 |[]=>none|o::a=>match f o with
  |some r=>if a.all fun p=>zx1 r (f p)then some r else none|none=>none
theorem zi1{f:StX->Option (AV×aA)}{L:List StX}{r:AV×aA}(h:NZ f L=some r):∀o∈L,f o=some r:=by cases L with
 |nil=>cases h|cons p k=>
  simp only[NZ]at h;split at h
  ·rename_i j i;split at h
   ·rename_i g;injection h with h;subst h;intro o b;rcases fE.1 b with rfl|b;·exact i
    ·have a:=gV.1 g o b;cases e:f o with
     |none=>rw[e]at a;cases a|some q=>
      rw[e]at a;simp only[zx1,bS]at a;obtain⟨n,s⟩:=j;obtain⟨l,m⟩:=q;have c:=xR _ _ a.1;have d:=JQ _ _ a.2;dsimp only at c d;subst c;subst d;rfl
   ·cases h
  ·cases h
def wJ(G:Gam)(N:Nat)(c:MC)(b:List Nat)(e:List RV)(a:List AV)(h:aA)(d:AV->aA->Option (AV×aA)):Option (AV×aA):=match jE G N c [] (aC b a) h with
 |some L=>NZ (PR e d) L|none=>none
theorem BT{G:Gam}{N:Nat}{e:MC}{g:List Nat}{j:List RV}{f:List AV}{h:aA}{i:AV->aA->Option (AV×aA)}{r:AV×aA}(d:wJ G N e g j f h i=some r){Q:aY}(n:∀x b c a,(match x with|.exit _=>False|_=>True)->(∃v,dS (bV b c) a j=some v/\i v a=some r)->Q x b c a):wpM G e Q [] (aC g f) h:=by
 unfold wJ at d;split at d
 ·rename_i L m;refine uF e m fun o p=>?_;obtain⟨x,b,c,a⟩:=o;obtain⟨k,l⟩:=yz1 (zi1 d _ p);exact n x b c a k l
 ·cases d
def pU(v:AV)(h:aA):Option (AV×aA):=(view h v).map fun r=>(r,[])
def pK(v:AV)(h:aA):Option (AV×aA):=(gB h v).map fun r=>(r,[])
def pS(v:AV)(h:aA):Option (AV×aA):=match yU h (XJ v)with
 |some a=>(gB a v).map fun r=>(r,[])|none=>none
def pG(v:AV)(h:aA):Option (AV×aA):=some (v,h)
def pL(n:Nat)(v:AV)(h:aA):Option (AV×aA):=(yF n v h).map fun a=>(v,a)
def pZ(v:AV)(h:aA):Option (AV×aA):=frz h v
def pZL(n:Nat)(v:AV)(h:aA):Option (AV×aA):=match frz h v with
 |some (u,a)=>(yF n u a).map fun b=>(u,b)|none=>none
def zr8(G:Gam)(f:List RV)(x:DfE)(g:List AV)(n:Nat):StX->Option (AV×aA)
 |(.exit _,_,_,_)=>none|(_,b,c,d)=>match run G false x.gis (.ok [] (aC x.gks g) d)with
  |.ok _ _ a=>(match dS (bV b c) a f with
   |some v=>(yF n v a).map fun e=>(v,e)|none=>none)|.bad=>none
theorem yz0{G:Gam}{f:List RV}{x:DfE}{g:List AV}{n:Nat}{y:MX}{b c:List (Nat×AV)}{d:aA}{r:AV×aA}:zr8 G f x g n (y,b,c,d)=some r->(match y with|.exit _=>False|_=>True)/\(match run G false x.gis (.ok [] (aC x.gks g) d)with
  |.ok _ _ e=>(match dS (bV b c) e f with
   |some v=>(yF n v e).map fun h=>(v,h)|none=>none)|.bad=>none)=some r:=by
 intro a;cases y with
 |exit i=>cases a|normal=>exact⟨trivial,a⟩|ret=>exact⟨trivial,a⟩
def zM3(G:Gam)(N:Nat)(e:MC)(d:List Nat)(f:List RV)(x:DfE)(c:List AV)(h:aA):Option (AV×aA):=match run G false x.is0 (.ok [] (aC d c) h)with
 |.ok _ a b=>(match eH G false x.m1 (bV [] a) b with
  |some (.fn g i,_)=>if g=x.g then(match jE G N e [] a b with
   |some L=>NZ (zr8 G f x i h.length) L|none=>none)else none|_=>none)|.bad=>none
def Ent.ctS(x:Ent)(G:Gam)(N:Nat):CT:=match x.df with
 |some d=>.gen (zM3 G N x.mc x.ks x.rs d)|none=>match x.kind with
  |0=>.pure fun a=>(wJ G N x.mc x.ks x.rs a [] pU).map (·.1)|1=>.pure fun a=>(wJ G N x.mc x.ks x.rs a [] pK).map (·.1)|3=>.gen fun a h=>wJ G N x.mc x.ks x.rs a h (pL h.length)|5=>.pure fun a=>(wJ G N x.mc x.ks x.rs a [] pS).map (·.1)|6=>.gen fun a h=>wJ G N x.mc x.ks x.rs a h pZ|7=>.gen fun a h=>wJ G N x.mc x.ks x.rs a h (pZL h.length)|_=>.gen fun a h=>wJ G N x.mc x.ks x.rs a h pG
def mQ(P:Program)(b:Gv)(T:FuncId->Option FE)(N:Nat)(a:Gam):Nat->Gam
 |0=>a|d+1=>{a with fn:=fun f=>match a.fn f with
  |some c=>some c|none=>match entry P b T f with
   |some x=>some (x.ctS (mQ P b T N a d) N)|none=>none}
theorem yx7{P:Program}(K:P.follows .mixedOrders=true){g:Gv}{T:FuncId->Option FE}{f:FuncId}{e:FE}{d:Func}{c:Code}{j:List RV}{x:Ent}(C:P.funcs[f]?=some d)(B:d.body=some c)(I:(e.ks.all fun k=>decide (k<d.ntmps))=true)(S:mD P d.results.toList=some j)(a:UM P g T e d.ntmps j c=some x){G:Gam}(z:GamOK P g G){N:Nat}:(x.ctS G N).OK P g f:=by
 unfold UM at a;split at a
 ·rename_i b2 b3 o1 d3 a1 Y d2 U;split at a
  ·rename_i r gn _ F;split at a
   ·rename_i gc E;split at a
    ·rename_i a2 H;split at a
     ·rename_i h;simp only[bS,lK]at h;obtain⟨⟨⟨⟨l,m⟩,n⟩,p⟩,q⟩:=h;simp only[aT]at a;subst a;show fA P g f _;refine yA1 K z C B (ow:=e.ow) (dl:=e.dl) U I l S rfl rfl rfl F E H (by simpa using m) n (enters_of p) (gow:=r.ow) rfl fun X a3 d1 h' _ _ b=>?_;unfold zM3 at b;split at b
      ·rename_i s u h0 O;split at b
       ·rename_i g' W b1 i;split at b
        ·rename_i D;subst D;have:=xq7 q i;subst this;refine⟨s,u,_,W,O,i,?_⟩;split at b
         ·rename_i L A;refine uF _ A fun o M=>?_;have w:=zi1 b o M;obtain⟨e2,Z,fr,hh⟩:=o;obtain⟨k0,k1⟩:=yz0 w;split at k1
          ·rename_i t v y Q;split at k1
           ·rename_i e1 V;simp only[dJ,dF]at k1;obtain⟨h3,J,rfl,rfl⟩:=k1;exact⟨k0,t,v,y,Q,VU V J⟩
           ·cases k1
          ·cases k1
         ·cases b
        ·cases b
       ·cases b
      ·cases b
     ·cases a
    ·cases a
   ·cases a
  ·cases a
 ·cases a
theorem zq1{P:Program}(m:P.follows .mixedOrders=true){z:Gv}{T:FuncId->Option FE}{f:FuncId}{x:Ent}(b:entry P z T f=some x){G:Gam}(j:GamOK P z G){N:Nat}:Enters P f/\(x.ctS G N).OK P z f:=by
 unfold entry at b;split at b;·cases b
 ·rename_i e _;split at b;·cases b
  ·rename_i H l;split at b;·cases b
   ·rename_i c k;split at b;·cases b
    ·rename_i I n;split at b
     ·rename_i i;simp only[bS]at i;refine⟨enters_of i.2,?_⟩;split at b;·exact yx7 m l k i.1 n b j
      simp only[aT]at b;subst b;unfold Ent.ctS;dsimp only;split
      ·refine XR m j l k (ow:=e.ow) (dl:=e.dl) i.1 n rfl fun p r a=>?_;simp only[dJ]at a;obtain⟨q,y,rfl⟩:=a;refine BT y fun x s t w g d=>⟨g,?_⟩;obtain⟨v,k1,k2⟩:=d;simp only[pU,dJ]at k2;obtain⟨r,k3,rfl⟩:=k2;exact⟨v,k1,k3⟩
      ·refine xf7 m j l k (ow:=e.ow) (dl:=e.dl) i.1 n rfl fun p r a=>?_;simp only[dJ]at a;obtain⟨q,y,rfl⟩:=a;refine BT y fun x s t w g d=>⟨g,?_⟩;obtain⟨v,k1,k2⟩:=d;simp only[pK,dJ]at k2;obtain⟨r,k3,rfl⟩:=k2;exact⟨v,k1,k3⟩
      ·refine zt7 m j l k (ow:=e.ow) (dl:=e.dl) i.1 n rfl fun p h r w _ _ a=>?_;refine BT a fun x s t g d o=>⟨d,?_⟩;obtain⟨v,k1,k2⟩:=o;simp only[pL,dJ,dF]at k2;obtain⟨h4,k3,rfl,rfl⟩:=k2;exact VU k1 k3
      ·refine xf9 m j l k (ow:=e.ow) (dl:=e.dl) i.1 n rfl fun p r a=>?_;simp only[dJ]at a;obtain⟨q,y,rfl⟩:=a;refine BT y fun x s t w g d=>⟨g,?_⟩;obtain⟨v,k1,k2⟩:=d;unfold pS at k2;split at k2
       ·rename_i g A;simp only[dJ]at k2;obtain⟨r,k3,rfl⟩:=k2;exact⟨v,g,k1,A,k3⟩
       ·cases k2
      ·refine yA3 m j l k (ow:=e.ow) (dl:=e.dl) i.1 n rfl fun p h r w a=>?_;refine BT a fun x s t g d o=>⟨d,?_⟩;obtain⟨v,k1,k2⟩:=o;exact⟨v,k1,k2⟩
      ·refine zu0 m j l k (ow:=e.ow) (dl:=e.dl) i.1 n rfl fun p h r w _ _ a=>?_;refine BT a fun x s t g d o=>⟨d,?_⟩;obtain⟨v,k1,k2⟩:=o;unfold pZL at k2;split at k2
       ·rename_i u h4 B;simp only[dJ,dF]at k2;obtain⟨h5,k3,rfl,rfl⟩:=k2;obtain⟨_,C,D,E,F⟩:=VU (rs:=[.tmp 0]) (e:=fun _=>some u) rfl k3;exact⟨v,h4,k1,B,C,D,E,F⟩
       ·cases k2
      ·refine zu1 m j l k (ow:=e.ow) (dl:=e.dl) i.1 n rfl fun p h r w a=>?_;refine BT a fun x s t g d o=>?_;obtain⟨v,k1,k2⟩:=o;simp only[pG,aT,dF]at k2;obtain⟨rfl,rfl⟩:=k2;exact⟨d,k1,rfl⟩
     ·cases b
theorem pH{P:Program}(i:P.follows .mixedOrders=true){e:Gv}{T:FuncId->Option FE}{N:Nat}{k:Gam}(a:GamOK P e k):∀d,GamOK P e (mQ P e T N k d)
 |0=>a|d+1=>by
  have l:=pH i (T:=T) (N:=N) a d;refine⟨fun f c h=>?_,fun f c h=>?_,a.noy⟩
  ·simp only[mQ]at h;split at h
   ·rename_i b g;exact a.enters f b g
   ·split at h
    ·rename_i x j;exact(zq1 i j l (N:=N)).1
    ·cases h
  ·simp only[mQ]at h;split at h
   ·rename_i b g;injection h with h;subst h;exact a.ok f b g
   ·split at h
    ·rename_i x j;injection h with h;subst h;exact(zq1 i j l (N:=N)).2
    ·cases h
end Go.Proofs.YtdebajodkallbaaGreatDoor
