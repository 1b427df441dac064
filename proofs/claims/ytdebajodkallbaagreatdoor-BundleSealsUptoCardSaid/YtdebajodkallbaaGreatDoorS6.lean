/- binary -/
import Derived.Test.YtdebajodkallbaaGreatDoorDgA
import Derived.Test.YtdebajodkallbaaGreatDoorS5
namespace Go.Proofs.YtdebajodkallbaaGreatDoor
open Go.RowKit Go.IntWalk
theorem yb4{G:Gam}:LW G Mc.dh Rs.dh Ks.dh zD:=by
 intro e h r c;unfold zD at c;split at c
 ·rename_i p;split at c
  ·rename_i tg a l v n d;injection c with c;subst c;have g3:aB 1 false h (.ptr p 1)=some (.own l v n):=by simp[aB,d,cut,aE]
   rw[aM];simp[Mc.dh,Ks.dh,aC,upd,lkp,Rs.dh,g3,aI,fP,owns,eS,-aB]
  ·cases c
 ·cases c
def wr(h:aA)(p l v:Nat)(a:List (List AV))(s:Bs):aA:=if s=[]then h else oE 95 5 h p l v a.length a s
structure BAt(h:aA)(p l v:Nat)(rows:List (List AV))(a:AV):Prop where
 hp:h[p]?=some (.cellsT (some 95) [a,.own l v rows.length])hl:h[l]?=some (.arrT (some 5) 1 v rows true)ha:tI p a=true
 ne:l≠p
@[simp]theorem ZY{h:aA}{p l v:Nat}{a:List (List AV)}:wr h p l v a []=h:=rfl
@[simp]theorem xO2{h:aA}{p l v:Nat}{a:List (List AV)}{s:Bs}:(wr h p l v a s).length=h.length:=by unfold wr;split<;>simp[oE]
theorem zT8{h:aA}{p l v:Nat}{c:List (List AV)}{a:AV}(B:BAt h p l v c a){s t:Bs}(i:t≠[])(g:c.length+s.length+t.length<=bT):nR 95 5 (wr h p l v c s) p t=some (wr h p l v c (s++t)):=by
 by_cases d:s=[]
 ·subst d;simp only[ZY,kZ];simp only[nR,B.hp,B.hl];rw[if_pos ⟨trivial,trivial,B.ha,trivial,trivial,by simp at g;omega⟩];simp[wr,i]
 ·have e:wr h p l v c s=oE 95 5 h p l v c.length c s:=by simp[wr,d]
  have f:wr h p l v c (s++t)=oE 95 5 h p l v c.length c (s++t):=by simp[wr,d]
  obtain⟨j,k⟩:=yY6 (T:=95) (e:=5) (n:=c.length) (rows:=c) (v:=v) (s:=s) B.hp B.hl B.ne;rw[e,f];simp only[nR,j,k];rw[if_pos ⟨trivial,trivial,by simp[tI],trivial,by simp,by omega⟩];congr 1;unfold oE;rw[List.set_comm _ _ B.ne,tP,tP];simp[Nat.add_assoc]
theorem zd2{h d:aA}{p:Nat}{s:Bs}(k:nR 95 5 h p s=some d):∃a l v c,BAt h p l v c a/\c.length+s.length<=bT/\(s≠[]->d=wr h p l v c s):=by
 obtain⟨a,l,v,c,e,f,g,h4,h5,i⟩:=ZZ k;exact⟨a,l,v,c,⟨e,f,g,i⟩,h4,fun j=>by rw[h5];simp[wr,j]⟩
def DR:AV->Option (List (List AV))
 |.tsl r=>some r|.sl r=>some r|_=>none
def JB:List AV->Option Bs
 |[.str s]=>some s|_=>none
def mZ(s:Bs):List AV:=[.str s]
@[simp]theorem yv1(s:Bs):JB (mZ s)=some s:=rfl
theorem zo3{r:List AV}{t:Bs}(h:JB r=some t):r=mZ t:=by
 unfold JB at h;split at h;·injection h with h;subst h;rfl
 ·cases h
def okN(n:Int):Bool:=decide (0<=n/\n<=281474976710656)
def rC:List AV->aA->Option (AV×aA)
 |[x,.ptr p 0],h=>match(DR x).bind (gT AR)with
  |some a=>if a.all okN=true/\a.length<=1000000 then(if a=[]then some (.tup [],h)else(nR 95 5 h p (a.flatMap fxB)).map fun c=>(.tup [],c))else none|none=>none
 |_,_=>none
def rD:List AV->aA->Option (AV×aA)
 |[x,.ptr p 0],h=>match(DR x).bind (gT JB)with
  |some a=>if a.all (fun s=>decide (s.length<=65536))=true/\a.length<=1000000 then(if a=[]then some (.tup [],h)else(nR 95 5 h p (a.flatMap cM)).map fun c=>(.tup [],c))else none|none=>none
 |_,_=>none
theorem WO(n:Nat):bQ n≠[]:=by
 intro h;have:=congrArg List.length h;simp[bQ]at this
theorem ZL(s:Bs):cM s≠[]:=by
 unfold cM;intro h;have:=congrArg List.length h;simp at this
theorem qT{a:Type}{f:a->Bs}{l:List a}{i:Nat}{x:a}(h:l[i]?=some x):(l.take (i+1)).flatMap f=(l.take i).flatMap f++f x:=by rw[xO,h];simp
theorem rV{a:Type}{f:a->Bs}{l:List a}{i:Nat}{x:a}(h:l[i]?=some x):((l.take i).flatMap f).length+(f x).length<=(l.flatMap f).length:=by
 have e:l.flatMap f=(l.take (i+1)).flatMap f++(l.drop (i+1)).flatMap f:=by rw[<-List.flatMap_append,oZ]
 rw[e,qT h];simp
theorem zp5(G:Gam)(hN:G Fn.b9=some (.pure rE))(m:G Fn.ct=some (.gen (uR 95 5))){h:aA}{p l v:Nat}{d:List (List AV)}{a:AV}(B:BAt h p l v d a)(x:AV)(c:List Int)(r:x=.tsl (c.map eC)\/x=.sl (c.map eC))(o:∀n∈c,0<=n/\n<=281474976710656)(A:c.length<=1000000)(w:d.length+(c.flatMap fxB).length<=bT):∀(k:List Int)(i:Nat),c.drop i=k->i<=c.length->cY G [4,5] Mc.ao_L0 h.length [.blk 0] (dM Rs.ao (.tup []) (wr h p l v d (c.flatMap fxB))) [(0,x),(1,.ptr p 0),(4,.junk),(5,.junk),(7,x),(8,.n c.length),(9,.n i)] (wr h p l v d ((c.take i).flatMap fxB))
 |[],i,g,y=>by
  have z:=drop_nil g;have e:i=c.length:=by omega
  subst e;have q:ltB (c.length:Int) c.length=false:=bC.2 (by omega);rw[kE];refine aJ (Mc.ao_L0.eq_1) ?_;rw[aQ (n:=h.length) (by simp)];simp[dM,Rs.ao,bM]|n::k,i,g,y=>by
  obtain⟨z,f,F⟩:=eT g;have q:ltB (i:Int) c.length=true:=aO.2 (by omega);have E:=dT (i:=i) (by unfold big;omega);have C:=o n (fB f);have D:(c.map eC)[i]?=some (eC n):=by simp[f]
  have t:∀s j,opV G s j (.call Fn.b9) (some [.n n])=some (.tup [.str (fxB n),.n 0],j):=fun s j=>bF hN (us:=[.n n]) rfl (by simp only[rE];rw[if_pos C];rfl) (.inl rfl);have L:=rV (f:=fxB) f;have u:opV G false (wr h p l v d ((c.take i).flatMap fxB)) (.call Fn.ct) (some [.ptr p 0,.str (fxB n)])=some (.tup [.n (fxB n).length,.nili],wr h p l v d ((c.take (i+1)).flatMap fxB)):=by
   rw[eX m];simp only[uR];rw[zT8 B (by exact WO _) (by omega),qT f];rfl
  have J:=zp5 G hN m B x c r o A w k (i+1) (by rw[<-F]) (by omega);have I:∀H,bA 1 H x (.n (i:Int))=some (.fptr (eC n) 0):=fun H=>by
   rcases r with rfl|rfl;·simp[bA,f,eC]
   ·exact sC D rfl
  have K:∀H,aB 1 false H (.fptr (eC n) 0)=some (.n n):=fun H=>by simp[aB,cut,aE,eC]
  refine aJ (Mc.ao_L0.eq_1) ?_;rw[aQ (n:=h.length) (by simp)];simp[q,I,K,t,u,E,-aB];refine cZ ?_;rw[aQ (n:=h.length) (by simp)];simpa using J
theorem zX5{G:Gam}(hN:G Fn.b9=some (.pure rE))(k:G Fn.ct=some (.gen (uR 95 5))):GW G Mc.ao Rs.ao Ks.ao rC:=by
 intro D h r E c;unfold rC at c;split at c
 ·rename_i x p;split at c
  ·rename_i d i;split at c
   ·rename_i o;obtain⟨s,t⟩:=o;have j:x=.tsl (d.map eC)\/x=.sl (d.map eC):=by
     cases x<;>simp only[DR,tQ,Option.bind_none,reduceCtorEq]at i;·right;rw[oC (enc:=eC) (fun r x=>UB) i]
     ·left;rw[oC (enc:=eC) (fun r x=>UB) i]
    have g:∀H:aA,aI H 1 x=some (.n d.length):=fun H=>by rcases j with rfl|rfl<;>simp[aI]
    have A:∀n∈d,0<=n/\n<=281474976710656:=by
     intro n w;have:=gV.1 s n w;simpa[okN]using this
    rw[aM];by_cases f:d=[]
    ·subst f;rw[if_pos rfl]at c;simp only[aT,dF]at c;obtain⟨rfl,rfl⟩:=c;simp only[gQ,kY]at g;have q:ltB (0:Int) 0=false:=rfl;have e:cY G [4,5] Mc.ao_L0 h.length [.blk 0] (dM Rs.ao (.tup []) h) [(0,x),(1,.ptr p 0),(4,.junk),(5,.junk),(7,x),(8,.n 0),(9,.n 0)] h:=by
      refine aJ (Mc.ao_L0.eq_1) ?_;rw[aQ (n:=h.length) rfl];simp[dM,Rs.ao,bM]
     simp[Mc.ao,Ks.ao,aC,upd,lkp,g,-aI];simpa using e
    ·rw[if_neg f]at c;simp only[dJ,dF]at c;obtain⟨F,C,rfl,rfl⟩:=c;obtain⟨a,l,v,I,B,m,u⟩:=zd2 C;have z:d.flatMap fxB≠[]:=by cases d with
      |nil=>exact absurd rfl f|cons y r=>simp[fxB,WO]
     have e:=zp5 G hN k B x d j A t m d 0 rfl (by omega);rw[<-u z]at e;simp only[lA,jS,ZY,kY]at e;simp[Mc.ao,Ks.ao,aC,upd,lkp,g,-aI];simpa using e
   ·cases c
  ·cases c
 ·cases c
theorem zp6(G:Gam)(hN:G Fn.cx=some (.pure rG))(m:G Fn.ct=some (.gen (uR 95 5))){h:aA}{p l v:Nat}{d:List (List AV)}{a:AV}(B:BAt h p l v d a)(x:AV)(c:List Bs)(r:x=.tsl (c.map mZ)\/x=.sl (c.map mZ))(o:∀n∈c,n.length<=65536)(A:c.length<=1000000)(w:d.length+(c.flatMap cM).length<=bT):∀(k:List Bs)(i:Nat),c.drop i=k->i<=c.length->cY G [4,5] Mc.ar_L0 h.length [.blk 0] (dM Rs.ar (.tup []) (wr h p l v d (c.flatMap cM))) [(0,x),(1,.ptr p 0),(4,.junk),(5,.junk),(7,x),(8,.n c.length),(9,.n i)] (wr h p l v d ((c.take i).flatMap cM))
 |[],i,g,y=>by
  have z:=drop_nil g;have e:i=c.length:=by omega
  subst e;have q:ltB (c.length:Int) c.length=false:=bC.2 (by omega);rw[kE];refine aJ (Mc.ar_L0.eq_1) ?_;rw[aQ (n:=h.length) (by simp)];simp[dM,Rs.ar,bM]|n::k,i,g,y=>by
  obtain⟨z,f,F⟩:=eT g;have q:ltB (i:Int) c.length=true:=aO.2 (by omega);have E:=dT (i:=i) (by unfold big;omega);have C:=o n (fB f);have D:(c.map mZ)[i]?=some (mZ n):=by simp[f]
  have t:∀s j,opV G s j (.call Fn.cx) (some [.str n])=some (.tup [.str (cM n),.n 0],j):=fun s j=>bF hN (us:=[.str n]) rfl (by simp only[rG];rw[if_neg (by omega),if_pos C]) (.inl rfl);have L:=rV (f:=cM) f;have u:opV G false (wr h p l v d ((c.take i).flatMap cM)) (.call Fn.ct) (some [.ptr p 0,.str (cM n)])=some (.tup [.n (cM n).length,.nili],wr h p l v d ((c.take (i+1)).flatMap cM)):=by
   rw[eX m];simp only[uR];rw[zT8 B (by exact ZL _) (by omega),qT f];rfl
  have J:=zp6 G hN m B x c r o A w k (i+1) (by rw[<-F]) (by omega);have I:∀H,bA 1 H x (.n (i:Int))=some (.fptr (mZ n) 0):=fun H=>by
   rcases r with rfl|rfl;·simp[bA,f,mZ]
   ·exact sC D rfl
  have K:∀H,aB 1 false H (.fptr (mZ n) 0)=some (.str n):=fun H=>by simp[aB,cut,aE,mZ]
  refine aJ (Mc.ar_L0.eq_1) ?_;rw[aQ (n:=h.length) (by simp)];simp[q,I,K,t,u,E,-aB];refine cZ ?_;rw[aQ (n:=h.length) (by simp)];simpa using J
theorem zX6{G:Gam}(hN:G Fn.cx=some (.pure rG))(k:G Fn.ct=some (.gen (uR 95 5))):GW G Mc.ar Rs.ar Ks.ar rD:=by
 intro D h r E c;unfold rD at c;split at c
 ·rename_i x p;split at c
  ·rename_i d i;split at c
   ·rename_i o;obtain⟨s,t⟩:=o;have j:x=.tsl (d.map mZ)\/x=.sl (d.map mZ):=by
     cases x<;>simp only[DR,tQ,Option.bind_none,reduceCtorEq]at i;·right;rw[oC (enc:=mZ) (fun r x=>zo3) i]
     ·left;rw[oC (enc:=mZ) (fun r x=>zo3) i]
    have g:∀H:aA,aI H 1 x=some (.n d.length):=fun H=>by rcases j with rfl|rfl<;>simp[aI]
    have A:∀n∈d,n.length<=65536:=by
     intro n w;have:=gV.1 s n w;simpa[okN]using this
    rw[aM];by_cases f:d=[]
    ·subst f;rw[if_pos rfl]at c;simp only[aT,dF]at c;obtain⟨rfl,rfl⟩:=c;simp only[gQ,kY]at g;have q:ltB (0:Int) 0=false:=rfl;have e:cY G [4,5] Mc.ar_L0 h.length [.blk 0] (dM Rs.ar (.tup []) h) [(0,x),(1,.ptr p 0),(4,.junk),(5,.junk),(7,x),(8,.n 0),(9,.n 0)] h:=by
      refine aJ (Mc.ar_L0.eq_1) ?_;rw[aQ (n:=h.length) rfl];simp[dM,Rs.ar,bM]
     simp[Mc.ar,Ks.ar,aC,upd,lkp,g,-aI];simpa using e
    ·rw[if_neg f]at c;simp only[dJ,dF]at c;obtain⟨F,C,rfl,rfl⟩:=c;obtain⟨a,l,v,I,B,m,u⟩:=zd2 C;have z:d.flatMap cM≠[]:=by cases d with
      |nil=>exact absurd rfl f|cons y r=>simp[ZL]
     have e:=zp6 G hN k B x d j A t m d 0 rfl (by omega);rw[<-u z]at e;simp only[lA,jS,ZY,kY]at e;simp[Mc.ar,Ks.ar,aC,upd,lkp,g,-aI];simpa using e
   ·cases c
  ·cases c
 ·cases c
def EH(b:Bin)(s:Bs):aA:=[.cells b.cells,.arrT (some 5) 1 s.length (s.map gJ) true,.cellsT (some 95) [if s=[]then .nilp else .ptr 2 0,.own 1 s.length s.length],.cells [.fn Fn.ao [.ptr 2 0],.fn Fn.ar [.ptr 2 0]]]
theorem LU(b:Bin)(s:Bs):(EH b s).length=4:=rfl
theorem zX2(b:Bin)(s:Bs):cV 4 (EH b s)=true:=by
 have a:∀s:Bs,low 4 (if s=[]then AV.nilp else .ptr 2 0)=true:=fun s=>by split<;>rfl
 have c:∀s:Bs,(s.map gJ).all (bN 4)=true:=fun s=>by simp[bN,low]
 have:=iS b 4;simp[EH,cV,gD,bN,low,this,a]
theorem LV{b:Bin}{s:Bs}{fr:List (Nat×AV)}{tl:aA}(a:bW 4 fr=true):trunc 4 fr (EH b s++tl)=EH b s:=sP (a:=EH b s) (b:=tl) rfl a (zX2 b s)
theorem zb9{b:Bin}{s t:Bs}{c:aA}(a:t≠[])(e:s.length+t.length<=bT):nR 95 5 (EH b s++c) 2 t=some (EH b (s++t)++c):=by
 have d:tI 2 (if s=[]then .nilp else .ptr 2 0)=true:=by split<;>rfl
 have f:s++t≠[]:=by simp[a]
 simp only[nR,EH,tL,mM,tM];rw[if_pos ⟨trivial,trivial,d,trivial,by simp,e⟩];simp[oE,a]
theorem tT{G:Gam}(d:G Fn.ao=some (.gen rC))(b:Bin)(s:Bs)(c:aA){x:AV}{ns:List Int}(j:DR x=some (ns.map eC))(i:∀n∈ns,0<=n/\n<=281474976710656)(hl:ns.length<=1000000)(e:s.length+(ns.flatMap fxB).length<=bT):eD G Fn.ao [x,.ptr 2 0] (EH b s++c)=some (.tup [],EH b (s++ns.flatMap fxB)++c):=by
 rw[lB d];have f:gT AR (ns.map eC)=some ns:=rS zn8 ns;simp only[rC,j,tQ,f];rw[if_pos ⟨gV.2 fun n g=>by simpa[okN]using i n g,hl⟩];split;·rename_i a;subst a;simp
 ·rename_i a;have h:ns.flatMap fxB≠[]:=by cases ns with
   |nil=>exact absurd rfl a|cons y r=>simp[fxB,WO]
  rw[zb9 h e];rfl
theorem DU{G:Gam}(d:G Fn.ar=some (.gen rD))(b:Bin)(s:Bs)(c:aA){x:AV}{ns:List Bs}(j:DR x=some (ns.map mZ))(i:∀n∈ns,n.length<=65536)(hl:ns.length<=1000000)(e:s.length+(ns.flatMap cM).length<=bT):eD G Fn.ar [x,.ptr 2 0] (EH b s++c)=some (.tup [],EH b (s++ns.flatMap cM)++c):=by
 rw[lB d];have f:gT JB (ns.map mZ)=some ns:=rS yv1 ns;simp only[rD,j,tQ,f];rw[if_pos ⟨gV.2 fun n g=>by simpa using i n g,hl⟩];split;·rename_i a;subst a;simp
 ·rename_i a;have h:ns.flatMap cM≠[]:=by cases ns with
   |nil=>exact absurd rfl a|cons y r=>simp[ZL]
  rw[zb9 h e];rfl
theorem wW(b:Bin)(s:Bs)(a:aA):aB 1 false (EH b s++a) (.ptr 3 0)=some (.fn Fn.ao [.ptr 2 0]):=aR (l:=3) rfl rfl
theorem GA(b:Bin)(s:Bs)(a:aA):aB 1 false (EH b s++a) (.ptr 3 1)=some (.fn Fn.ar [.ptr 2 0]):=aR (l:=3) rfl rfl
theorem zp7{G:Gam}(hN:G Fn.ao=some (.gen rC))(hT:G Fn.ar=some (.gen rD))(b:Bin)(c:Bs)(I:c.length+(b.pl.flatMap plB).length<=1000000)(N:b.pl.length<=1000000)(t:∀x∈b.pl,x.obj.length<=65536/\x.sym.length<=65536/\(0<=x.kd/\x.kd<=65536)/\(0<=x.pos/\x.pos<=65536)/\(0<=x.siz/\x.siz<=65536)){ks:List MK}{Q:aY}(r:∀z,exM G .normal ks Q z [(0,.agg b.cells),(1,.ptr 0 0),(2,.str []),(3,.n 0),(4,.n 0),(5,.ptr 2 0),(6,.ptr 3 0),(8,.junk),(10,.junk),(12,.junk),(14,.junk),(50,.sl (aK b.pl)),(51,.n b.pl.length),(52,.n b.pl.length),(95,.junk),(96,.junk),(97,.junk),(124,.junk),(125,.junk),(126,.junk),(151,.junk),(152,.junk),(153,.junk)] (EH b (c++b.pl.flatMap plB))):∀(l:List (Plc))(i:Nat),b.pl.drop i=l->i<=b.pl.length->cY G [8] Mc.ag_L0 4 (.blk 0::ks) Q [(0,.agg b.cells),(1,.ptr 0 0),(2,.str []),(3,.n 0),(4,.n 0),(5,.ptr 2 0),(6,.ptr 3 0),(8,.junk),(10,.junk),(12,.junk),(14,.junk),(50,.sl (aK b.pl)),(51,.n b.pl.length),(52,.n i),(95,.junk),(96,.junk),(97,.junk),(124,.junk),(125,.junk),(126,.junk),(151,.junk),(152,.junk),(153,.junk)] (EH b (c++(b.pl.take i).flatMap plB))
 |[],i,j,L=>by
  have a1:=drop_nil j;have e:i=b.pl.length:=by omega
  subst e;have q:ltB (b.pl.length:Int) b.pl.length=false:=bC.2 (by omega);rw[kE];refine aJ (Mc.ag_L0.eq_1) ?_;rw[aQ (n:=4) rfl];generalize EH b (c++b.pl.flatMap plB)=H at*;generalize b.cells=Y at*;simp;simpa using r _|x::l,i,j,L=>by
  obtain⟨a2,d,S⟩:=eT j;have q:ltB (i:Int) (b.pl.length:Int)=true:=aO.2 (by omega);have P:=dT (i:=i) (by unfold big;omega);have V:=yM d;have O:x.row.length=5:=rfl;obtain⟨x1,x2,x3,x4,x5⟩:=t x (fB d);have T:∀h,bA 5 h (.sl (aK b.pl)) (.n (i:Int))=some (.fptr x.row 0):=fun h=>by simp[bA,V,O]
  have U:∀h,aB 5 true h (.fptr x.row 0)=some (.agg x.row):=fun h=>by simp[aB,cut,aE,Plc.row]
  have fl:=rV (f:=plB) d;have C:=qT (f:=plB) d;have Z:(plB x).length=((cM x.obj).length+((cM x.sym).length+((bQ x.kd.toNat).length+((bQ x.pos.toNat).length+((bQ x.siz.toNat).length))))):=by simp[plB]
  have f:=zp7 hN hT b c I N t r l (i+1) S (by omega);rw[C,<-iN]at f;obtain⟨s,u⟩:∃s,s=c++(b.pl.take i).flatMap plB:=⟨_,rfl⟩;have a3:s.length+(plB x).length<=1000000:=by rw[u,bX];omega
  rw[<-u]at f⊢;obtain⟨a,k⟩:∃a,a=s++[x.obj,x.sym].flatMap cM:=⟨_,rfl⟩;have o:=DU hT b s [.cells x.row] (x:=.tsl [[.str x.obj],[.str x.sym]]) (ns:=[x.obj,x.sym]) rfl (by simp;omega) (by simp) (by simp only[oX,jS,dY,bX];unfold bT;omega);rw[<-k]at o;obtain⟨g,v⟩:∃g,g=a++[x.kd,x.pos,x.siz].flatMap fxB:=⟨_,rfl⟩;have n:=tT hN b a [.cells x.row] (x:=.tsl [[.n x.kd],[.n x.pos],[.n x.siz]]) (ns:=[x.kd,x.pos,x.siz]) rfl (by simp;omega) (by simp) (by rw[k];simp only[oX,jS,dY,bX,fxB];unfold bT;omega);rw[<-v]at n;have M:s++plB x=g:=by rw[v,k];simp[plB,fxB]
  rw[M]at f;have y:∀w,opV G w (EH b s) (.alloc [.str [],.str [],.n 0,.n 0,.n 0]) (some [])=some (.ptr 4 0,EH b s++[.cells [.str [],.str [],.n 0,.n 0,.n 0]]):=fun w=>by rw[eG rfl];rfl
  have W:aU 5 (EH b s++[.cells [.str [],.str [],.n 0,.n 0,.n 0]]) (.ptr 4 0) (.agg x.row)=some (EH b s++[.cells x.row]):=by simp[aU,bK,Plc.row,EH]
  have D:aB 1 false (EH b s++[.cells x.row]) (.ptr 4 0)=some (.str x.obj):=aR (l:=4) rfl rfl;have E:aB 1 false (EH b s++[.cells x.row]) (.ptr 4 1)=some (.str x.sym):=aR (l:=4) rfl rfl;have F:aB 1 false (EH b a++[.cells x.row]) (.ptr 4 2)=some (.n x.kd):=aR (l:=4) rfl rfl;have g3:aB 1 false (EH b a++[.cells x.row]) (.ptr 4 3)=some (.n x.pos):=aR (l:=4) rfl rfl;have g4:aB 1 false (EH b a++[.cells x.row]) (.ptr 4 4)=some (.n x.siz):=aR (l:=4) rfl rfl;have A:=fun s m=>wW b s m;have B:=fun s m=>GA b s m;have J:=iS b 4;have fin:=fun p(K:bW 4 p=true)=>LV (b:=b) (s:=g) (fr:=p) (tl:=[.cells x.row]) K;refine aJ (Mc.ag_L0.eq_1) ?_;rw[aQ (n:=4) rfl];generalize aK b.pl=X at*;simp[q,T,U,y,W,D,E,F,g3,g4,A,B,gZ,o,n,P,dB,fW,bE,bU,view,dX,owns,-aB,-bB,-fQ];refine cZ ?_;rw[fin _ (by simp[bW,low,J])];simpa using f
theorem zp8{G:Gam}(hN:G Fn.ao=some (.gen rC))(hT:G Fn.ar=some (.gen rD))(b:Bin)(a:Bs)(I:a.length+(b.im.flatMap imB).length<=1000000)(N:b.im.length<=1000000)(t:∀x∈b.im,x.lib.length<=65536/\x.sym.length<=65536/\(0<=x.pos/\x.pos<=65536)){ks:List MK}{Q:aY}(r:∀z,exM G .normal ks Q z [(0,.agg b.cells),(1,.ptr 0 0),(2,.str []),(3,.n 0),(4,.n 0),(5,.ptr 2 0),(6,.ptr 3 0),(8,.junk),(10,.junk),(12,.junk),(14,.junk),(50,.sl (aK b.pl)),(51,.n b.pl.length),(52,.n b.pl.length),(95,.sl (bP b.im)),(96,.n b.im.length),(97,.n b.im.length),(124,.junk),(125,.junk),(126,.junk),(151,.junk),(152,.junk),(153,.junk)] (EH b (a++b.im.flatMap imB))):∀(l:List (Imp))(i:Nat),b.im.drop i=l->i<=b.im.length->cY G [10] Mc.ag_L1 4 (.blk 2::ks) Q [(0,.agg b.cells),(1,.ptr 0 0),(2,.str []),(3,.n 0),(4,.n 0),(5,.ptr 2 0),(6,.ptr 3 0),(8,.junk),(10,.junk),(12,.junk),(14,.junk),(50,.sl (aK b.pl)),(51,.n b.pl.length),(52,.n b.pl.length),(95,.sl (bP b.im)),(96,.n b.im.length),(97,.n i),(124,.junk),(125,.junk),(126,.junk),(151,.junk),(152,.junk),(153,.junk)] (EH b (a++(b.im.take i).flatMap imB))
 |[],i,j,L=>by
  have a1:=drop_nil j;have e:i=b.im.length:=by omega
  subst e;have q:ltB (b.im.length:Int) b.im.length=false:=bC.2 (by omega);rw[kE];refine aJ (Mc.ag_L1.eq_1) ?_;rw[aQ (n:=4) rfl];generalize EH b (a++b.im.flatMap imB)=H at*;generalize b.cells=Y at*;simp;simpa using r _|x::l,i,j,L=>by
  obtain⟨a2,d,S⟩:=eT j;have q:ltB (i:Int) (b.im.length:Int)=true:=aO.2 (by omega);have P:=dT (i:=i) (by unfold big;omega);have V:=JT d;have O:x.row.length=3:=rfl;obtain⟨x1,x2,x3⟩:=t x (fB d);have T:∀h,bA 3 h (.sl (bP b.im)) (.n (i:Int))=some (.fptr x.row 0):=fun h=>by simp[bA,V,O]
  have U:∀h,aB 3 true h (.fptr x.row 0)=some (.agg x.row):=fun h=>by simp[aB,cut,aE,Imp.row]
  have fl:=rV (f:=imB) d;have C:=qT (f:=imB) d;have Z:(imB x).length=((cM x.lib).length+((cM x.sym).length+((bQ x.pos.toNat).length))):=by simp[imB]
  have f:=zp8 hN hT b a I N t r l (i+1) S (by omega);rw[C,<-iN]at f;obtain⟨s,u⟩:∃s,s=a++(b.im.take i).flatMap imB:=⟨_,rfl⟩;have a3:s.length+(imB x).length<=1000000:=by rw[u,bX];omega
  rw[<-u]at f⊢;obtain⟨c,k⟩:∃c,c=s++[x.lib,x.sym].flatMap cM:=⟨_,rfl⟩;have o:=DU hT b s [.cells x.row] (x:=.tsl [[.str x.lib],[.str x.sym]]) (ns:=[x.lib,x.sym]) rfl (by simp;omega) (by simp) (by simp only[oX,jS,dY,bX];unfold bT;omega);rw[<-k]at o;obtain⟨g,v⟩:∃g,g=c++[x.pos].flatMap fxB:=⟨_,rfl⟩;have n:=tT hN b c [.cells x.row] (x:=.tsl [[.n x.pos]]) (ns:=[x.pos]) rfl (by simp;omega) (by simp) (by rw[k];simp only[oX,jS,dY,bX,fxB];unfold bT;omega);rw[<-v]at n;have M:s++imB x=g:=by rw[v,k];simp[imB,fxB]
  rw[M]at f;have y:∀w,opV G w (EH b s) (.alloc [.str [],.str [],.n 0]) (some [])=some (.ptr 4 0,EH b s++[.cells [.str [],.str [],.n 0]]):=fun w=>by rw[eG rfl];rfl
  have W:aU 3 (EH b s++[.cells [.str [],.str [],.n 0]]) (.ptr 4 0) (.agg x.row)=some (EH b s++[.cells x.row]):=by simp[aU,bK,Imp.row,EH]
  have D:aB 1 false (EH b s++[.cells x.row]) (.ptr 4 0)=some (.str x.lib):=aR (l:=4) rfl rfl;have E:aB 1 false (EH b s++[.cells x.row]) (.ptr 4 1)=some (.str x.sym):=aR (l:=4) rfl rfl;have F:aB 1 false (EH b c++[.cells x.row]) (.ptr 4 2)=some (.n x.pos):=aR (l:=4) rfl rfl;have A:=fun s m=>wW b s m;have B:=fun s m=>GA b s m;have J:=iS b 4;have fin:=fun p(K:bW 4 p=true)=>LV (b:=b) (s:=g) (fr:=p) (tl:=[.cells x.row]) K;refine aJ (Mc.ag_L1.eq_1) ?_;rw[aQ (n:=4) rfl];generalize bP b.im=X at*;simp[q,T,U,y,W,D,E,F,A,B,gZ,o,n,P,dB,fW,bE,bU,view,dX,owns,-aB,-bB,-fQ];refine cZ ?_;rw[fin _ (by simp[bW,low,J])];simpa using f
theorem zp9{G:Gam}(hN:G Fn.ao=some (.gen rC))(hT:G Fn.ar=some (.gen rD))(b:Bin)(a:Bs)(F:a.length+(b.ex.flatMap exB).length<=1000000)(M:b.ex.length<=1000000)(t:∀x∈b.ex,x.sym.length<=65536/\(0<=x.pos/\x.pos<=65536)){ks:List MK}{Q:aY}(r:∀z,exM G .normal ks Q z [(0,.agg b.cells),(1,.ptr 0 0),(2,.str []),(3,.n 0),(4,.n 0),(5,.ptr 2 0),(6,.ptr 3 0),(8,.junk),(10,.junk),(12,.junk),(14,.junk),(50,.sl (aK b.pl)),(51,.n b.pl.length),(52,.n b.pl.length),(95,.sl (bP b.im)),(96,.n b.im.length),(97,.n b.im.length),(124,.sl (bZ b.ex)),(125,.n b.ex.length),(126,.n b.ex.length),(151,.junk),(152,.junk),(153,.junk)] (EH b (a++b.ex.flatMap exB))):∀(l:List (Expo))(i:Nat),b.ex.drop i=l->i<=b.ex.length->cY G [12] Mc.ag_L2 4 (.blk 4::ks) Q [(0,.agg b.cells),(1,.ptr 0 0),(2,.str []),(3,.n 0),(4,.n 0),(5,.ptr 2 0),(6,.ptr 3 0),(8,.junk),(10,.junk),(12,.junk),(14,.junk),(50,.sl (aK b.pl)),(51,.n b.pl.length),(52,.n b.pl.length),(95,.sl (bP b.im)),(96,.n b.im.length),(97,.n b.im.length),(124,.sl (bZ b.ex)),(125,.n b.ex.length),(126,.n i),(151,.junk),(152,.junk),(153,.junk)] (EH b (a++(b.ex.take i).flatMap exB))
 |[],i,j,K=>by
  have a1:=drop_nil j;have e:i=b.ex.length:=by omega
  subst e;have q:ltB (b.ex.length:Int) b.ex.length=false:=bC.2 (by omega);rw[kE];refine aJ (Mc.ag_L2.eq_1) ?_;rw[aQ (n:=4) rfl];generalize EH b (a++b.ex.flatMap exB)=H at*;generalize b.cells=X at*;simp;simpa using r _|x::l,i,j,K=>by
  obtain⟨a2,d,P⟩:=eT j;have q:ltB (i:Int) (b.ex.length:Int)=true:=aO.2 (by omega);have O:=dT (i:=i) (by unfold big;omega);have U:=JG d;have N:x.row.length=2:=rfl;obtain⟨x1,x3⟩:=t x (fB d);have S:∀h,bA 2 h (.sl (bZ b.ex)) (.n (i:Int))=some (.fptr x.row 0):=fun h=>by simp[bA,U,N]
  have T:∀h,aB 2 true h (.fptr x.row 0)=some (.agg x.row):=fun h=>by simp[aB,cut,aE,Expo.row]
  have Z:=rV (f:=exB) d;have C:=qT (f:=exB) d;have Y:(exB x).length=((cM x.sym).length+((bQ x.pos.toNat).length)):=by simp[exB]
  have f:=zp9 hN hT b a F M t r l (i+1) P (by omega);rw[C,<-iN]at f;obtain⟨s,u⟩:∃s,s=a++(b.ex.take i).flatMap exB:=⟨_,rfl⟩;have a3:s.length+(exB x).length<=1000000:=by rw[u,bX];omega
  rw[<-u]at f⊢;obtain⟨c,k⟩:∃c,c=s++[x.sym].flatMap cM:=⟨_,rfl⟩;have o:=DU hT b s [.cells x.row] (x:=.tsl [[.str x.sym]]) (ns:=[x.sym]) rfl (by simp;omega) (by simp) (by simp only[oX,jS,dY];unfold bT;omega);rw[<-k]at o;obtain⟨g,v⟩:∃g,g=c++[x.pos].flatMap fxB:=⟨_,rfl⟩;have n:=tT hN b c [.cells x.row] (x:=.tsl [[.n x.pos]]) (ns:=[x.pos]) rfl (by simp;omega) (by simp) (by rw[k];simp only[oX,jS,dY,bX,fxB];unfold bT;omega);rw[<-v]at n;have L:s++exB x=g:=by rw[v,k];simp[exB,fxB]
  rw[L]at f;have y:∀w,opV G w (EH b s) (.alloc [.str [],.n 0]) (some [])=some (.ptr 4 0,EH b s++[.cells [.str [],.n 0]]):=fun w=>by rw[eG rfl];rfl
  have V:aU 2 (EH b s++[.cells [.str [],.n 0]]) (.ptr 4 0) (.agg x.row)=some (EH b s++[.cells x.row]):=by simp[aU,bK,Expo.row,EH]
  have D:aB 1 false (EH b s++[.cells x.row]) (.ptr 4 0)=some (.str x.sym):=aR (l:=4) rfl rfl;have E:aB 1 false (EH b c++[.cells x.row]) (.ptr 4 1)=some (.n x.pos):=aR (l:=4) rfl rfl;have A:=fun s m=>wW b s m;have B:=fun s m=>GA b s m;have I:=iS b 4;have fin:=fun p(J:bW 4 p=true)=>LV (b:=b) (s:=g) (fr:=p) (tl:=[.cells x.row]) J;refine aJ (Mc.ag_L2.eq_1) ?_;rw[aQ (n:=4) rfl];generalize bZ b.ex=W at*;simp[q,S,T,y,V,D,E,A,B,gZ,o,n,O,dB,fW,bE,bU,view,dX,owns,-aB,-bB,-fQ];refine cZ ?_;rw[fin _ (by simp[bW,low,I])];simpa using f
theorem zq0{G:Gam}(hN:G Fn.ao=some (.gen rC))(hT:G Fn.ar=some (.gen rD))(b:Bin)(a:Bs)(C:a.length+(b.nt.flatMap ntB).length<=1000000)(J:b.nt.length<=1000000)(o:∀x∈b.nt,x.1.length<=65536/\x.2.length<=65536){ks:List MK}{Q:aY}(n:∀v,exM G .normal ks Q v [(0,.agg b.cells),(1,.ptr 0 0),(2,.str []),(3,.n 0),(4,.n 0),(5,.ptr 2 0),(6,.ptr 3 0),(8,.junk),(10,.junk),(12,.junk),(14,.junk),(50,.sl (aK b.pl)),(51,.n b.pl.length),(52,.n b.pl.length),(95,.sl (bP b.im)),(96,.n b.im.length),(97,.n b.im.length),(124,.sl (bZ b.ex)),(125,.n b.ex.length),(126,.n b.ex.length),(151,.sl (dK b.nt)),(152,.n b.nt.length),(153,.n b.nt.length)] (EH b (a++b.nt.flatMap ntB))):∀(j:List (Bs×Bs))(i:Nat),b.nt.drop i=j->i<=b.nt.length->cY G [14] Mc.ag_L3 4 (.blk 6::ks) Q [(0,.agg b.cells),(1,.ptr 0 0),(2,.str []),(3,.n 0),(4,.n 0),(5,.ptr 2 0),(6,.ptr 3 0),(8,.junk),(10,.junk),(12,.junk),(14,.junk),(50,.sl (aK b.pl)),(51,.n b.pl.length),(52,.n b.pl.length),(95,.sl (bP b.im)),(96,.n b.im.length),(97,.n b.im.length),(124,.sl (bZ b.ex)),(125,.n b.ex.length),(126,.n b.ex.length),(151,.sl (dK b.nt)),(152,.n b.nt.length),(153,.n i)] (EH b (a++(b.nt.take i).flatMap ntB))
 |[],i,g,F=>by
  have X:=drop_nil g;have e:i=b.nt.length:=by omega
  subst e;have q:ltB (b.nt.length:Int) b.nt.length=false:=bC.2 (by omega);rw[kE];refine aJ (Mc.ag_L3.eq_1) ?_;rw[aQ (n:=4) rfl];generalize EH b (a++b.nt.flatMap ntB)=H at*;generalize b.cells=U at*;simp;simpa using n _|x::j,i,g,F=>by
  obtain⟨Y,c,M⟩:=eT g;have q:ltB (i:Int) (b.nt.length:Int)=true:=aO.2 (by omega);have L:=dT (i:=i) (by unfold big;omega);have P:=KL c;have K:(dI x).length=2:=rfl;obtain⟨x1,x2⟩:=o x (fB c);have N:∀h,bA 2 h (.sl (dK b.nt)) (.n (i:Int))=some (.fptr (dI x) 0):=fun h=>by simp[bA,P,K]
  have O:∀h,aB 2 true h (.fptr (dI x) 0)=some (.agg (dI x)):=fun h=>by simp[aB,cut,aE,dI]
  have W:=rV (f:=ntB) c;have z:=qT (f:=ntB) c;have V:(ntB x).length=((cM x.1).length+((cM x.2).length)):=by simp[ntB]
  have d:=zq0 hN hT b a C J o n j (i+1) M (by omega);rw[z,<-iN]at d;obtain⟨s,p⟩:∃s,s=a++(b.nt.take i).flatMap ntB:=⟨_,rfl⟩;have Z:s.length+(ntB x).length<=1000000:=by rw[p,bX];omega
  rw[<-p]at d⊢;obtain⟨f,r⟩:∃f,f=s++[x.1,x.2].flatMap cM:=⟨_,rfl⟩;have l:=DU hT b s [.cells (dI x)] (x:=.tsl [[.str x.1],[.str x.2]]) (ns:=[x.1,x.2]) rfl (by simp;omega) (by simp) (by simp only[oX,jS,dY,bX];unfold bT;omega);rw[<-r]at l;have I:s++ntB x=f:=by rw[r];simp[ntB]
  rw[I]at d;have u:∀t,opV G t (EH b s) (.alloc [.str [],.str []]) (some [])=some (.ptr 4 0,EH b s++[.cells [.str [],.str []]]):=fun t=>by rw[eG rfl];rfl
  have S:aU 2 (EH b s++[.cells [.str [],.str []]]) (.ptr 4 0) (.agg (dI x))=some (EH b s++[.cells (dI x)]):=by simp[aU,bK,dI,EH]
  have A:aB 1 false (EH b s++[.cells (dI x)]) (.ptr 4 0)=some (.str x.1):=aR (l:=4) rfl rfl;have B:aB 1 false (EH b s++[.cells (dI x)]) (.ptr 4 1)=some (.str x.2):=aR (l:=4) rfl rfl;have w:=fun s k=>wW b s k;have y:=fun s k=>GA b s k;have D:=iS b 4;have fin:=fun m(E:bW 4 m=true)=>LV (b:=b) (s:=f) (fr:=m) (tl:=[.cells (dI x)]) E;refine aJ (Mc.ag_L3.eq_1) ?_;rw[aQ (n:=4) rfl];generalize dK b.nt=T at*;simp[q,N,O,u,S,A,B,y,gZ,l,L,dB,fW,bE,bU,view,dX,owns,-aB,-bB,-fQ];refine cZ ?_;rw[fin _ (by simp[bW,low,D])];simpa using d
def qC:List AV->Option AV
 |[.agg a]=>match mP a with
  |some b=>if lG b=true/\gS b=0/\(dC b).length<=65536 then some (.tup [.str (dC b),.n 0])else none|none=>none
 |_=>none
theorem zX3{b:Bin}{o:Bs}(a:o≠[])(c:o.length<=bT):rF 5 [.ptr 2 0] (EH b o)=some (.str o,(EH b o).set 1 .dead):=by
 have:0<o.length:=vD.2 a;simp only[rF,EH,mM,tM];rw[if_pos ⟨trivial,trivial,by simp,c⟩,if_neg (by omega),OL];rfl
theorem yi7(b:Bin):dC b≠[]:=by
 unfold dC;intro h;have:=congrArg List.length h;simp[cM]at this
theorem yx4{G:Gam}(hL:G Fn.dh=some (.gen (cJ zD)))(hS:G Fn.bz=some (.gen (rF 5)))(b:Bin)(hl:(dC b).length<=65536)(d:List (Nat×AV)):exM G .normal [.seq MF] (aD Rs.ag (.tup [.str (dC b),.n 0])) d [(0,.agg b.cells),(1,.ptr 0 0),(2,.str []),(3,.n 0),(4,.n 0),(5,.ptr 2 0),(6,.ptr 3 0),(8,.junk),(10,.junk),(12,.junk),(14,.junk),(50,.sl (aK b.pl)),(51,.n b.pl.length),(52,.n b.pl.length),(95,.sl (bP b.im)),(96,.n b.im.length),(97,.n b.im.length),(124,.sl (bZ b.ex)),(125,.n b.ex.length),(126,.n b.ex.length),(151,.sl (dK b.nt)),(152,.n b.nt.length),(153,.n b.nt.length)] (EH b (dC b)):=by
 have e:=zX3 (b:=b) (yi7 b) (by unfold bT;omega);have a:opV G false (EH b (dC b)) (.call Fn.dh) (some [.ptr 2 0])=some (.n (dC b).length,EH b (dC b)):=by rw[eX hL];simp[cJ,zD,EH]
 have c:opV G false (EH b (dC b)) (.call Fn.bz) (some [.ptr 2 0])=some (.str (dC b),(EH b (dC b)).set 1 .dead):=by rw[eX hS];exact e
 have q:ltB 65536 ((dC b).length:Int)=false:=bC.2 (by omega);generalize dC b=S at*;generalize b.cells=f at*;simp[MF,a,c,q,aD,Rs.ag,upd,lkp]
section
variable{G:Gam}(hN:G Fn.ao=some (.gen rC))(hT:G Fn.ar=some (.gen rD))(hL:G Fn.dh=some (.gen (cJ zD)))(hS:G Fn.bz=some (.gen (rF 5)))(b:Bin)(R:OkRange b)(hl:(dC b).length<=65536)
include hN hT hL hS R hl
theorem yx3(S:Bs)(c:S++[(b.nt.length:Int)].flatMap fxB++b.nt.flatMap ntB=dC b)(e:List (Nat×AV)):exM G .normal [.seq MD] (aD Rs.ag (.tup [.str (dC b),.n 0])) e [(0,.agg b.cells),(1,.ptr 0 0),(2,.str []),(3,.n 0),(4,.n 0),(5,.ptr 2 0),(6,.ptr 3 0),(8,.junk),(10,.junk),(12,.junk),(14,.junk),(50,.sl (aK b.pl)),(51,.n b.pl.length),(52,.n b.pl.length),(95,.sl (bP b.im)),(96,.n b.im.length),(97,.n b.im.length),(124,.sl (bZ b.ex)),(125,.n b.ex.length),(126,.n b.ex.length),(151,.junk),(152,.junk),(153,.junk)] (EH b S):=by
 have k:=congrArg List.length c;simp only[bX]at k;obtain⟨a,f⟩:∃a,a=S++[(b.nt.length:Int)].flatMap fxB:=⟨_,rfl⟩;have p:=R.ntL;have d:=tT hN b S [] (x:=.tsl [[.n b.nt.length]]) (ns:=[(b.nt.length:Int)]) rfl (by simp;omega) (by simp) (by unfold bT;omega);rw[<-f]at d c;have o:a.length<=65536:=by rw[f];simp only[bX];omega
 have l:=congrArg List.length c;simp only[bX]at l;simp only[dY]at d;have h:∀S,aB 1 false (EH b S) (.ptr 3 0)=some (.fn Fn.ao [.ptr 2 0]):=fun S=>by have:=wW b S [];simpa only[dY]using this
 have n:∀S,aB 1 false (EH b S) (.ptr 0 7)=some (.sl (dK b.nt)):=fun S=>aR (l:=0) rfl rfl;have g:=zq0 hN hT b a (by omega) (by omega) (fun x m=>by obtain⟨i,j⟩:=R.nt x m;exact⟨i,j⟩) (ks:=[.seq MF]) (Q:=aD Rs.ag (.tup [.str (dC b),.n 0])) (fun e=>by rw[c];exact yx4 hL hS b hl e) b.nt 0 rfl (by omega);simp only[lA,jS,dY,kY]at g;simp[MD,h,n,gZ,d,dB,fW,bE,bU,view,dX,owns,upd,-aB];simpa[LU]using g
theorem yx2(S:Bs)(c:S++[(b.ex.length:Int)].flatMap fxB++b.ex.flatMap exB++dU ntB b.nt=dC b)(f:List (Nat×AV)):exM G .normal [.seq MB] (aD Rs.ag (.tup [.str (dC b),.n 0])) f [(0,.agg b.cells),(1,.ptr 0 0),(2,.str []),(3,.n 0),(4,.n 0),(5,.ptr 2 0),(6,.ptr 3 0),(8,.junk),(10,.junk),(12,.junk),(14,.junk),(50,.sl (aK b.pl)),(51,.n b.pl.length),(52,.n b.pl.length),(95,.sl (bP b.im)),(96,.n b.im.length),(97,.n b.im.length),(124,.junk),(125,.junk),(126,.junk),(151,.junk),(152,.junk),(153,.junk)] (EH b S):=by
 have l:=congrArg List.length c;simp only[bX]at l;have h:=yx3 hN hT hL hS b R hl (S++[(b.ex.length:Int)].flatMap fxB++b.ex.flatMap exB) (by rw[<-c];simp[dU,fxB]);obtain⟨a,e⟩:∃a,a=S++[(b.ex.length:Int)].flatMap fxB:=⟨_,rfl⟩;have q:=R.exL;have d:=tT hN b S [] (x:=.tsl [[.n b.ex.length]]) (ns:=[(b.ex.length:Int)]) rfl (by simp;omega) (by simp) (by unfold bT;omega);rw[<-e]at d c;rw[<-e]at h;have p:a.length<=65536:=by rw[e];simp only[bX];omega
 have m:=congrArg List.length c;simp only[bX]at m;simp only[dY]at d;have i:∀S,aB 1 false (EH b S) (.ptr 3 0)=some (.fn Fn.ao [.ptr 2 0]):=fun S=>by have:=wW b S [];simpa only[dY]using this
 have o:∀S,aB 1 false (EH b S) (.ptr 0 6)=some (.sl (bZ b.ex)):=fun S=>aR (l:=0) rfl rfl;have g:=zp9 hN hT b a (by omega) (by omega) (fun x n=>by obtain⟨j,k⟩:=R.ex x n;exact⟨j,k⟩) (ks:=[.seq MD]) (Q:=aD Rs.ag (.tup [.str (dC b),.n 0])) (fun f=>h f) b.ex 0 rfl (by omega);simp only[lA,jS,dY,kY]at g;simp[MB,i,o,gZ,d,dB,fW,bE,bU,view,dX,owns,upd,-aB];simpa[LU]using g
theorem yx1(S:Bs)(a:S++[(b.fx.length:Int)].flatMap fxB++b.fx.flatMap fxB++[(b.im.length:Int)].flatMap fxB++b.im.flatMap imB++dU exB b.ex++dU ntB b.nt=dC b)(l:List (Nat×AV)):exM G .normal [.seq MA] (aD Rs.ag (.tup [.str (dC b),.n 0])) l [(0,.agg b.cells),(1,.ptr 0 0),(2,.str []),(3,.n 0),(4,.n 0),(5,.ptr 2 0),(6,.ptr 3 0),(8,.junk),(10,.junk),(12,.junk),(14,.junk),(50,.sl (aK b.pl)),(51,.n b.pl.length),(52,.n b.pl.length),(95,.junk),(96,.junk),(97,.junk),(124,.junk),(125,.junk),(126,.junk),(151,.junk),(152,.junk),(153,.junk)] (EH b S):=by
 have t:=congrArg List.length a;simp only[bX]at t;have q:=yx2 hN hT hL hS b R hl (S++[(b.fx.length:Int)].flatMap fxB++b.fx.flatMap fxB++[(b.im.length:Int)].flatMap fxB++b.im.flatMap imB) (by rw[<-a];simp[dU,fxB]);obtain⟨d,c⟩:∃d,d=S++[(b.fx.length:Int)].flatMap fxB:=⟨_,rfl⟩;obtain⟨e,g⟩:∃e,e=d++b.fx.flatMap fxB:=⟨_,rfl⟩;obtain⟨f,k⟩:∃f,f=e++[(b.im.length:Int)].flatMap fxB:=⟨_,rfl⟩;have B:=R.fxL;have C:=R.imL;have h:=tT hN b S [] (x:=.tsl [[.n b.fx.length]]) (ns:=[(b.fx.length:Int)]) rfl (by simp;omega) (by simp) (by unfold bT;omega);rw[<-c]at h a;have i:=tT hN b d [] (x:=.sl (bO b.fx)) (ns:=b.fx) rfl (fun n v=>by obtain⟨m,o⟩:=R.fx n v;omega) (by omega) (by unfold bT;rw[c];simp only[bX];omega);rw[<-g]at i a;have j:=tT hN b e [] (x:=.tsl [[.n b.im.length]]) (ns:=[(b.im.length:Int)]) rfl (by simp;omega) (by simp) (by unfold bT;rw[g,c];simp only[bX];omega);rw[<-k]at j a;rw[<-c,<-g,<-k]at q;have A:f.length<=65536:=by rw[k,g,c];simp only[bX];omega
 have u:=congrArg List.length a;simp only[bX]at u;simp only[dY]at h i j;have r:∀S,aB 1 false (EH b S) (.ptr 3 0)=some (.fn Fn.ao [.ptr 2 0]):=fun S=>by have:=wW b S [];simpa only[dY]using this
 have y:∀S,aB 1 false (EH b S) (.ptr 0 4)=some (.sl (bO b.fx)):=fun S=>aR (l:=0) rfl rfl;have z:∀S,aB 1 false (EH b S) (.ptr 0 5)=some (.sl (bP b.im)):=fun S=>aR (l:=0) rfl rfl;have p:=zp8 hN hT b f (by omega) (by omega) (fun x w=>by obtain⟨m,o,s⟩:=R.im x w;exact⟨m,o,s⟩) (ks:=[.seq MB]) (Q:=aD Rs.ag (.tup [.str (dC b),.n 0])) (fun l=>q l) b.im 0 rfl (by omega);simp only[lA,jS,dY,kY]at p;simp[MA,r,y,z,gZ,h,i,j,dB,fW,bE,bU,view,dX,owns,upd,-aB];simpa[LU]using p
theorem yx0(n:List (Nat×AV)):goM G LZ [] (aD Rs.ag (.tup [.str (dC b),.n 0])) n [(0,.agg b.cells),(1,.ptr 0 0),(2,.str []),(3,.n 0),(4,.n 0),(5,.ptr 2 0),(6,.ptr 3 0),(8,.junk),(10,.junk),(12,.junk),(14,.junk),(50,.junk),(51,.junk),(52,.junk),(95,.junk),(96,.junk),(97,.junk),(124,.junk),(125,.junk),(126,.junk),(151,.junk),(152,.junk),(153,.junk)] (EH b []):=by
 have F:(dC b).length=(cM iI).length+((bQ b.kind.toNat).length+((bQ (b.entry+1).toNat).length+((cM b.img).length+((bQ b.pl.length).length+((b.pl.flatMap plB).length+((dU fxB b.fx).length+((dU imB b.im).length+((dU exB b.ex).length+(dU ntB b.nt).length)))))))):=by
  unfold dC oA;simp only[bX,dU];omega
 have J:=R.plL;have H:=R.img;have I:=R.kind;have K:=R.entry;obtain⟨d,a⟩:∃d,d=[]++[iI].flatMap cM:=⟨_,rfl⟩;obtain⟨e,c⟩:∃e,e=d++[b.kind,b.entry+1].flatMap fxB:=⟨_,rfl⟩;obtain⟨f,h⟩:∃f,f=e++[b.img].flatMap cM:=⟨_,rfl⟩;obtain⟨g,i⟩:∃g,g=f++[(b.pl.length:Int)].flatMap fxB:=⟨_,rfl⟩;have L:d.length<=65536:=by rw[a];simp only[bX,oX,jS,dY,gQ];omega
 have M:e.length<=65536:=by rw[c,a];simp only[bX,oX,jS,dY,gQ,fxB];omega
 have N:f.length<=65536:=by rw[h,c,a];simp only[bX,oX,jS,dY,gQ,fxB];omega
 have O:g.length+(b.pl.flatMap plB).length<=65536:=by rw[i,h,c,a];simp only[bX,oX,jS,dY,gQ,fxB,iG];omega
 have j:=DU hT b [] [] (x:=.tsl [[.str iI]]) (ns:=[iI]) rfl (by simp[iI]) (by simp) (by rw[<-bX,<-a];unfold bT;omega);rw[<-a]at j;have k:=tT hN b d [] (x:=.tsl [[.n b.kind],[.n (b.entry+1)]]) (ns:=[b.kind,b.entry+1]) rfl (by simp;omega) (by simp) (by rw[<-bX,<-c];unfold bT;omega);rw[<-c]at k;have l:=DU hT b e [] (x:=.tsl [[.str b.img]]) (ns:=[b.img]) rfl (by simp;omega) (by simp) (by rw[<-bX,<-h];unfold bT;omega);rw[<-h]at l;have m:=tT hN b f [] (x:=.tsl [[.n b.pl.length]]) (ns:=[(b.pl.length:Int)]) rfl (by simp;omega) (by simp) (by rw[<-bX,<-i];unfold bT;omega);rw[<-i]at m;simp only[dY]at j k l m;have p:∀S,aB 1 false (EH b S) (.ptr 3 0)=some (.fn Fn.ao [.ptr 2 0]):=fun S=>by have:=wW b S [];simpa only[dY]using this
 have q:∀S,aB 1 false (EH b S) (.ptr 3 1)=some (.fn Fn.ar [.ptr 2 0]):=fun S=>by have:=GA b S [];simpa only[dY]using this
 have z:∀S,aB 1 false (EH b S) (.ptr 0 0)=some (.n b.kind):=fun S=>aR (l:=0) rfl rfl;have A:∀S,aB 1 false (EH b S) (.ptr 0 1)=some (.n b.entry):=fun S=>aR (l:=0) rfl rfl;have B:∀S,aB 1 false (EH b S) (.ptr 0 2)=some (.str b.img):=fun S=>aR (l:=0) rfl rfl;have C:∀S,aB 1 false (EH b S) (.ptr 0 3)=some (.sl (aK b.pl)):=fun S=>aR (l:=0) rfl rfl;have wr:IntKind.i64.wrap (b.entry+1)=b.entry+1:=i64_in _ ⟨by omega,by omega⟩;have D:=yx1 hN hT hL hS b R hl (g++b.pl.flatMap plB) (by rw[i,h,c,a];simp[dU,fxB,dC,oA]);have o:=zp7 hN hT b g (by omega) (by omega) (fun x y=>by obtain⟨r,s,t,h4,h5,u,v⟩:=R.pl x y;exact⟨r,s,⟨t,h5⟩,u,v⟩) (ks:=[.seq MA]) (Q:=aD Rs.ag (.tup [.str (dC b),.n 0])) (fun n=>D n) b.pl 0 rfl (by omega);simp only[lA,jS,dY,kY]at o;have w:([98,105,110,97,114,121]:Bs)=iI:=rfl;simp only[LZ,w];generalize iI=E at*;simp[p,q,z,A,B,C,wr,gZ,j,k,l,m,dB,fW,bE,bU,view,dX,owns,upd,-aB];simpa[LU]using o
end
theorem zX7{G:Gam}(j:G Fn.ab=some (.pure kX))(hN:G Fn.ao=some (.gen rC))(hT:G Fn.ar=some (.gen rD))(hL:G Fn.dh=some (.gen (cJ zD)))(hS:G Fn.bz=some (.gen (rF 5))):PW G Mc.ag Rs.ag Ks.ag qC:=by
 intro s r a;unfold qC at a;split at a
 ·rename_i g;split at a
  ·rename_i b k;have m:=mE k;subst m;split at a
   ·rename_i l;obtain⟨n,d,hl⟩:=l;injection a with a;subst a;have R:=OO d hl;have p:=fun c=>qO (G:=G) b c;have o:=AM (b:=b) [];have f:∀c h,opV G c h (.call Fn.ab) (some [.agg b.cells])=some (.n 0,h):=fun c h=>bF j (us:=[.agg b.cells]) (qM b h) (by simp only[kX,jK];rw[if_pos n,d]) (.inl rfl);have e:=fun i=>yx0 hN hT hL hS b R hl i;rw[Mc.ag,aM];generalize LZ=T at*;generalize dC b=q at*;simp only[EH,gQ,rM,bD]at e;generalize b.cells=g at*;simp[Ks.ag,aC,upd,lkp,p,o,f,eO,bK,AV.cells,-aB];simpa[AV.cells,bK]using e _
   ·cases a
  ·cases a
 ·cases a
theorem xg1{P:Program}{h:Gv}{f:FuncId}{m:List AV->aA->Option (AV×aA)}(i:fA P h f m){F:List AV->Option AV}(L:∀d r,F d=some r->∃v c,m d []=some (v,c)/\view c v=some r):dW P h f F:=by
 intro I w d r W q s S M;have O:Inv ⟨w.heap.size,I,h,fun _=>none,Cx.pure fun _ _=>none⟩ (Cx.pure I) [] w:=⟨q.cell,q.one,fun l t a=>by simp at a,fun l l' t X b a=>by simp at a,fun l _=>⟨rfl,fun _=>rfl⟩,fun l ne tg sz a2 a1 wr a=>by simp at a,dA _,fun b o u _ j=>j,s.gl,(fun g y i=>(by obtain⟨T,K,p⟩:=s.tb g y i;exact⟨gY p,T,K,p⟩)),(fun l x k=>by cases k),⟨(fun _ _ _ x=>by cases x),(fun _ _ x=>by cases x),(fun _ _ _ x=>by cases x)⟩⟩;obtain⟨v,c,U,V⟩:=L d r M;refine(i ⟨w.heap.size,I,h,fun _=>none,Cx.pure fun _ _=>none⟩ (Cx.pure I) [] w d v c W rfl O S U).mono fun e w' Q=>?_;obtain⟨u,D,rfl,z,A,B,C⟩:=Q;have N:frz c v=some (r,eS c (owns v)):=by simp[frz,V]
 obtain⟨E,H,n,J,Y,Z⟩:=tZ A N B;exact⟨u,E.im,rfl,⟨fun b o x k=>H.im _ _ _ (z.im _ _ _ k),fun b o u j a=>n.low b o u a j⟩,n.holds,J,C.below⟩
def FG(a:List (List AV)):Bool:=a.all fun r=>r.all fun c=>match c with|.int _ _=>true|.str _=>true|_=>false
def pY(c bytes:Nat):List AV->Option AV
 |[.sl a]=>if FG a=true/\dB c a=true/\a.length*bytes<=140737488355328/\a.length<=maxLen then some (.sl a)else none|_=>none
theorem zS2(h:aA):∀r:List AV,(r.all fun c=>match c with|.int _ _=>true|.str _=>true|_=>false)=true->bU h r=some r
 |[],_=>by simp[bU]|c::r,a=>by
  rw[qJ,bS]at a;have e:=zS2 h r a.2;have d:=a.1;cases c<;>simp_all[bU,view]
theorem zS4(h:aA):∀a:List (List AV),FG a=true->sQ h a=some a
 |[],_=>by simp[sQ]|r::a,c=>by
  unfold FG at c;rw[qJ,bS]at c;have d:=zS4 h a c.2;simp[sQ,d,zS2 h r c.1]
theorem OP{P:Program}{e:Gv}{f:FuncId}{d bytes:Nat}(n:fA P e f (jF d bytes)):dW P e f (pY d bytes):=by
 refine xg1 n fun o r a=>?_;unfold pY at a;split at a
 ·rename_i c;split at a
  ·rename_i l;obtain⟨g,h,i,j⟩:=l;injection a with a;subst a;by_cases k:c=[]
   ·subst k;exact⟨.sl [],[],by simp[jF,tV],by simp[view]⟩
   ·have m:c.isEmpty=false:=by cases c<;>simp_all
    refine⟨.own 0 0 c.length,[.arr d 0 c true],by simp only[jF,tV,m];rw[if_neg (by simp),if_pos ⟨h,i,j⟩];rfl,?_⟩;have:=zS4 [.arr d 0 c true] c g;simp[view,rowsOf]
  ·cases a
 ·cases a
def GD(a:Nat):List AV->aA->Option (AV×aA)
 |[.sl []],h=>some (.own h.length 0 0,h++[.arr a 0 [] true])|_,_=>none
theorem yo8{P:Program}{F:Gv}{f:FuncId}{e:TypeId}{g bytes:Nat}(H:∀(a:Addr)(n c:Nat)(s:List Value)(w:World),s.length=n*g->n<=maxLen->n*bytes<=140737488355328->(∀j u,s[j]?=some u->w.cell? (a.add j)=some u)->(∀u∈s,u.oneCell'=true)->Calls P f #[.slice (some a) n c] w fun o d=>(∃z,o=.returned z/\d.ownsRow w.heap.size e g z n s)/\Below w.heap.size w d)(I:∀(n c:Nat)(w:World),Calls P f #[.slice none n c] w fun o d=>o=.returned (.slice none 0 0)/\d=w):fA P F f (GD g):=by
 intro B C h w Y b1 h' X a3 k x i;unfold GD at i;split at i
 ·simp only[aT,dF]at i;obtain⟨rfl,rfl⟩:=i;obtain⟨v,W,E,M,x⟩:=x.inv_cons;have:=x.inv_nil;subst this;have N:X=#[v]:=by apply kP;simpa using E
  subst N;have O:∀n c,Calls P f #[.slice none n c] w fun o d=>∃v D,o=.returned v/\C.Le D/\Inv B D (h++[.arr g 0 [] true]) d/\Rel D (.own h.length 0 0) v/\Keep B w d:=fun n c=>(I n c w).mono fun o d t=>by
   obtain⟨rfl,rfl⟩:=t;obtain⟨l,m,p⟩:=NT k g;exact⟨_,_,rfl,p,l,m,.refl _ _⟩
  have A:∀a c,Calls P f #[.slice (some a) 0 c] w fun o d=>∃v D,o=.returned v/\C.Le D/\Inv B D (h++[.arr g 0 [] true]) d/\Rel D (.own h.length 0 0) v/\Keep B w d:=fun a c=>(H a 0 c [] w (by simp) (by simp) (by simp) (fun j u J=>by simp at J) (fun u y=>by cases y)).mono fun o d t=>by
   obtain⟨⟨z,rfl,K⟩,r⟩:=t;rcases K.2 with⟨rfl,_⟩|⟨a1,q,Z,rfl,Q,S,T,U,V,q6⟩
   ·obtain⟨l,m,p⟩:=NT (k.grow r) g;exact⟨_,_,rfl,p,l,m,.grown r k.hB⟩
   ·obtain⟨l,m,p⟩:=zh3 (rows:=[]) (size:=g) k Q r S T U (fun b2 L=>by cases L) V (by simp only[gQ,Nat.zero_mul,lA,List.flatten_nil];exact .nil) (by simp only[gQ,Nat.zero_mul,lA];intro u y;cases y);exact⟨_,_,rfl,p,l,m,.grown r k.hB⟩
  cases M with
  |slnil=>exact O 0 0|slz a q=>exact A a q|sl _ b o q b3 W a2 g1 g2 g3=>exact A _ q
 ·cases i
def BL(b:Bin):Bool:=decide (b.pl.length<=100000/\b.fx.length<=100000/\b.im.length<=100000/\b.ex.length<=100000/\b.nt=[])
def Bin.cellsN(b:Bin)(l:Nat):List AV:=[.n b.kind,.n b.entry,.str b.img,.sl (aK b.pl),.sl (bO b.fx),.sl (bP b.im),.sl (bZ b.ex),.own l 0 0]
def GI:List AV->aA->Option (AV×aA)
 |[.agg a],h=>match mP a with
  |some b=>if BL b=true then some (.agg (b.cellsN (h.length+2)),h++[.cells (b.cellsN (h.length+2)),.cells (b.cellsN (h.length+2)),.arr 2 0 [] true])else none|none=>none
 |_,_=>none
theorem RC{a:Type}{f:a->List AV}(d:∀x,((f x).all fun c=>match c with|.int _ _=>true|.str _=>true|_=>false)=true)(l:List a):FG (l.map f)=true:=by
 unfold FG;rw[List.all_map];exact gV.2 fun x _=>d x
theorem OQ{G:Gam}{f:FuncId}{c bytes:Nat}(i:G f=some (.pure (pY c bytes))){a:List (List AV)}(d:FG a=true)(e:dB c a=true)(g:a.length<=100000)(j:bytes<=100)(k:Bool)(h:aA):opV G k h (.call f) (some [.sl a])=some (.sl a,h):=bF i (us:=[.sl a]) rfl (by
 simp only[pY];have:a.length*bytes<=100000*100:=Nat.mul_le_mul g j;rw[if_pos ⟨d,e,by omega,by unfold maxLen;omega⟩]) (.inr rfl)
theorem yq0{G:Gam}(j:G Fn.ek=some (.pure (pY 5 56)))(k:G Fn.en=some (.pure (pY 1 8)))(l:G Fn.el=some (.pure (pY 3 40)))(m:G Fn.ej=some (.pure (pY 2 24)))(n:G Fn.eg=some (.gen (GD 2))):GW G Mc.dt Rs.dt Ks.dt GI:=by
 intro E h r H c;unfold GI at c;split at c
 ·rename_i F;split at c
  ·rename_i b p;have s:=mE p;subst s;split at c
   ·rename_i i;unfold BL at i;obtain⟨u,v,w,y,z⟩:=of_decide_eq_true i;simp only[aT,dF]at c;obtain⟨rfl,rfl⟩:=c;have d:=fun a h=>OQ (G:=G) j (RC (f:=Plc.row) (fun x=>rfl) b.pl) (FM (e:=Plc.row) (n:=5) (fun _=>rfl) b.pl) (by simpa using u) (by omega) a h;have e:=fun a h=>OQ (G:=G) k (RC (f:=eC) (fun x=>rfl) b.fx) (FM (e:=eC) (n:=1) (fun _=>rfl) b.fx) (by simpa using v) (by omega) a h;have f:=fun a h=>OQ (G:=G) l (RC (f:=Imp.row) (fun x=>rfl) b.im) (FM (e:=Imp.row) (n:=3) (fun _=>rfl) b.im) (by simpa using w) (by omega) a h;have g:=fun a h=>OQ (G:=G) m (RC (f:=Expo.row) (fun x=>rfl) b.ex) (FM (e:=Expo.row) (n:=2) (fun _=>rfl) b.ex) (by simpa using y) (by omega) a h;have o:∀a h,opV G a h (.callg Fn.eg) (some [.sl []])=some (.own h.length 0 0,h++[.arr 2 0 [] true]):=fun a h=>by rw[WV n];rfl
    have t:dK b.nt=[]:=by rw[z];rfl
    have q:b.cells=[.n b.kind,.n b.entry,.str b.img,.sl (aK b.pl),.sl (bO b.fx),.sl (bP b.im),.sl (bZ b.ex),.sl []]:=by unfold Bin.cells;rw[t]
    rw[q,aM];unfold Bin.cellsN;simp only[aK,bO,bP,bZ]at d e f g⊢;generalize b.pl.map Plc.row=A at*;generalize b.fx.map eC=B at*;generalize b.im.map Imp.row=C at*;generalize b.ex.map Expo.row=D at*;simp[Mc.dt,Ks.dt,aC,upd,lkp,d,e,f,g,o,dM,Rs.dt,AV.cells,bK,cut,aE]
   ·cases c
  ·cases c
 ·cases c
def eQ(b:Bin)(n:Bs×Bs):Bin:={b with nt:=[n]}
def sS:List AV->Option AV
 |[.agg d,.agg [.str a,.str c]]=>match mP d with
  |some b=>if lG b=true/\gS b=0/\BL b=true/\gN a=true/\a.length<=1000/\c.length<=65536 then some (.tup [.agg (eQ b (a,c)).cells,.n 0])else none|none=>none
 |_=>none
theorem zD3{G:Gam}{f:FuncId}(hN:G f=some (.pure rJ)){b:Bin}(c:b.nt=[])(a:Bs)(d:Bool)(h:aA):opV G d h (.call f) (some [.agg b.cells,.str a])=some (.tup [.str [],.F],h):=bF hN (us:=[.agg b.cells,.str a]) (by simp[bU,view,Bin.cells]) (by simp only[rJ,jK];rw[c];rw[if_pos (by unfold big;simp)];rfl) (.inl rfl)
theorem zU9{G:Gam}(w:G Fn.ab=some (.pure kX))(x:G Fn.bu=some (.pure rJ))(hT:G Fn.be=some (.pure iL))(v:G Fn.dt=some (.gen GI)):PW G Mc.ds Rs.ds Ks.ds sS:=by
 intro O r g;unfold sS at g;split at g
 ·rename_i P i j;split at g
  ·rename_i b y;have D:=mE y;subst D;split at g
   ·rename_i z;obtain⟨H,A,p,E,S,Q⟩:=z;injection g with g;subst g;have s:=p;unfold BL at s;obtain⟨T,U,V,W,t⟩:=of_decide_eq_true s;have n:=fun k h=>zD3 (G:=G) x t i k h;have m:∀k h,opV G k h (.call Fn.ab) (some [.agg b.cells])=some (.n 0,h):=fun k h=>bF w (us:=[.agg b.cells]) (qM b h) (by simp only[kX,jK];rw[if_pos H,A]) (.inl rfl);have o:=fun k h=>SG (G:=G) hT (s:=i) (by omega) k h;rw[E]at o;have l:∀h,opV G false h (.call Fn.dt) (some [.agg b.cells])=some (.agg (b.cellsN (h.length+2)),h++[.cells (b.cellsN (h.length+2)),.cells (b.cellsN (h.length+2)),.arr 2 0 [] true]):=fun h=>by rw[eX v];simp only[GI,jK];rw[if_pos p]
    have q:ltB 65536 (j.length:Int)=false:=bC.2 (by omega);have I:eqB (0:Int) 64=false:=rfl;have F:dK b.nt=[]:=by rw[t];rfl
    have C:b.cells=[.n b.kind,.n b.entry,.str b.img,.sl (aK b.pl),.sl (bO b.fx),.sl (bP b.im),.sl (bZ b.ex),.sl []]:=by unfold Bin.cells;rw[F]
    have B:(eQ b (i,j)).cells=[.n b.kind,.n b.entry,.str b.img,.sl (aK b.pl),.sl (bO b.fx),.sl (bP b.im),.sl (bZ b.ex),.sl [[.str i,.str j]]]:=rfl;rw[B];rw[C]at n m l⊢;unfold Bin.cellsN at l;have J:∀(h:aA),sQ h [[.str i,.str j]]=some [[.str i,.str j]]:=fun h=>by simp[sQ,bU,view]
    have u:∀(a b c d e f:Blk),opV G false [a,b,c,d,e,.arr 2 0 [] true,f] (.app false 2 32) (some [.own 5 0 0,.tsl [[.str i,.str j]]])=some (.own 5 1 1,[a,b,c,d,e,.arr 2 1 [[.str i,.str j]] true,f]):=fun a b c d e f=>by rw[eG rfl];simp[cG,kF,rowsOf,dB,lN,bT]
    rw[aM];generalize aK b.pl=K at*;generalize bO b.fx=L at*;generalize bP b.im=M at*;generalize bZ b.ex=N at*;simp[Mc.ds,Ks.ds,aC,upd,lkp,n,m,o,l,q,I,aD,Rs.ds,AV.cells,bK,cut,aE,dB,fW,bE,bU,view,dX,owns,u,rowsOf]
   ·cases g
  ·cases g
 ·cases g
end Go.Proofs.YtdebajodkallbaaGreatDoor
