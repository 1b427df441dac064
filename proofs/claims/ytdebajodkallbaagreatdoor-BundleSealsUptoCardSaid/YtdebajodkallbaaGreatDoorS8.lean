/- The reference's Hex -/
import Derived.Test.YtdebajodkallbaaGreatDoorS7
namespace Go.Proofs.YtdebajodkallbaaGreatDoor
open Go.RowKit Go.IntWalk
abbrev JR(s:Bs)(i:Nat):List (Nat×AV):=[(0,.str s),(2,.str []),(3,.n 0),(4,.str hexDigits),(5,.own 0 (2*i) (2*i)),(6,.n i)]
abbrev JS(s:Bs)(i:Nat):aA:=[.arr 1 (2*i) ((dO (s.take i)).map gJ) true]
theorem zu8(G:Gam)(s:Bs)(A:s.length<1000){ks:List MK}{Q:aY}:∀(o:Bs)(i:Nat),s.drop i=o->i<=s.length->(∀z,exM G .normal ks Q z (JR s s.length) (JS s s.length))->cY G [] Mc.b3_L0 1 (.blk 0::ks) Q (JR s i) (JS s i)
 |[],i,l,B,f=>by
  have D:=drop_nil l;have e:i=s.length:=by omega
  subst e;have q:ltB (s.length:Int) (s.length:Int)=false:=bC.2 (by omega);refine aJ (Mc.b3_L0.eq_1) ?_;rw[aQ (n:=1) rfl];simp;simpa using f _|b::o,i,l,B,f=>by
  obtain⟨D,u,L⟩:=eT l;have C:ltB i s.length=true:=aO.2 (by omega);have K:=dT (i:=i) (by unfold big;omega);have J:(s.take i).length=i:=by simp;omega
  have I:s.take (i+1)=s.take i++[b]:=by rw[xO,u];rfl
  have t:(dO (s.take (i+1))).map gJ=(dO (s.take i)).map gJ++[[.int .u8 ((hexDigit (b.toNat/16)).toNat:Int)],[.int .u8 ((hexDigit (b.toNat%16)).toNat:Int)]]:=by rw[I,UX];simp[dO]
  have r:((dO (s.take i)).map gJ).length=2*i:=by rw[kC,BF,J]
  have O:=b.toNat_lt;have c:=zu8 G s A o (i+1) (by rw[<-L]) (by omega) f;unfold JS JR at c;rw[t,show 2*(i+1)=2*i+2 by omega]at c;have p:∀n:Nat,n<16->∀a h,opV G a h .istr (some [.str hexDigits,.int .u8 n])=some (.int .u8 ((hexDigit n).toNat:Int),h):=fun n F a h=>jX (by
   unfold hexDigit;rw[nV];have:n<hexDigits.length:=F;simp[this]);have y:∀a h,opV G a h .istr (some [.str s,.n i])=some (.int .u8 b.toNat,h):=fun a h=>jX u;have j:=fun a h=>p (b.toNat/16) (by omega) a h;have k:=fun a h=>p (b.toNat%16) (by omega) a h;have w:=zO0 b;have x:=zi5 b;obtain⟨q,H⟩:∃q,q=b.toNat/16:=⟨_,rfl⟩;obtain⟨m,E⟩:∃m,m=b.toNat%16:=⟨_,rfl⟩;rw[<-H]at w j c;rw[<-E]at x k c;unfold JS JR;clear t f;generalize(dO (s.take i)).map gJ=R at r c⊢;have d:=fun a=>QX (G:=G) (s:=a) (h:=[.arr 1 (2*i) R true]) (n:=1) (b:=1) (l:=0) (ver:=2*i) (k:=2*i) (x:=.tsl [[.int .u8 ((hexDigit q).toNat:Int)],[.int .u8 ((hexDigit m).toNat:Int)]]) (new:=[[.int .u8 ((hexDigit q).toNat:Int)],[.int .u8 ((hexDigit m).toNat:Int)]]) (rows:=R) rfl rfl r.symm rfl (by simp) (by simp[bT];omega) (by simp[bT];omega);have g:∀a h,opV G a h (.bsl false 1) (some [.int .u8 ((hexDigit q).toNat:Int),.int .u8 ((hexDigit m).toNat:Int)])=some (.tsl [[.int .u8 ((hexDigit q).toNat:Int)],[.int .u8 ((hexDigit m).toNat:Int)]],h):=fun a h=>by rw[kI rfl];rfl
  simp only[hJ,gQ,List.set,eR,Nat.reduceAdd]at d;generalize(hexDigit q).toNat=M at d g j c;generalize(hexDigit m).toNat=N at d g k c;generalize 2*i=v at d c⊢;refine aJ (Mc.b3_L0.eq_1) ?_;rw[aQ (n:=1) rfl];simp[C,y,j,k,w,x,g,d,K,-kI];refine cZ ?_;rw[aQ (n:=1) rfl];simpa using c
set_option maxHeartbeats 1000000 in theorem zZ0{G:Gam}:PW G Mc.b3 Rs.b3 Ks.b3 sW:=by
 intro j r a;unfold sW at a;split at a
 ·rename_i s;split at a
  ·rename_i l;injection a with a;subst a;rw[aM];by_cases b:s.length=32
   ·have m:eqB (32:Int) 32=true:=rfl;have h:((dO s).map gJ).length=64:=by rw[kC,BF,b]
    have d:∀e,opV G e [.arr 1 64 ((dO s).map gJ) true] .b2s (some [.own 0 64 64])=some (.str (dO s),[.arr 1 64 ((dO s).map gJ) true]):=fun e=>by
     rw[eV rfl];have:=sL (h:=[.arr 1 64 ((dO s).map gJ) true]) (l:=0) (v:=64) rfl (n:=64) h.symm;simp only[dH,this,OL,Option.map]
    have c:=fun i Q g=>zu8 G s (by omega) (ks:=i) (Q:=Q) s 0 rfl (by omega) g;unfold JS JR at c;simp only[lA,dO,rM,Nat.mul_zero,b]at c;rw[show s.take 32=s by rw[<-b];exact kE]at c;generalize(dO s).map gJ=R at d c;simp[Mc.b3,Ks.b3,aC,b];refine c _ _ (fun k=>?_);simp[d,aD,Rs.b3,BG,b]
   ·have f:eqB (s.length:Int) 32=false:=by simp[eqB];omega
    simp[Mc.b3,Ks.b3,aC,upd,lkp,f,BG,aD,Rs.b3,b]
  ·cases a
 ·cases a
theorem zp2(d:Bs):(dsum d).length=32:=by
 rw[<-zQ1];unfold RQ;simp[kA,QZ]
theorem zv0(d:Bs):sW [.str (dsum d)]=some (.tup [.str (dO (dsum d)),.n 0]):=by
 have h:=zp2 d;simp only[sW,BG,h];rfl
def zI:List AV->Option AV:=F1 eStr eStr fun d=>if d.length<=100000000 then some (dO (dsum d))else none
theorem yR1{G:Gam}(g:G Fn.co=some (.pure oT))(f:G Fn.bh=some (.pure sW)):PW G Mc.d4 Rs.d4 Ks.d4 zI:=mK fun d r h=>by
 split at h
 ·rename_i j;injection h with h;subst h;have i:oT [.str d]=some (.str (dsum d)):=nB (A:=eStr) (R:=eStr) (f:=fun d=>if d.length<=big then some (dsum d)else none) (x:=d) (r:=dsum d) (if_pos (by unfold big;omega));have c:∀a h,opV G a h (.call Fn.co) (some [.str d])=some (.str (dsum d),h):=fun a h=>bF g (us:=[.str d]) rfl i (.inl rfl);have b:∀a h,opV G a h (.call Fn.bh) (some [.str (dsum d)])=some (.tup [.str (dO (dsum d)),.n 0],h):=fun a h=>bF f (us:=[.str (dsum d)]) rfl (zv0 d) (.inl rfl);rw[aM];generalize dsum d=e at c b;generalize dO e=x at b;simp[Mc.d4,Ks.d4,aC,eStr,c,b,Rs.d4]
 ·cases h
theorem yR0{G:Gam}(g:G Fn.aw=some (.pure NB))(f:G Fn.b3=some (.pure sW)):PW G Mc.d2 Rs.d2 Ks.d2 zI:=mK fun d r h=>by
 split at h
 ·rename_i i;injection h with h;subst h;have j:NB [.str d]=some (.str (dsum d)):=nB (A:=eStr) (R:=eStr) (f:=fun d=>if d.length<=100000000 then some (dsum d)else none) (x:=d) (r:=dsum d) (if_pos i);have c:∀a h,opV G a h (.call Fn.aw) (some [.str d])=some (.str (dsum d),h):=fun a h=>bF g (us:=[.str d]) rfl j (.inl rfl);have b:∀a h,opV G a h (.call Fn.b3) (some [.str (dsum d)])=some (.tup [.str (dO (dsum d)),.n 0],h):=fun a h=>bF f (us:=[.str (dsum d)]) rfl (zv0 d) (.inl rfl);rw[aM];generalize dsum d=e at c b;generalize dO e=x at b;simp[Mc.d2,Ks.d2,aC,eStr,c,b,Rs.d2]
 ·cases h
def bndS:Bs:=[98,117,110,100,108,101]
abbrev fV(s:Bs):Bin×Int:=lC 65536 65536 65536 65536 s
def mC(s d:Bs):Bs×Int:=if(fV s).2≠0 then([],17)else if(fV s).1.nt≠[]then([],14)else(dC (eQ (fV s).1 (bndS,d)),0)
theorem zt2(c:Bin)(n:Bs×Bs):∀(r S:List Int),fxP (eQ c n) S r=fxP c S r
 |[],_=>rfl|a::r,S=>by simp only[fxP,zt2 c n r];rfl
theorem zv9(c:Bin)(n:Bs×Bs):∀(r:List Imp)(S:List Int),imP (eQ c n) S r=imP c S r
 |[],_=>rfl|a::r,S=>by simp only[imP,zv9 c n r];rfl
theorem xx4(c:Bin)(n:Bs×Bs):oO (eQ c n)=oO c:=by
 unfold oO;rw[zt2,zv9];rfl
theorem yn8(c:Bin)(n:Bs×Bs):tU (eQ c n)=(iJ c&&oO c&&kT [] [n]&&!ltB 64 (1:Nat)&&((eqB c.kind 1&&eqB c.entry 0&&(c.pl.head?.any fun p=>eqB p.kd 1)&&c.ex.isEmpty)||(eqB c.kind 2&&eqB c.entry (-1)&&c.im.isEmpty&&exP c.pl none c.ex))):=by
 unfold tU;rw[xx4];rfl
theorem WL:gN bndS=true:=by decide
structure Sealed(s:Bs)(c:Bin)(d:Bs):Prop where
 ok:lG c=true
 chk:gS c=0
 cl:BL c=true
 eq:s=dC c
 len:(dC c).length<=20000
 ok1:lG (eQ c (bndS,d))=true
 chk1:gS (eQ c (bndS,d))=0
 len1:(dC (eQ c (bndS,d))).length<=65536
 dec1:fV (dC (eQ c (bndS,d)))=(eQ c (bndS,d),0)ent1:(eQ c (bndS,d)).nt=[(bndS,d)]back:{eQ c (bndS,d)with nt:=[]}=c
theorem YJ{s d:Bs}(H:s.length<=20000)(w:d.length=64)(t:(fV s).2=0)(a:(fV s).1.nt=[]):Sealed s (fV s).1 d:=by
 have g:=XT (mh:=65536) (mk:=65536) (me:=65536) (mp:=65536) (by omega) (by omega) ⟨s,0⟩ (by show s.length<=1000000;omega);have B:fV s=((fV s).1,0):=by rw[<-t]
 obtain⟨k1,k2,k3⟩:=(EB (by omega) (by omega) (by omega) (by omega) s _).1 B;have C:(fV s).1=(jQ 65536 65536 65536 65536 ⟨s,0⟩).1.2:=by
  have f:=t;unfold fV lC at f⊢;split;·rename_i I;rw[if_pos I]at f;cases f
  ·rfl
 rw[<-C]at g;obtain⟨c,D⟩:∃c,c=(fV s).1:=⟨_,rfl⟩;rw[<-D]at g k2 k3 a⊢;have E:(dC c).length<=65536:=by rw[<-k3];exact k1
 have R:=OO k2 E;have F:(dC c).length<=20000:=by rw[<-k3];exact H
 have u:bndS.length=6:=rfl;have K:(cM bndS).length<=20:=by
  unfold cM;have:=vN 1 6 (by omega);simp only[bX,hJ,gQ,u];omega
 have L:(cM d).length<=200:=by
  unfold cM;rw[w];have:=vN 2 64 (by omega);simp only[bX,hJ,w,gQ];omega
 have N:(dU ntB c.nt)=bQ 0:=by rw[a];simp[dU]
 have O:(dU ntB (eQ c (bndS,d)).nt).length<=(dU ntB c.nt).length+300:=by
  have:dU ntB (eQ c (bndS,d)).nt=bQ 1++(cM bndS++cM d):=by simp[eQ,dU,ntB]
  rw[this];have P:(bQ 1).length<=10:=by
   unfold bQ;have:=vN 1 1 (by omega);simp only[bX,hJ,gQ];omega
  simp only[bX];omega
 have M:(dC (eQ c (bndS,d))).length<=(dC c).length+300:=by
  have e:(dC (eQ c (bndS,d)))=cM iI++(bQ c.kind.toNat++(bQ (c.entry+1).toNat++(cM c.img++(dU plB c.pl++(dU fxB c.fx++(dU imB c.im++(dU exB c.ex++dU ntB (eQ c (bndS,d)).nt))))))):=rfl;rw[e];unfold dC oA;simp only[bX];omega
 have b:tU c=true:=by
  unfold gS at k2;split at k2;·assumption
  ·cases k2
 have v:gS (eQ c (bndS,d))=0:=by
  have e:=yn8 c (bndS,d);have G:kT [] [(bndS,d)]=true:=by
   have q:ltB 65536 (d.length:Int)=false:=bC.2 (by omega);simp[kT,WL,q]
  unfold tU at b;simp only[bS]at b;have J:ltB 64 ((1:Nat):Int)=false:=rfl;unfold gS;rw[if_pos];rw[e,G,J];simp only[bS];exact⟨⟨⟨b.1.1.1,trivial⟩,rfl⟩,b.2⟩
 have x:(dC (eQ c (bndS,d))).length<=65536:=by omega
 obtain⟨h,i,j,k,l,m,o,p,r,z,A⟩:=g;refine⟨QV ⟨h,i,j,k,l,m,o,p,r,z,A⟩,k2,?_,k3,F,QV ⟨h,i,j,k,l,m,o,p,r,by simp[eQ],?_⟩,v,x,?_,rfl,?_⟩
 ·unfold BL;have Q:=R.plL;have S:=R.fxL;have T:=R.imL;have U:=R.exL;exact decide_eq_true ⟨by omega,by omega,by omega,by omega,a⟩
 ·intro n y;simp only[eQ,mN]at y;subst y;exact⟨by rw[u];omega,by simp only;omega⟩
 ·exact(EB (by omega) (by omega) (by omega) (by omega) _ _).2 ⟨x,v,rfl⟩
 ·cases c;simp only[eQ]at a⊢;rw[a]
theorem UY(m:Bs):(dO (dsum m)).length=64:=by
 have h:=zp2 m;have e:∀t:Bs,(dO t).length=2*t.length:=fun t=>by simpa using BF t
 rw[e,h]
def qD:List AV->Option AV
 |[a]=>match xW a with
  |some b=>if b.man.length<=100000000 then some (.str (dO (dsum b.man)))else none|none=>none
 |_=>none
theorem yw9(b:Bun)(h:aA):bU h [iB b]=some [iB b]:=by simp[bU,view,iB]
theorem zu7{G:Gam}{f:FuncId}(b:G f=some (.pure zI)){m:Bs}(h:m.length<=100000000)(c:Bool)(a:aA):opV G c a (.call f) (some [.str m])=some (.str (dO (dsum m)),a):=bF b (us:=[.str m]) rfl (nB (A:=eStr) (R:=eStr) (f:=fun d=>if d.length<=100000000 then some (dO (dsum d))else none) (x:=m) (r:=dO (dsum m)) (if_pos h)) (.inl rfl)
theorem IL{G:Gam}(b:Bun)(a:Bool):opV G a [] .box (some [iB b])=some (.ptr 0 0,[.cells [.str b.man,.sl (gU b.pap),.sl (gU b.src)]]):=sI (h:=[]) (v:=iB b) (by simp[AV.cells,iB])
theorem yc8{G:Gam}(f:G Fn.d4=some (.pure zI)):PW G Mc.dk Rs.dk Ks.dk qD:=by
 intro k r d;unfold qD at d;split at d
 ·rename_i a;split at d
  ·rename_i b g;split at d
   ·rename_i i;injection d with d;subst d;obtain rfl:=DY g;have c:=fun e h=>zu7 (G:=G) f i e h;have j:=fun e=>IL (G:=G) b e;rw[aM];generalize dO (dsum b.man)=x at*;simp[Mc.dk,Ks.dk,aC,upd,lkp,j,c,cut,aE,aD,Rs.dk]
   ·cases d
  ·cases d
 ·cases d
theorem yc7{G:Gam}(f:G Fn.d2=some (.pure zI)):PW G Mc.df Rs.df Ks.df qD:=by
 intro k r d;unfold qD at d;split at d
 ·rename_i a;split at d
  ·rename_i b g;split at d
   ·rename_i i;injection d with d;subst d;obtain rfl:=DY g;have c:=fun e h=>zu7 (G:=G) f i e h;have j:=fun e=>IL (G:=G) b e;rw[aM];generalize dO (dsum b.man)=x at*;simp[Mc.df,Ks.df,aC,upd,lkp,j,c,cut,aE,aD,Rs.df]
   ·cases d
  ·cases d
 ·cases d
theorem RU{G:Gam}{f:FuncId}(a:G f=some (.pure qD)){b:Bun}(c:b.man.length<=100000000)(d:Bool)(h:aA):opV G d h (.call f) (some [iB b])=some (.str (dO (dsum b.man)),h):=bF a (us:=[iB b]) (yw9 b h) (by simp only[qD,IW];rw[if_pos c]) (.inl rfl)
def sU:List AV->Option AV
 |[.str s,a]=>match xW a with
  |some b=>if s.length<=20000/\b.man.length<=100000000 then some (.tup [.str (mC s (dO (dsum b.man))).1,.n (mC s (dO (dsum b.man))).2])else none|none=>none
 |_=>none
theorem PE{G:Gam}{f:FuncId}(a:G f=some (.pure qB)){s:Bs}(b:s.length<=1000000)(h:aA):opV G false h (.call f) (some [.str s])=some (.tup [.agg (fV s).1.cells,.n (fV s).2],h):=bF a (us:=[.str s]) rfl (by simp only[qB];rw[if_pos b];rfl) (.inr rfl)
theorem zV0{G:Gam}(y:G Fn.bx=some (.pure qB))(A:G Fn.dk=some (.pure qD))(x:G Fn.ds=some (.pure sS))(z:G Fn.ag=some (.pure qC)):PW G Mc.ch Rs.ch Ks.ch sU:=by
 intro M r e;unfold sU at e;split at e
 ·rename_i s a;split at e
  ·rename_i b B;split at e
   ·rename_i D;obtain⟨I,H⟩:=D;injection e with e;subst e;obtain rfl:=DY B;have f:=fun h=>PE (G:=G) y (s:=s) (by omega) h;have v:=fun m h=>RU (G:=G) A H m h;have F:=UY b.man;have k:=fun m=>IL (G:=G) b m;have w:iB b=.agg [.str b.man,.sl (gU b.pap),.sl (gU b.src)]:=rfl;generalize dO (dsum b.man)=d at*;rw[w]at v k⊢;unfold mC;by_cases g:(fV s).2=0
    ·rw[if_neg (by simpa using g)];by_cases i:(fV s).1.nt=[]
     ·rw[if_neg (by simpa using i)];have W:=YJ I F g i;rw[g]at f;generalize(fV s).1=c at*;have l:∀h,opV G true h (.call Fn.ds) (some [.agg c.cells,.agg [.str bndS,.str d]])=some (.tup [.agg (eQ c (bndS,d)).cells,.n 0],h):=fun h=>bF x (us:=[.agg c.cells,.agg [.str bndS,.str d]]) (by simp[bU,view,Bin.cells]) (by simp only[sS,jK];rw[if_pos ⟨W.ok,W.chk,W.cl,WL,by decide,by omega⟩]) (.inr rfl);have u:∀h,opV G false h (.call Fn.ag) (some [.agg (eQ c (bndS,d)).cells])=some (.tup [.str (dC (eQ c (bndS,d))),.n 0],h):=fun h=>bF z (us:=[.agg (eQ c (bndS,d)).cells]) (qM _ h) (by simp only[qC,jK];rw[if_pos ⟨W.ok1,W.chk1,W.len1⟩]) (.inl rfl);have j:c.cells=[.n c.kind,.n c.entry,.str c.img,.sl (aK c.pl),.sl (bO c.fx),.sl (bP c.im),.sl (bZ c.ex),.sl []]:=by unfold Bin.cells;rw[i];rfl
      have E:(eQ c (bndS,d)).cells=[.n c.kind,.n c.entry,.str c.img,.sl (aK c.pl),.sl (bO c.fx),.sl (bP c.im),.sl (bZ c.ex),.sl [[.str bndS,.str d]]]:=rfl;have q:ltB (0:Int) 0=false:=rfl;have C:([98,117,110,100,108,101]:Bs)=bndS:=rfl;rw[j]at f l;rw[E]at l u;rw[aM];generalize dC (eQ c (bndS,d))=J at*;generalize aK c.pl=n at*;generalize bO c.fx=o at*;generalize bP c.im=p at*;generalize bZ c.ex=t at*;simp only[Mc.ch,C];generalize bndS=K at*;simp[Ks.ch,aC,upd,lkp,k,f,v,l,u,cut,aE,AV.cells,bK,bE,aD,Rs.ch,eO]
     ·rw[if_pos (by simpa using i)];rw[g]at f;have q:ltB (0:Int) ((fV s).1.nt.length:Nat)=true:=by
       rw[aO];have:=vD.2 i;omega
      generalize(fV s).1=c at*;have j:c.cells=[.n c.kind,.n c.entry,.str c.img,.sl (aK c.pl),.sl (bO c.fx),.sl (bP c.im),.sl (bZ c.ex),.sl (dK c.nt)]:=rfl;rw[j]at f;rw[aM];generalize aK c.pl=n at*;generalize bO c.fx=o at*;generalize bP c.im=p at*;generalize bZ c.ex=t at*;simp[Mc.ch,Ks.ch,aC,upd,lkp,k,f,q,cut,aE,AV.cells,bK,bE,aD,Rs.ch]
    ·rw[if_pos g];have q:eqB (fV s).2 0=false:=eU.2 g;generalize(fV s).2=N at*;generalize(fV s).1=c at*;have j:c.cells=[.n c.kind,.n c.entry,.str c.img,.sl (aK c.pl),.sl (bO c.fx),.sl (bP c.im),.sl (bZ c.ex),.sl (dK c.nt)]:=rfl;rw[j]at f;rw[aM];generalize aK c.pl=n at*;generalize bO c.fx=o at*;generalize bP c.im=p at*;generalize bZ c.ex=t at*;generalize dK c.nt=L at*;simp[Mc.ch,Ks.ch,aC,upd,lkp,k,f,q,AV.cells,bK,bE,aD,Rs.ch]
   ·cases e
  ·cases e
 ·cases e
theorem yc3{G:Gam}(y:G Fn.af=some (.pure qB))(A:G Fn.df=some (.pure qD))(x:G Fn.dz=some (.pure sS))(z:G Fn.ad=some (.pure qC)):PW G Mc.cj Rs.cj Ks.cj sU:=by
 intro M r e;unfold sU at e;split at e
 ·rename_i s a;split at e
  ·rename_i b B;split at e
   ·rename_i D;obtain⟨I,H⟩:=D;injection e with e;subst e;obtain rfl:=DY B;have f:=fun h=>PE (G:=G) y (s:=s) (by omega) h;have v:=fun m h=>RU (G:=G) A H m h;have F:=UY b.man;have k:=fun m=>IL (G:=G) b m;have w:iB b=.agg [.str b.man,.sl (gU b.pap),.sl (gU b.src)]:=rfl;generalize dO (dsum b.man)=d at*;rw[w]at v k⊢;unfold mC;by_cases g:(fV s).2=0
    ·rw[if_neg (by simpa using g)];by_cases i:(fV s).1.nt=[]
     ·rw[if_neg (by simpa using i)];have W:=YJ I F g i;rw[g]at f;generalize(fV s).1=c at*;have l:∀h,opV G true h (.call Fn.dz) (some [.agg c.cells,.agg [.str bndS,.str d]])=some (.tup [.agg (eQ c (bndS,d)).cells,.n 0],h):=fun h=>bF x (us:=[.agg c.cells,.agg [.str bndS,.str d]]) (by simp[bU,view,Bin.cells]) (by simp only[sS,jK];rw[if_pos ⟨W.ok,W.chk,W.cl,WL,by decide,by omega⟩]) (.inr rfl);have u:∀h,opV G false h (.call Fn.ad) (some [.agg (eQ c (bndS,d)).cells])=some (.tup [.str (dC (eQ c (bndS,d))),.n 0],h):=fun h=>bF z (us:=[.agg (eQ c (bndS,d)).cells]) (qM _ h) (by simp only[qC,jK];rw[if_pos ⟨W.ok1,W.chk1,W.len1⟩]) (.inl rfl);have j:c.cells=[.n c.kind,.n c.entry,.str c.img,.sl (aK c.pl),.sl (bO c.fx),.sl (bP c.im),.sl (bZ c.ex),.sl []]:=by unfold Bin.cells;rw[i];rfl
      have E:(eQ c (bndS,d)).cells=[.n c.kind,.n c.entry,.str c.img,.sl (aK c.pl),.sl (bO c.fx),.sl (bP c.im),.sl (bZ c.ex),.sl [[.str bndS,.str d]]]:=rfl;have q:ltB (0:Int) 0=false:=rfl;have C:([98,117,110,100,108,101]:Bs)=bndS:=rfl;rw[j]at f l;rw[E]at l u;rw[aM];generalize dC (eQ c (bndS,d))=J at*;generalize aK c.pl=n at*;generalize bO c.fx=o at*;generalize bP c.im=p at*;generalize bZ c.ex=t at*;simp only[Mc.cj,C];generalize bndS=K at*;simp[Ks.cj,aC,upd,lkp,k,f,v,l,u,cut,aE,AV.cells,bK,bE,aD,Rs.cj,eO]
     ·rw[if_pos (by simpa using i)];rw[g]at f;have q:ltB (0:Int) ((fV s).1.nt.length:Nat)=true:=by
       rw[aO];have:=vD.2 i;omega
      generalize(fV s).1=c at*;have j:c.cells=[.n c.kind,.n c.entry,.str c.img,.sl (aK c.pl),.sl (bO c.fx),.sl (bP c.im),.sl (bZ c.ex),.sl (dK c.nt)]:=rfl;rw[j]at f;rw[aM];generalize aK c.pl=n at*;generalize bO c.fx=o at*;generalize bP c.im=p at*;generalize bZ c.ex=t at*;simp[Mc.cj,Ks.cj,aC,upd,lkp,k,f,q,cut,aE,AV.cells,bK,bE,aD,Rs.cj]
    ·rw[if_pos g];have q:eqB (fV s).2 0=false:=eU.2 g;generalize(fV s).2=N at*;generalize(fV s).1=c at*;have j:c.cells=[.n c.kind,.n c.entry,.str c.img,.sl (aK c.pl),.sl (bO c.fx),.sl (bP c.im),.sl (bZ c.ex),.sl (dK c.nt)]:=rfl;rw[j]at f;rw[aM];generalize aK c.pl=n at*;generalize bO c.fx=o at*;generalize bP c.im=p at*;generalize bZ c.ex=t at*;generalize dK c.nt=L at*;simp[Mc.cj,Ks.cj,aC,upd,lkp,k,f,q,AV.cells,bK,bE,aD,Rs.cj]
   ·cases e
  ·cases e
 ·cases e
def zE:List AV->Option AV
 |[.str _,a]=>match xW a with
  |some b=>if WR b then some (.T)else none|none=>none
 |_=>none
theorem yf1{s d:Bs}(h:(mC s d).2≠0):(mC s d).1=[]:=by
 unfold mC at h⊢;split;·rfl
 ·rename_i a;rw[if_neg a]at h;split;·rfl
  ·rename_i b;rw[if_neg b]at h;exact absurd rfl h
theorem yf2{s d:Bs}(h:(mC s d).2=0):(fV s).2=0/\(fV s).1.nt=[]/\mC s d=(dC (eQ (fV s).1 (bndS,d)),0):=by
 unfold mC at h⊢;split;·rename_i a;rw[if_pos a]at h;cases h
 ·rename_i a;rw[if_neg a]at h;split;·rename_i b;rw[if_pos b]at h;cases h
  ·rename_i b;exact⟨xL a,xL b,rfl⟩
theorem zV3{G:Gam}(E:G Fn.d8=some (.pure CV))(J:G Fn.ci=some (.pure GE))(F:G Fn.ch=some (.pure sU))(M:G Fn.cj=some (.pure sU))(N:G Fn.dk=some (.pure qD))(O:G Fn.df=some (.pure qD))(H:G Fn.bx=some (.pure qB))(L:G Fn.af=some (.pure qB))(K:G Fn.bu=some (.pure rJ))(I:G Fn.ag=some (.pure qC)):PW G Mc.b5 Rs.b5 Ks.b5 zE:=by
 intro a3 b1 e;unfold zE at e;split at e
 ·rename_i s a2;split at e
  ·rename_i b P;split at e
   ·rename_i V;injection e with e;subst e;obtain rfl:=DY P;have o:∀a h,opV G a h (.call Fn.d8) (some [])=some (.T,h):=fun a h=>bF E (us:=[]) rfl rfl (.inl rfl);have f:∀a h,opV G a h (.call Fn.ci) (some [iB b])=some (.bool (JJ b),h):=fun a h=>bF J (us:=[iB b]) (by simp[bU,view,iB]) (by simp only[GE,IW];exact if_pos V) (.inl rfl);have g:=fun a=>IL (G:=G) b a;have m:iB b=.agg [.str b.man,.sl (gU b.pap),.sl (gU b.src)]:=rfl;by_cases t:s.length<=20000
    ·have q:ltB 20000 (s.length:Int)=false:=bC.2 (by omega);cases r:JJ b with
     |false=>
      rw[r]at f;rw[m]at f g⊢;rw[aM];simp[Mc.b5,aC,Ks.b5,upd,lkp,g,cut,aE,o,f,q,aD,Rs.b5]|true=>
      rw[r]at f;have C:=r;unfold JJ at C;simp only[bS,fU]at C;have n:b.man.length<=100000000:=by omega
      have k:=fun a h=>RU (G:=G) N n a h;have l:=fun a h=>RU (G:=G) O n a h;have i:∀a h,opV G a h (.call Fn.ch) (some [.str s,iB b])=some (.tup [.str (mC s (dO (dsum b.man))).1,.n (mC s (dO (dsum b.man))).2],h):=fun a h=>bF F (us:=[.str s,iB b]) (by simp[bU,view,iB]) (by simp only[sU,IW];rw[if_pos ⟨t,n⟩]) (.inl rfl);have j:∀a h,opV G a h (.call Fn.cj) (some [.str s,iB b])=some (.tup [.str (mC s (dO (dsum b.man))).1,.n (mC s (dO (dsum b.man))).2],h):=fun a h=>bF M (us:=[.str s,iB b]) (by simp[bU,view,iB]) (by simp only[sU,IW];rw[if_pos ⟨t,n⟩]) (.inl rfl);have U:=UY b.man;generalize dO (dsum b.man)=d at*;have be:∀x:Bs,aW .neq (.str x) (.str x)=some (.F):=fun x=>by simp[aW,dV]
      by_cases p:(mC s d).2=0
      ·obtain⟨A,B,D⟩:=yf2 p;have W:=YJ t U A B;rw[D]at i j;have z:∀h,opV G false h (.call Fn.af) (some [.str s])=some (.tup [.agg (fV s).1.cells,.n 0],h):=fun h=>by
        have:=PE (G:=G) L (s:=s) (by omega) h;rw[A]at this;exact this
       have u:∀h,opV G false h (.call Fn.bx) (some [.str (dC (eQ (fV s).1 (bndS,d)))])=some (.tup [.agg (eQ (fV s).1 (bndS,d)).cells,.n 0],h):=fun h=>by
        have:=PE (G:=G) H (s:=dC (eQ (fV s).1 (bndS,d))) (by have:=W.len1;omega) h;rw[W.dec1]at this;exact this
       generalize(fV s).1=c at*;have w:∀a h,opV G a h (.call Fn.bu) (some [.agg (eQ c (bndS,d)).cells,.str bndS])=some (.tup [.str d,.T],h):=fun a h=>bF K (us:=[.agg (eQ c (bndS,d)).cells,.str bndS]) (by simp[bU,view,Bin.cells]) (by
        simp only[rJ,jK];rw[if_pos (by unfold big;simp[eQ])];simp[eQ,vX]) (.inl rfl);have v:∀h,opV G false h (.call Fn.ag) (some [.agg c.cells])=some (.tup [.str s,.n 0],h):=fun h=>bF I (us:=[.agg c.cells]) (qM _ h) (by simp only[qC,jK];rw[if_pos ⟨W.ok,W.chk,by have:=W.len;omega⟩,<-W.eq]) (.inl rfl);have S:c.cells=[.n c.kind,.n c.entry,.str c.img,.sl (aK c.pl),.sl (bO c.fx),.sl (bP c.im),.sl (bZ c.ex),.sl []]:=by unfold Bin.cells;rw[B];rfl
       have T:(eQ c (bndS,d)).cells=[.n c.kind,.n c.entry,.str c.img,.sl (aK c.pl),.sl (bO c.fx),.sl (bP c.im),.sl (bZ c.ex),.sl [[.str bndS,.str d]]]:=rfl;rw[S]at z v;rw[T]at u w;have w1:IntKind.i64.wrap 1=1:=rfl;have w0:IntKind.i64.wrap 0=0:=rfl;have Z:eqB (1:Int) 1=true:=rfl;have Y:eqB (0:Int) 0=true:=rfl;have a1:∀(x y:AV)(h:aA),opV G false h (.slc (some 2) false true false) (some [.sl [[x,y]],.n 0])=some (.sl [],h):=fun x y h=>by rw[eV rfl];simp[dH,pV,oN,pT,wN,dB]
       have Q:([98,117,110,100,108,101]:Bs)=bndS:=rfl;rw[m]at f g k l i j⊢;rw[aM];generalize dC (eQ c (bndS,d))=BB at*;generalize aK c.pl=R1 at*;generalize bO c.fx=R2 at*;generalize bP c.im=R3 at*;generalize bZ c.ex=R4 at*;simp only[Mc.b5,Q];generalize bndS=BN at*;simp[aC,Ks.b5,upd,lkp,g,cut,aE,o,f,q,k,l,i,j,u,z,w,v,w1,w0,a1,AV.cells,bK,bE,aD,Rs.b5]
      ·have X:=yf1 p;rw[X]at i j;have q2:eqB (mC s d).2 0=false:=eU.2 p;generalize(mC s d).2=er at*;rw[m]at f g k l i j⊢;rw[aM];simp[Mc.b5,aC,Ks.b5,upd,lkp,g,cut,aE,o,f,q,q2,k,l,i,j,aD,Rs.b5]
    ·have q:ltB 20000 (s.length:Int)=true:=aO.2 (by omega);rw[m]at f g⊢;rw[aM];simp[Mc.b5,aC,Ks.b5,upd,lkp,g,cut,aE,o,q,aD,Rs.b5]
   ·cases e
  ·cases e
 ·cases e
end Go.Proofs.YtdebajodkallbaaGreatDoor
