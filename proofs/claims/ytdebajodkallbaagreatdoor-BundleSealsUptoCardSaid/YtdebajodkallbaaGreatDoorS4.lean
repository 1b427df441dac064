/- Names of items -/
import Derived.Test.YtdebajodkallbaaGreatDoorS2
namespace Go.Proofs.YtdebajodkallbaaGreatDoor
open Go.RowKit Go.IntWalk
def GX:List AV->Option AV:=F1 (fG .i32) eBool fun n=>some (ltI n)
theorem xs8(G:Gam):PW G Mc.c3 Rs.c3 Ks.c3 GX:=mK fun x r h=>by
 injection h with h;subst h;rw[aM];simp+contextual[Mc.c3,aC,Ks.c3,Rs.c3,fG,eBool,ltI]
def GV:List AV->Option AV:=F1 (fG .i32) eBool fun n=>some (dgI n)
theorem xs4(G:Gam):PW G Mc.db Rs.db Ks.db GV:=mK fun x r h=>by
 injection h with h;subst h;rw[aM];simp+contextual[Mc.db,aC,Ks.db,Rs.db,fG,eBool,dgI]
theorem ZN{G:Gam}(a:G Fn.c3=some (.pure GX))(n:Int)(b:Bool)(h:aA):opV G b h (.call Fn.c3) (some [.int .i32 n])=some (.bool (ltI n),h):=bF a (us:=[.int .i32 n]) rfl (nB (A:=fG .i32) (R:=eBool) (x:=n) rfl) (.inl rfl)
theorem zQ6{G:Gam}(a:G Fn.db=some (.pure GV))(n:Int)(b:Bool)(h:aA):opV G b h (.call Fn.db) (some [.int .i32 n])=some (.bool (dgI n),h):=bF a (us:=[.int .i32 n]) rfl (nB (A:=fG .i32) (R:=eBool) (x:=n) rfl) (.inl rfl)
def DE:List AV->aA->Option AV
 |[.int .i32 c,.ptr l 0],h=>match h[l]? with
  |some (.cellsT _ [.bool nm])=>some (.bool (!nmI nm c))|_=>none
 |_,_=>none
theorem xl3{G:Gam}(k:G Fn.c3=some (.pure GX))(i:G Fn.db=some (.pure GV)):LW G Mc.b2 Rs.b2 Ks.b2 DE:=by
 intro m h r a;unfold DE at a;split at a
 ·rename_i c l;split at a
  ·rename_i tg nm j;injection a with a;subst a;have f:aB 1 false h (.ptr l 0)=some (.bool nm):=by simp[aB,j,cut,aE]
   have g:=fun e=>ZN (G:=G) k c e h;have d:=fun e=>zQ6 (G:=G) i c e h;rw[aM];cases b:dgI c with
   |true=>
    rw[b]at d;simp[Mc.b2,aC,Ks.b2,d,nmI,b,fP,Rs.b2,owns,eS]|false=>
    rw[b]at d;cases nm with
    |false=>simp[Mc.b2,aC,Ks.b2,d,f,nmI,b,fP,Rs.b2,owns,eS,-aB]|true=>simp[Mc.b2,aC,Ks.b2,d,g,f,nmI,b,fP,Rs.b2,owns,eS,-aB]
  ·cases a
 ·cases a
theorem zN0{G:Gam}(g:G Fn.b2=some (.gen (cJ DE)))(nm:Bool)(s:Bs):∀(n a:Nat),s.length-a<n->a<=s.length->sM G [.cells [.bool nm]] Fn.b2 [.ptr 0 0] true s n a=some (if fL nm (s.drop a)=(s.drop a).length then-1 else((a+fL nm (s.drop a):Nat):Int))
 |0,a,q,_=>by omega|n+1,a,q,t=>by
  have l:∀(b:Blk)(x:Int),ask G ([.cells [.bool nm]]++[b]) Fn.b2 [.ptr 0 0] (.int .i32 x)=some (!nmI nm x):=fun b x=>DS (by rw[lB g];simp[cJ,DE]);simp only[sM,l];by_cases f:a<s.length
  ·obtain⟨b,i,m⟩:=zp0 f;simp only[f,bD,m];rcases mA b.toNat 128 with p|o
   ·rw[UH i p];cases c:nmI nm b.toNat with
    |true=>
     have d:bI nm b=true:=c;have r:=zN0 g nm s n (a+1) (by omega) (by omega);simp only[nG,dE,bY];rw[r,fL,if_pos d];simp only[hJ];by_cases e:fL nm (s.drop (a+1))=(s.drop (a+1)).length;·rw[if_pos e,if_pos (by omega)]
     ·rw[if_neg e,if_neg (by omega)];congr 2;omega|false=>
     have d:¬bI nm b=true:=by rw[bI,c];simp
     simp only[iF,bD];rw[fL,if_neg d,if_neg (by simp)];rfl
   ·have j:=zD0 (names:=nm) (n:=(Utf8.decode ⟨s.toArray⟩ a).1) (by have:=zo6 i o;omega);have k:¬bI nm b=true:=by rw[bI,zD0 (by omega)];simp
    simp only[j,iF,bD];rw[fL,if_neg k,if_neg (by simp)];rfl
  ·have e:s.drop a=[]:=by rw[List.drop_eq_nil_iff];omega
   simp[f,e,fL]
def DF:List AV->Option AV
 |[.str s,.bool nm]=>some (.n (fL nm s))|_=>none
theorem xt9{G G0:Gam}(i:G Fn.da=some (.gen (cJ (zS G0))))(g:G0 Fn.b2=some (.gen (cJ DE))):PW G Mc.cf Rs.cf Ks.cf DF:=by
 intro j r a;unfold DF at a;split at a
 ·rename_i s nm;injection a with a;subst a;have c:=zN0 g nm s (s.length+1) 0 (by omega) (by omega);rw[vB]at c;have b:opV G false [.cells [.bool nm]] (.call Fn.da) (some [.str s,.fn Fn.b2 [.ptr 0 0]])=some (.n (if fL nm s=s.length then-1 else((0+fL nm s:Nat):Int)),[.cells [.bool nm]]):=by rw[eX i];simp only[cJ,zS,c,fC]
  have d:∀f,opV G f [] .box (some [.bool nm])=some (.ptr 0 0,[.cells [.bool nm]]):=fun f=>sI (h:=[]) (v:=.bool nm) (by simp[AV.cells]);rw[aM];by_cases e:fL nm s=s.length
  ·rw[if_pos e]at b;have q:ltB (-1) 0=true:=rfl;rw[e];simp[Mc.cf,aC,Ks.cf,d,b,q,aI,aD,Rs.cf]
  ·rw[if_neg e,eR]at b;have q:ltB (fL nm s:Int) 0=false:=bC.2 (by omega);simp[Mc.cf,aC,Ks.cf,d,b,q,aD,Rs.cf]
 ·cases a
theorem yv9{c:UInt8}{n:Nat}(h:48<=c.toNat/\c.toNat<=57)(a:n<=4294967295):IntKind.u64.wrap (10*(n:Int))=((10*n:Nat):Int)/\IntKind.i32.wrap ((c.toNat:Int)-48)=((c.toNat-48:Nat):Int)/\IntKind.u64.wrap ((c.toNat-48:Nat):Int)=((c.toNat-48:Nat):Int)/\IntKind.u64.wrap (((10*n:Nat):Int)+((c.toNat-48:Nat):Int))=((10*n+(c.toNat-48):Nat):Int):=by refine⟨?_,?_,?_,?_⟩<;>simp only[IntKind.wrap,IntKind.signed,IntKind.bits]<;>simp<;>omega
theorem ZO{G:Gam}(s:Bs)(r:Nat×Int)(k:s.all (bI false)=true):∀(g:Bs)(a n:Nat),s.drop a=g->a<=s.length->n<=4294967295->KM g n=r->cY G [6,28] Mc.bf_L0 1 [.blk 0,.seq (.seq (.reg [zm 39 4,iz 40 (.conv .u32) [.t 39],zM 2 40,Kc 3 0]) .ret)] (aD Rs.bf (.tup [.int .u32 r.1,.n r.2])) [(0,.str s),(2,.int .u32 0),(3,.n 0),(4,.u n),(6,.junk),(27,.ptr 0 0),(28,.junk)] [.iter s a]
 |[],a,n,i,B,p,b=>by
  have F:=drop_nil i;have e:¬a<s.length:=by omega
  simp only[KM,PF]at b;subst b;have f:=fun j=>WX (G:=G) (s:=j) (h:=[.iter s a]) (str:=s) (l:=0) (pos:=a) rfl;have w:IntKind.u32.wrap (n:Int)=n:=u32_in _ ⟨by omega,by omega⟩;refine aJ (Mc.bf_L0.eq_1) ?_;rw[aQ (by simp)];simp[f,e,w,aD,Rs.bf]|c::g,a,n,i,B,p,b=>by
  obtain⟨o,u,C⟩:=eT i;have A:=xa4 k c (fB u);have f:=fun j=>WX (G:=G) (s:=j) (h:=[.iter s a]) (str:=s) (l:=0) (pos:=a) rfl;rw[UH u (by omega)]at f;obtain⟨E,x,y,z⟩:=yv9 (n:=n) A p;have v:aW .mul (.u 10) (.u (n:Int))=some (.u ((10*n:Nat):Int)):=by
   have e:aW .mul (.u 10) (.u (n:Int))=some (.u (IntKind.u64.wrap (10*(n:Int)))):=rfl;rw[e,E]
  rw[KM,PF]at b;refine aJ (Mc.bf_L0.eq_1) ?_;rw[aQ (by simp)];generalize H:10*n+(c.toNat-48)=m at*;generalize 10*n=t at*;generalize c.toNat-48=d at*;by_cases l:4294967295<m
  ·rw[if_pos l]at b;subst b;have q:ltB 4294967295 (m:Int)=true:=aO.2 (by omega);simp[f,o,v,x,y,z,q,aD,Rs.bf]
  ·rw[if_neg l]at b;have q:ltB 4294967295 (m:Int)=false:=bC.2 (by omega);have D:=ZO (G:=G) s r k g (a+1) m C (by omega) (by omega) (by rw[KM];exact b);simp[f,o,v,x,y,z,q];refine cZ ?_;rw[aQ (by simp)];simpa using D
def GZ:List AV->Option AV
 |[.str s]=>if s.all (bI false)=true/\s≠[]then some (.tup [.int .u32 (yI s).1,.n (yI s).2])else none|_=>none
theorem xt0{G:Gam}(q:G Fn.cf=some (.pure DF)):PW G Mc.bf Rs.bf Ks.bf GZ:=by
 intro u r a;unfold GZ at a;split at a
 ·rename_i s;split at a
  ·rename_i d;obtain⟨k,o⟩:=d;injection a with a;subst a;have g:∀b h,opV G b h (.call Fn.cf) (some [.str s,.F])=some (.n s.length,h):=fun b h=>bF q (us:=[.str s,.F]) rfl (by simp only[DF];rw[(YG false s).2 k]) (.inl rfl);have i:(s==[])=false:=by cases s<;>first|exact absurd rfl o|rfl
   rw[aM];unfold yI;by_cases p:1<s.length
   ·have f:ltB 1 (s.length:Int)=true:=aO.2 (by omega);obtain⟨c,r,rfl⟩:∃c r,s=c::r:=by cases s with|nil=>exact absurd rfl o|cons c r=>exact⟨c,r,rfl⟩
    by_cases d:c=48
    ·subst d;rw[if_pos ⟨p,rfl⟩];generalize j:(48::r:Bs)=n at*;have l:∀b h,opV G b h .istr (some [.str n,.n 0])=some (.int .u8 48,h):=fun b h=>by rw[<-j];exact FF
     simp[Mc.bf,aC,Ks.bf,g,i,dV,aI,f,l,aD,Rs.bf]
    ·rw[if_neg (by simp[d])];have t:eqB (c.toNat:Int) 48=false:=eU.2 fun e=>d (rP.1 (by simp;omega));have m:=ZO (G:=G) (c::r) _ k (c::r) 0 0 rfl (by omega) (by omega) rfl;generalize j:(c::r:Bs)=n at*;have l:∀b h,opV G b h .istr (some [.str n,.n 0])=some (.int .u8 c.toNat,h):=fun b h=>by rw[<-j];exact FF
     simp[Mc.bf,aC,Ks.bf,g,i,dV,aI,f,l,t];simpa using m
   ·have f:ltB 1 (s.length:Int)=false:=bC.2 (by omega);rw[if_neg (by omega)];have m:=ZO (G:=G) s _ k s 0 0 rfl (by omega) (by omega) rfl;simp[Mc.bf,aC,Ks.bf,g,i,dV,aI,f];simpa using m
  ·cases a
 ·cases a
def NC:List AV->Option AV
 |[.str s]=>some (.str (CG s))|_=>none
theorem xu2{G:Gam}(C:G Fn.eh=some (.pure CP)):PW G Mc.ac Rs.ac Ks.ac NC:=by
 intro F r m;unfold NC at m;split at m
 ·rename_i s;injection m with m;subst m;cases s with
  |nil=>
   have a:ltB 1 0=false:=rfl;rw[aM];simp[Mc.ac,aC,Ks.ac,aI,dV,a,CG,aD,Rs.ac]|cons c t=>
   have o:∀d h,opV G d h (.call Fn.eh) (some [.str [124,94,38,60,62,43,45,42,47,37,126,33,40,41,44,61],.int .u8 c.toNat])=some (.n (Lib.indexByte LK c),h):=fun d h=>bF C (us:=[.str LK,.int .u8 c.toNat]) rfl (by simp[CP]) (.inl rfl);have B:∀d h,opV G d h (.slc none false true false) (some [.str (c::t),.n 1])=some (.str ((c::t).take 1),h):=fun d h=>LH (k:=1) (by simp);have w:((c::t)==([]:Bs))=false:=rfl;have A:CG (c::t)=if 1<(c::t).length/\symW.contains ((c::t).take 2)=true then(c::t).take 2 else if ltB (Lib.indexByte LK c) 0 then[]else(c::t).take 1:=rfl;rw[A,aM];clear A;generalize Lib.indexByte LK c=v at o⊢;generalize D:(c::t:Bs)=s at*;have y:∀d h,opV G d h .istr (some [.str s,.n 0])=some (.int .u8 c.toNat,h):=fun d h=>by rw[<-D];exact FF
   by_cases z:1<s.length
   ·have a:ltB 1 (s.length:Int)=true:=aO.2 (by omega);have f:∀d h,opV G d h (.slc none false true false) (some [.str s,.n 2])=some (.str (s.take 2),h):=fun d h=>LH (k:=2) (by omega);cases x:symW.contains (s.take 2)with
    |true=>
     rw[if_pos ⟨z,rfl⟩];have k:=x;clear x;unfold symW at k;simp only[vA,List.contains_nil,uZ]at k;generalize s.take 2=u at*;cases b:(u==[124,124])with
     |true=>simp[Mc.ac,aC,Ks.ac,aI,a,f,dV,b,aD,Rs.ac]|false=>cases e:(u==[38,38])with
     |true=>simp[Mc.ac,aC,Ks.ac,aI,a,f,dV,b,e,aD,Rs.ac]|false=>cases g:(u==[61,61])with
     |true=>simp[Mc.ac,aC,Ks.ac,aI,a,f,dV,b,e,g,aD,Rs.ac]|false=>cases i:(u==[33,61])with
     |true=>simp[Mc.ac,aC,Ks.ac,aI,a,f,dV,b,e,g,i,aD,Rs.ac]|false=>cases j:(u==[60,61])with
     |true=>simp[Mc.ac,aC,Ks.ac,aI,a,f,dV,b,e,g,i,j,aD,Rs.ac]|false=>cases l:(u==[62,61])with
     |true=>simp[Mc.ac,aC,Ks.ac,aI,a,f,dV,b,e,g,i,j,l,aD,Rs.ac]|false=>cases n:(u==[60,60])with
     |true=>simp[Mc.ac,aC,Ks.ac,aI,a,f,dV,b,e,g,i,j,l,n,aD,Rs.ac]|false=>cases p:(u==[62,62])with
     |true=>simp[Mc.ac,aC,Ks.ac,aI,a,f,dV,b,e,g,i,j,l,n,p,aD,Rs.ac]|false=>simp[b,e,g,i,j,l,n,p]at k
    |false=>
     rw[if_neg (by simp)];have k:=x;clear x;unfold symW at k;simp only[vA,List.contains_nil,uZ,xK]at k;obtain⟨b,e,g,i,j,l,n,p⟩:=k;generalize s.take 2=u at*;generalize s.take 1=E at*;cases q:ltB v 0 with
     |true=>simp[Mc.ac,aC,Ks.ac,aI,a,f,dV,b,e,g,i,j,l,n,p,w,y,o,q,aD,Rs.ac]|false=>simp[Mc.ac,aC,Ks.ac,aI,a,f,dV,b,e,g,i,j,l,n,p,w,y,o,q,B,aD,Rs.ac]
   ·have a:ltB 1 (s.length:Int)=false:=bC.2 (by omega);rw[if_neg (fun h=>z h.1)];generalize s.take 1=E at*;cases q:ltB v 0 with
    |true=>simp[Mc.ac,aC,Ks.ac,aI,a,dV,w,y,o,q,aD,Rs.ac]|false=>simp[Mc.ac,aC,Ks.ac,aI,a,dV,w,y,o,q,B,aD,Rs.ac]
 ·cases m
def GY:List AV->Option AV
 |[.str s]=>if s≠[]/\s.length<=1000000 then some (.tup [.agg [.n (oG s).1.1,.str (oG s).1.2],.n (oG s).2])else none|_=>none
theorem zv1(c:UInt8):IntKind.i32.wrap (c.toNat:Int)=(c.toNat:Int):=by
 have:=c.toNat_lt;simp only[IntKind.wrap,IntKind.signed,IntKind.bits];simp;omega
theorem xs9{G:Gam}(I:G Fn.c3=some (.pure GX))(P:G Fn.db=some (.pure GV))(M:G Fn.cf=some (.pure DF))(L:G Fn.bf=some (.pure GZ))(N:G Fn.ac=some (.pure NC)):PW G Mc.av Rs.av Ks.av GY:=by
 intro W a2 g;unfold GY at g;split at g
 ·rename_i s;split at g
  ·rename_i O;obtain⟨U,Y⟩:=O;injection g with g;subst g;obtain⟨c,t,rfl⟩:∃c t,s=c::t:=by cases s with|nil=>exact absurd rfl U|cons c t=>exact⟨c,t,rfl⟩
   have j:=zv1 c;have d:=fun a h=>ZN (G:=G) I (c.toNat:Int) a h;have f:=fun a h=>zQ6 (G:=G) P (c.toNat:Int) a h;have r:∀nm a h,opV G a h (.call Fn.cf) (some [.str (c::t),.bool nm])=some (.n (fL nm (c::t)),h):=fun nm a h=>bF M (us:=[.str (c::t),.bool nm]) rfl rfl (.inl rfl);have E:∀a h,opV G a h (.call Fn.ac) (some [.str (c::t)])=some (.str (CG (c::t)),h):=fun a h=>bF N (us:=[.str (c::t)]) rfl rfl (.inl rfl);have sl:∀nm a h,opV G a h (.slc none false true false) (some [.str (c::t),.n (fL nm (c::t))])=some (.str ((c::t).take (fL nm (c::t))),h):=fun nm a h=>LH (KX nm _);have z:dgI (c.toNat:Int)=true->∀a h,opV G a h (.call Fn.bf) (some [.str ((c::t).take (fL false (c::t)))])=some (.tup [.int .u32 (yI ((c::t).take (fL false (c::t)))).1,.n (yI ((c::t).take (fL false (c::t)))).2],h):=fun Q a h=>bF L (us:=[.str ((c::t).take (fL false (c::t)))]) rfl (by
     simp only[GZ];rw[if_pos ⟨zM4 false _,fun e=>by
      have Z:=xl5 (names:=false) (c:=c) (r:=t) (by simp[bI,nmI,Q]);have:=congrArg List.length e;simp only[lY,gQ,hJ]at this;omega⟩]) (.inl rfl);rw[aM];simp only[oG];have i:∀a h,opV G a h .istr (some [.str (c::t),.n 0])=some (.int .u8 c.toNat,h):=fun a h=>FF;have V:∀(k:Nat)(b:UInt8),(c::t)[k]?=some b->∀a h,opV G a h .istr (some [.str (c::t),.n (k:Int)])=some (.int .u8 b.toNat,h):=fun k b y a h=>jX y;have a1:=KX false (c::t);have H:∀k:Nat,(c::t)[k]?=none↔(c::t).length<=k:=fun k=>NX;cases D:ltI (c.toNat:Int)with
   |true=>
    rw[D]at d;simp only[bD];have l:=r true;have o:=sl true;clear r sl z;generalize(c::t).take (fL true (c::t))=u at*;generalize fL true (c::t)=n at*;generalize(c::t:Bs)=m at*;by_cases F:32<n
    ·have q:ltB 32 (n:Int)=true:=aO.2 (by omega);rw[if_pos F];simp[Mc.av,aC,Ks.av,i,j,d,l,q,eO,AV.cells,bK,bE,aU,aD,Rs.av,dS,eZ,fK,aB,cut,aE]
    ·have q:ltB 32 (n:Int)=false:=bC.2 (by omega);rw[if_neg F];simp[Mc.av,aC,Ks.av,i,j,d,l,q,o,eO,AV.cells,bK,bE,aU,aD,Rs.av,dS,eZ,fK,aB,cut,aE]|false=>
    rw[D]at d;simp only[dE,bY];cases C:dgI (c.toNat:Int)with
    |true=>
     rw[C]at f;have w:=z C;simp only[bD];have l:=r false;have o:=sl false;clear r sl z;generalize yI ((c::t).take (fL false (c::t)))=v at*;generalize(c::t).take (fL false (c::t))=u at*;generalize fL false (c::t)=n at*;have X:(c::t).length=t.length+1:=rfl;generalize(c::t:Bs)=m at*;by_cases B:v.2=0
     ·rw[if_neg (by simp[B])];rw[B]at w;rcases mA n m.length with T|S
      ·obtain⟨b,y⟩:∃b,m[n]?=some b:=⟨_,jT T⟩;have J:=V n b y;have K:=zv1 b;have x:=fun a h=>ZN (G:=G) I (b.toNat:Int) a h;have q:ltB (n:Int) (m.length:Int)=true:=aO.2 (by omega);rw[y];simp only[AG];rcases dD (ltI (b.toNat:Int))with p|p
       ·rw[p]at x;simp only[p,bD];simp[Mc.av,aC,Ks.av,i,j,d,f,l,o,w,aI,q,J,K,x,eO,AV.cells,bK,bE,aU,aD,Rs.av,dS,eZ,fK,aB,cut,aE]
       ·rw[p]at x;simp only[p,dE,bY];simp[Mc.av,aC,Ks.av,i,j,d,f,l,o,w,aI,q,J,K,x,eO,AV.cells,bK,bE,aU,aD,Rs.av,dS,eZ,fK,aB,cut,aE]
      ·have q:ltB (n:Int) (m.length:Int)=false:=bC.2 (by omega);rw[(H n).2 S];simp only[Option.any_none];simp[Mc.av,aC,Ks.av,i,j,d,f,l,o,w,aI,q,eO,AV.cells,bK,bE,aU,aD,Rs.av,dS,eZ,fK,aB,cut,aE]
     ·have q:eqB v.2 0=false:=eU.2 B;rw[if_pos (by simpa using B)];simp[Mc.av,aC,Ks.av,i,j,d,f,l,o,w,q,eO,AV.cells,bK,bE,aU,aD,Rs.av,dS,eZ,fK,aB,cut,aE]|false=>
     rw[C]at f;simp only[dE,bY];clear r sl z H;generalize CG (c::t)=u at*;generalize(c::t:Bs)=m at*;by_cases A:u=[]
     ·rw[if_neg (by simp[A])];subst A;simp[Mc.av,aC,Ks.av,i,j,d,f,E,dV,eO,AV.cells,bK,bE,aU,aD,Rs.av,dS,eZ,fK,aB,cut,aE]
     ·rw[if_pos A];have q:(u==[])=false:=by simpa using A
      simp[Mc.av,aC,Ks.av,i,j,d,f,E,dV,q,eO,AV.cells,bK,bE,aU,aD,Rs.av,dS,eZ,fK,aB,cut,aE]
  ·cases g
 ·cases g
def HD:List AV->Option AV
 |[.agg [.n k,.str s]]=>if s.length<=1000000 then some (.bool (FU k s))else none|_=>none
theorem xu6{G:Gam}(j:G Fn.av=some (.pure GY)):PW G Mc.cn Rs.cn Ks.cn HD:=by
 intro o r a;unfold HD at a;split at a
 ·rename_i k s;split at a
  ·rename_i m;injection a with a;subst a;rw[aM];have f:∀i,opV G i [] .box (some [.agg [.n k,.str s]])=some (.ptr 0 0,[.cells [.n k,.str s]]):=fun i=>sI (h:=[]) (v:=.agg [.n k,.str s]) (by simp[AV.cells]);cases b:(s==[])with
   |true=>
    have:s=[]:=by simpa using b
    subst this;simp[Mc.cn,aC,Ks.cn,f,dV,FU,aD,Rs.cn,aB,cut,aE]|false=>
    have n:s≠[]:=by simpa using b
    have g:∀h,opV G false h (.call Fn.av) (some [.str s])=some (.tup [.agg [.n (oG s).1.1,.str (oG s).1.2],.n (oG s).2],h):=fun h=>bF j (us:=[.str s]) rfl (by simp only[GY];rw[if_pos ⟨n,m⟩]) (.inr rfl);unfold FU;rw[b];simp only[iF,eF];generalize(oG s).1.1=k2 at*;generalize(oG s).1.2=e at*;generalize(oG s).2=d at*;have l:gX [.i,.s] [.n k2,.str e] [.n k,.str s]=some (eqB k2 k&&e==s):=by
     simp only[gX,bD];by_cases c:k2=k
     ·by_cases d:e=s;·simp[c,d]
      ·simp[c,d]
     ·have q:eqB k2 k=false:=eU.2 c;simp[c,q]
    generalize(eqB k2 k&&e==s)=z at*;cases q:eqB d 0 with
    |true=>simp[Mc.cn,aC,Ks.cn,f,dV,b,g,q,AV.cells,bK,bE,aU,aB,cut,aE,l,aD,Rs.cn]|false=>simp[Mc.cn,aC,Ks.cn,f,dV,b,g,q,AV.cells,bK,bE,aU,aB,cut,aE,aD,Rs.cn]
  ·cases a
 ·cases a
def pX(c:UInt8)(s:Bs):Nat->Nat
 |0=>0|k+1=>if s[k]?=some c then pX c s k else k+1
def wQ(c:UInt8)(s:Bs):Bs:=s.take (pX c s s.length)
def yZ(c:UInt8)(s:Bs):Bs:=(wQ c s).dropWhile (·==c)
theorem zR2(c:UInt8)(s:Bs):∀k,pX c s k<=k
 |0=>dA _|k+1=>by
  have:=zR2 c s k;rw[pX];split<;>omega
theorem zR4(c:UInt8)(s:Bs):∀k,pX c s k=0->∀j<k,s[j]?=some c
 |0,_,j,b=>by omega|k+1,h,j,b=>by
  rw[pX]at h;split at h
  ·rename_i a;by_cases e:j=k;·subst e;exact a
   ·exact zR4 c s k h j (by omega)
  ·cases h
theorem zR3(c:UInt8)(s:Bs):∀k n,pX c s k=n+1->s[n]?≠some c
 |0,n,h=>by cases h|k+1,n,h=>by
  rw[pX]at h;split at h;·exact zR3 c s k n h
  ·rename_i a;have:k=n:=by omega
   subst this;exact a
theorem zo9{c:UInt8}:∀{l:Bs},l.dropWhile (·==c)=[]↔l.all (·==c)=true
 |[]=>by simp|x::r=>by
  rw[List.dropWhile_cons];cases h:(x==c)with
  |true=>simp only[bD,qJ,h,eF];exact zo9|false=>simp[h]
theorem xt6(c:UInt8)(s:Bs):(yZ c s==[])=s.all (·==c):=by
 rw[Bool.eq_iff_iff,beq_iff_eq];unfold yZ wQ;rw[zo9];constructor
 ·intro h;cases a:pX c s s.length with
  |zero=>
   rw[gV];intro x b;obtain⟨j,d,e⟩:=List.mem_iff_getElem.1 b;have:=zR4 c s _ a j d;rw[jT d]at this;simp only[aT]at this;rw[<-e,this];simp|succ n=>
   exfalso;have k:=zR2 c s s.length;have f:n<s.length:=by omega
   have g:=zR3 c s _ n a;rw[jT f]at g;apply g;have i:s[n]∈s.take (pX c s s.length):=fB (i:=n) (by rw[a,fZ,if_pos (by omega),jT f]);have:=gV.1 h _ i;simpa using this
 ·intro h;rw[gV]at h⊢;exact fun x b=>h x (vF b)
def HC:List AV->Option AV
 |[.str s,.int .u8 n]=>if 0<=n/\n<256/\s.length<=1000000 then some (.str (wQ (UInt8.ofNat n.toNat) s))else none|_=>none
theorem zQ8(G:Gam)(c:UInt8)(s:Bs)(l:s.length<=1000000):∀k,k<=s.length->cY G [] Mc.b6_L0 0 [.blk 0,.seq (.seq (.reg [zm 22 0,zM 4 22]) .ret)] (aD Rs.b6 (.str (s.take (pX c s k)))) [(0,.str (s.take k)),(1,.int .u8 c.toNat),(4,.str [])] []
 |0,_=>by
  have q:ltB 0 0=false:=rfl;refine aJ (Mc.b6_L0.eq_1) ?_;simp[trunc,aI,pX,aD,Rs.b6]|k+1,p=>by
  have d:(s.take (k+1)).length=k+1:=by rw[lY];omega
  have q:ltB 0 ((k:Int)+1)=true:=aO.2 (by omega);have w:IntKind.i64.wrap (k:Int)=(k:Int):=i64_in _ ⟨by omega,by omega⟩;have j:k<s.length:=by omega
  have f:s[k]?=some s[k]:=jT j;have i:(s.take (k+1))[k]?=some s[k]:=by rw[fZ,if_pos (by omega),f]
  have g:∀a h,opV G a h .istr (some [.str (s.take (k+1)),.n (k:Int)])=some (.int .u8 (s[k]).toNat,h):=fun a h=>jX i;have sl:∀a h,opV G a h (.slc none false true false) (some [.str (s.take (k+1)),.n (k:Int)])=some (.str (s.take k),h):=fun a h=>by rw[LH (k:=k) (by omega),AF,vH (by omega)]
  have n:=zQ8 G c s l k (by omega);rw[pX,f];refine aJ (Mc.b6_L0.eq_1) ?_;generalize m:s.take (k+1)=u at*;by_cases e:s[k]=c
  ·have b:eqB ((s[k]).toNat:Int) (c.toNat:Int)=true:=gW.2 (by rw[e]);rw[if_pos (by rw[e])];generalize((s[k]).toNat:Int)=z at*;simp[trunc,aI,d,q,w,g,b,sl];refine cZ ?_;simpa[trunc]using n
  ·have b:eqB ((s[k]).toNat:Int) (c.toNat:Int)=false:=eU.2 fun o=>e (rP.1 (by omega));rw[if_neg (by simpa using e)];generalize((s[k]).toNat:Int)=z at*;rw[m];simp[trunc,aI,d,q,w,g,b,aD,Rs.b6]
theorem xt4{G:Gam}:PW G Mc.b6 Rs.b6 Ks.b6 HC:=by
 intro f r a;unfold HC at a;split at a
 ·rename_i s n;split at a
  ·rename_i d;obtain⟨g,i,c⟩:=d;injection a with a;subst a;have e:((UInt8.ofNat n.toNat).toNat:Int)=n:=by simp;omega
   have b:=zQ8 G (UInt8.ofNat n.toNat) s c s.length (by omega);rw[e,kE]at b;unfold wQ;rw[aM];simpa[Mc.b6,aC,Ks.b6]using b
  ·cases a
 ·cases a
def HA:List AV->Option AV
 |[.str s,.int .u8 n]=>if 0<=n/\n<256/\s.length<=1000000 then some (.str (s.dropWhile (·==UInt8.ofNat n.toNat)))else none|_=>none
theorem zQ7(G:Gam)(c:UInt8):∀s:Bs,s.length<=1000000->cY G [] Mc.b7_L0 0 [.blk 0,.seq (.seq (.reg [zm 16 0,zM 4 16]) .ret)] (aD Rs.b7 (.str (s.dropWhile (·==c)))) [(0,.str s),(1,.int .u8 c.toNat),(4,.str [])] []
 |[],_=>by
  refine aJ (Mc.b7_L0.eq_1) ?_;simp[trunc,aI,aD,Rs.b7]|x::r,g=>by
  have i:=zQ7 G c r (by simp at g;omega);have q:ltB 0 (((x::r:Bs).length:Nat):Int)=true:=aO.2 (by rw[hJ];omega);have sl:∀a h,opV G a h (.slc none true false false) (some [.str (x::r),.n 1])=some (.str r,h):=fun a h=>SA (k:=1) rfl (by simp);rw[List.dropWhile_cons];refine aJ (Mc.b7_L0.eq_1) ?_;generalize f:(x::r:Bs)=u at*;have d:∀a h,opV G a h .istr (some [.str u,.n 0])=some (.int .u8 x.toNat,h):=fun a h=>by rw[<-f];exact FF
  by_cases e:x=c
  ·have b:eqB (x.toNat:Int) (c.toNat:Int)=true:=gW.2 (by rw[e]);rw[if_pos (by rw[e];simp)];simp[trunc,aI,q,d,b,sl];refine cZ ?_;simpa[trunc]using i
  ·have b:eqB (x.toNat:Int) (c.toNat:Int)=false:=eU.2 fun j=>e (rP.1 (by omega));rw[if_neg (by simpa using e)];simp[trunc,aI,q,d,b,aD,Rs.b7]
theorem xt3{G:Gam}:PW G Mc.b7 Rs.b7 Ks.b7 HA:=by
 intro f r a;unfold HA at a;split at a
 ·rename_i s n;split at a
  ·rename_i d;obtain⟨g,i,c⟩:=d;injection a with a;subst a;have e:((UInt8.ofNat n.toNat).toNat:Int)=n:=by simp;omega
   have b:=zQ7 G (UInt8.ofNat n.toNat) s c;rw[e]at b;rw[aM];simpa[Mc.b7,aC,Ks.b7]using b
  ·cases a
 ·cases a
def zT:List AV->Option AV
 |[.str s,.str [0]]=>if s.length<=1000000 then some (.str (yZ 0 s))else none|_=>none
theorem xt7{G:Gam}(k:G Fn.b6=some (.pure HC))(j:G Fn.b7=some (.pure HA)):PW G Mc.c2 Rs.c2 Ks.c2 zT:=by
 intro p r a;unfold zT at a;split at a
 ·rename_i s;split at a
  ·rename_i n;injection a with a;subst a;have i:∀b h,opV G b h (.call Fn.b6) (some [.str s,.int .u8 0])=some (.str (wQ 0 s),h):=fun b h=>bF k (us:=[.str s,.int .u8 0]) rfl (by simp only[HC];rw[if_pos ⟨by omega,by omega,n⟩];rfl) (.inl rfl);have l:(wQ 0 s).length<=1000000:=by unfold wQ;rw[lY];omega
   have g:∀b h,opV G b h (.call Fn.b7) (some [.str (wQ 0 s),.int .u8 0])=some (.str (yZ 0 s),h):=fun b h=>bF j (us:=[.str (wQ 0 s),.int .u8 0]) rfl (by simp only[HA];rw[if_pos ⟨by omega,by omega,l⟩];rfl) (.inl rfl);have e:∀s:Bs,s=[]->yZ 0 s=[]:=fun s h=>by subst h;rfl
   obtain⟨f,m⟩:∃f,Mc.c2=(.seq (.reg [Km 4 (.c (.str []))]) (.seq (.seq (.reg [zm 7 0,Ze 8 7 [],zm 9 8,Gm 9 false 10 1,gz 9 false 11 (.bin .eql) [.t 10,.c (.str [])],Zp 12 9 11]) (.ite (.t 12) (.seq (.reg [zm 13 0,zM 4 13]) .ret) .skip)) (.seq (.seq (.reg [zm 14 1,zn 15 0 14,zc 16 .eql 15 1,zm 17 16,Gm 17 true 18 1,gz 17 true 19 .istr [.t 18,.i 0],gz 17 true 20 (.bin .lss) [.t 19,.c (.int .u8 128)],Zq 21 17 20]) (.ite (.t 21) (.seq (.rgd [zm 22 0,zm 23 1,iz 24 .istr [.t 23,.i 0],zg 25 Fn.b6 [.t 22,.t 24],zm 26 1,iz 27 .istr [.t 26,.i 0],zg 28 Fn.b7 [.t 25,.t 27],zM 4 28]) .ret) .skip)) f))):=⟨_,rfl⟩;rw[m,aM];cases c:(s==[])with
   |true=>
    have d:s=[]:=by simpa using c
    rw[e s d];subst d;simp[aC,Ks.c2,dV,aD,Rs.c2]|false=>
    have q:eqB 1 1=true:=rfl;have o:ltB 0 128=true:=rfl;simp[aC,Ks.c2,dV,c,aI,o,i,g,aD,Rs.c2]
  ·cases a
 ·cases a
def iL:List AV->Option AV
 |[.str s]=>if s.length<=1000000 then some (.bool (gN s))else none|_=>none
theorem xr7{G:Gam}(g:G Fn.cn=some (.pure HD)):PW G Mc.be Rs.be Ks.be iL:=by
 intro J r a;unfold iL at a;split at a
 ·rename_i s;split at a
  ·rename_i i;injection a with a;subst a;have e:∀f h,opV G f h (.call Fn.cn) (some [.agg [.n 1,.str s]])=some (.bool (FU 1 s),h):=fun f h=>bF g (us:=[.agg [.n 1,.str s]]) rfl (by simp only[HD];rw[if_pos i]) (.inl rfl);rw[xv8]at e;rw[aM];unfold gN;cases b:keyW.contains s with
   |true=>
    have d:s∈keyW:=by simpa using b
    unfold keyW at d;simp only[fE,List.not_mem_nil,or_false]at d;rcases d with rfl|rfl|rfl|rfl|rfl|rfl|rfl|rfl|rfl|rfl|rfl|rfl|rfl|rfl|rfl|rfl|rfl|rfl|rfl|rfl|rfl|rfl<;>simp[Mc.be,aC,Ks.be,dV,aD,Rs.be]|false=>
    have c:=b;clear b;unfold keyW at c;simp only[vA,List.contains_nil,uZ,xK]at c;obtain⟨j,k,x,B,C,D,E,F,H,I,l,m,n,o,p,q,t,u,v,w,y,A⟩:=c;generalize rX s=z at*;simp[Mc.be,aC,Ks.be,dV,j,k,x,B,C,D,E,F,H,I,l,m,n,o,p,q,t,u,v,w,y,A,e,eO,AV.cells,bK,aD,Rs.be]
  ·cases a
 ·cases a
def GS:List AV->Option AV:=F1 (fG .u8) eBool fun n=>some (ltI n)
theorem xj5(G:Gam):PW G Mc.c8 Rs.c8 Ks.c8 GS:=mK fun x r h=>by
 injection h with h;subst h;rw[aM];simp+contextual[Mc.c8,aC,Ks.c8,Rs.c8,fG,eBool,ltI]
def GR:List AV->Option AV:=F1 (fG .u8) eBool fun n=>some (dgI n)
theorem xh3(G:Gam):PW G Mc.de Rs.de Ks.de GR:=mK fun x r h=>by
 injection h with h;subst h;rw[aM];simp+contextual[Mc.de,aC,Ks.de,Rs.de,fG,eBool,dgI]
theorem zK4{G:Gam}(a:G Fn.c8=some (.pure GS))(n:Int)(b:Bool)(h:aA):opV G b h (.call Fn.c8) (some [.int .u8 n])=some (.bool (ltI n),h):=bF a (us:=[.int .u8 n]) rfl (nB (A:=fG .u8) (R:=eBool) (x:=n) rfl) (.inl rfl)
theorem xh4{G:Gam}(a:G Fn.de=some (.pure GR))(n:Int)(b:Bool)(h:aA):opV G b h (.call Fn.de) (some [.int .u8 n])=some (.bool (dgI n),h):=bF a (us:=[.int .u8 n]) rfl (nB (A:=fG .u8) (R:=eBool) (x:=n) rfl) (.inl rfl)
theorem zJ7{G:Gam}(n:G Fn.c8=some (.pure GS))(m:G Fn.de=some (.pure GR))(s:Bs)(t:s.length<=32):∀(a:Bs)(i:Nat),s.drop i=a->i<=s.length->cY G [] Mc.a6_L0 0 [.blk 0,.seq (.seq (.reg [Kb 2 true]) .ret)] (aD Rs.a6 (.bool (a.all (bI true)))) [(0,.str s),(2,.F),(3,.n i)] []
 |[],i,k,r=>by
  have w:=drop_nil k;have q:ltB (i:Int) (s.length:Int)=false:=bC.2 (by omega);refine aJ (Mc.a6_L0.eq_1) ?_;simp[trunc,aI,q,aD,Rs.a6]|c::a,i,k,r=>by
  obtain⟨x,u,v⟩:=eT k;have q:ltB (i:Int) (s.length:Int)=true:=aO.2 (by omega);have p:IntKind.i64.wrap ((i:Int)+1)=((i+1:Nat):Int):=dT (by unfold big;omega);have l:∀d h,opV G d h .istr (some [.str s,.n i])=some (.int .u8 c.toNat,h):=fun d h=>jX u;have g:=fun d h=>zK4 (G:=G) n (c.toNat:Int) d h;have j:=fun d h=>xh4 (G:=G) m (c.toNat:Int) d h;have o:=zJ7 n m s t a (i+1) v (by omega);have e:((c::a).all (bI true))=((dgI c.toNat||ltI c.toNat)&&a.all (bI true)):=by simp[bI,nmI]
  rw[e];generalize a.all (bI true)=z at*;refine aJ (Mc.a6_L0.eq_1) ?_;rcases dD (ltI (c.toNat:Int))with b|b
  ·rw[b]at g;simp only[b,Bool.or_true,eF];simp[trunc,aI,q,l,g,p];refine cZ ?_;simpa[trunc]using o
  ·rw[b]at g;rcases dD (dgI (c.toNat:Int))with f|f
   ·rw[f]at j;simp only[b,f,uZ,eF];simp[trunc,aI,q,l,g,j,p];refine cZ ?_;simpa[trunc]using o
   ·rw[f]at j;simp only[b,f,uZ,eW];simp[trunc,aI,q,l,g,j,aD,Rs.a6]
def MV:List AV->Option AV
 |[.str s]=>some (.bool (rX s))|_=>none
theorem xj1{G:Gam}(i:G Fn.c8=some (.pure GS))(m:G Fn.de=some (.pure GR)):PW G Mc.a6 Rs.a6 Ks.a6 MV:=by
 intro u r a;unfold MV at a;split at a
 ·rename_i s;injection a with a;subst a;rw[aM];cases s with
  |nil=>
   have q:ltB 0 1=true:=rfl;simp[Mc.a6,aC,Ks.a6,aI,q,rX,aD,Rs.a6]|cons c t=>
   have g:ltB (((c::t:Bs).length:Nat):Int) 1=false:=bC.2 (by simp;omega);simp only[rX];have e:=fun f h=>zK4 (G:=G) i (c.toNat:Int) f h;have o:=fun n=>zJ7 (G:=G) i m (c::t) n (c::t) 0 rfl (by omega);generalize(c::t).all (bI true)=z at*;generalize l:(c::t:Bs)=k at*;have j:∀f h,opV G f h .istr (some [.str k,.n 0])=some (.int .u8 c.toNat,h):=fun f h=>by rw[<-l];exact FF
   rcases dD (ltB 32 (k.length:Nat))with b|b;·simp[Mc.a6,aC,Ks.a6,aI,g,b,aD,Rs.a6]
   ·rcases dD (ltI (c.toNat:Int))with d|d
    ·rw[d]at e;have p:=o (by rw[bC]at b;omega);simp[Mc.a6,aC,Ks.a6,aI,g,b,j,e,d];simpa using p
    ·rw[d]at e;simp[Mc.a6,aC,Ks.a6,aI,g,b,j,e,d,aD,Rs.a6]
 ·cases a
def MW:List AV->Option AV
 |[.str s]=>some (.bool (keyW.contains s))|_=>none
theorem xj4{G:Gam}(c:G Fn.bi=some (.pure mL)):PW G Mc.dy Rs.dy Ks.dy MW:=by
 intro d r a;unfold MW at a;split at a
 ·rename_i s;injection a with a;subst a;have b:∀h,opV G false h (.call Fn.bi) (some [.tsl (kR keyW),.str s])=some (.bool (keyW.contains s),h):=fun h=>bF c (us:=[.sl (kR keyW),.str s]) rfl (by
  simp only[mL,UF];rw[if_pos (by unfold big;decide),PY]) (.inl rfl);rw[aM];generalize keyW.contains s=z at*;simp only[kR,keyW,iO,rM]at b;simp[Mc.dy,aC,Ks.dy,dX,owns,bU,view,dB,fW,bE,AV.cells,b,aD,Rs.dy]
 ·cases a
theorem xg4{G:Gam}(f:G Fn.a6=some (.pure MV))(g:G Fn.dy=some (.pure MW)):PW G Mc.a5 Rs.a5 Ks.a5 iL:=by
 intro i r a;unfold iL at a;split at a
 ·rename_i s;split at a
  ·rename_i j;injection a with a;subst a;have c:∀b h,opV G b h (.call Fn.a6) (some [.str s])=some (.bool (rX s),h):=fun b h=>bF f (us:=[.str s]) rfl rfl (.inl rfl);have e:∀b h,opV G b h (.call Fn.dy) (some [.str s])=some (.bool (keyW.contains s),h):=fun b h=>bF g (us:=[.str s]) rfl rfl (.inl rfl);rw[aM];unfold gN;generalize keyW.contains s=z at*;cases d:rX s with
   |true=>
    rw[d]at c;simp[Mc.a5,aC,Ks.a5,c,e,aD,Rs.a5]|false=>
    rw[d]at c;simp[Mc.a5,aC,Ks.a5,c,aD,Rs.a5]
  ·cases a
 ·cases a
section
def iT(m:List (Bs×Bs)):List (AV×AV):=m.map fun k=>(.agg [.str k.1,.str k.2],.T)
theorem zq6(a b c d:Bs):gX [.s,.s] [.str a,.str b] [.str c,.str d]=some (a==c&&b==d):=by
 simp only[gX];by_cases e:a=c
 ·by_cases f:b=d;·simp[e,f]
  ·simp[e,f]
 ·have:(a==c)=false:=by simpa using e
  simp[e,this]
theorem zh9(a b:Bs):∀m:List (Bs×Bs),xH [.s,.s] [.str a,.str b] (iT m)=some (if m.contains (a,b)then some (.T)else none)
 |[]=>rfl|(c,d)::r=>by
  have f:=zh9 a b r;simp only[iT]at f;simp only[iT,iO,xH,hJ,gQ,bD,zq6,vA];have e:((a,b)==(c,d))=(a==c&&b==d):=rfl;rw[e];cases h:(a==c&&b==d)with
  |true=>simp|false=>simpa using f
theorem zi0(a b:Bs):∀m:List (Bs×Bs),m.contains (a,b)=false->xI [.s,.s] [.str a,.str b] (.T) (iT m)=some (iT (m++[(a,b)]))
 |[],_=>rfl|(c,d)::r,h=>by
  rw[vA,xK]at h;have f:=zi0 a b r h.2;simp only[iT]at f;have e:((a,b)==(c,d))=(a==c&&b==d):=rfl;rw[e]at h;simp only[iT,iO,xI,hJ,gQ,bD,zq6,h.1];simp[f]
section
variable{G:Gam}{s:Bool}{h:aA}
theorem xc0{l:Nat}{m:List (Bs×Bs)}{a b:Bs}(c:h[l]?=some (.map (iT m))):opV G s h (.lookA [.s,.s] false (.F)) (some [.map l,.agg [.str a,.str b]])=some (.bool (m.contains (a,b)),h):=by
 rw[eV rfl];simp only[dH,hJ,gQ,bD,c,zh9,fC];cases m.contains (a,b)<;>rfl
theorem xc2{l:Nat}{m:List (Bs×Bs)}{a b:Bs}(d:h[l]?=some (.map (iT m)))(e:m.contains (a,b)=false):opV G s h (.mapupA [.s,.s]) (some [.map l,.agg [.str a,.str b],.T])=some (.junk,h.set l (.map (iT (m++[(a,b)])))):=by
 rw[eG rfl];have c:frz h (.T)=some (.T,h):=by simp[frz,view]
 simp only[cG,yN,isKey,hJ,gQ,c,d,zi0 a b m e];simp
end
theorem zy3(o y:Bs):∀a:List Plc,(a.map fun q=>(q.obj,q.sym)).contains (o,y)=a.any (fun q=>q.obj==o&&q.sym==y)
 |[]=>rfl|q::r=>by
  have b:=zy3 o y r;rw[iO,vA,List.any_cons,b];congr 1;have e:((o,y)==(q.obj,q.sym))=(o==q.obj&&y==q.sym):=rfl;rw[e,Bool.beq_comm (a:=o),Bool.beq_comm (a:=y)]
def lG(b:Bin):Bool:=qV b&&decide (b.img.length<=1000000)&&b.pl.all (fun p=>decide (p.obj.length<=100000)&&decide (p.sym.length<=100000))&&decide (b.fx.length<1000000)&&b.fx.all mJ&&decide (b.im.length<1000000)&&b.im.all (fun x=>decide (x.lib.length<=100000)&&decide (x.sym.length<=100000)&&mJ x.pos)&&decide (b.ex.length<1000000)&&b.ex.all (fun x=>decide (x.sym.length<=100000)&&mJ x.pos)&&decide (b.nt.length<1000000)&&b.nt.all (fun n=>decide (n.1.length<=100000)&&decide (n.2.length<=1000000))
structure OkB(b:Bin):Prop where
 p:qV b=true
 img:b.img.length<=1000000
 pl:∀p∈b.pl,p.obj.length<=100000/\p.sym.length<=100000
 fxl:b.fx.length<1000000
 fx:∀a∈b.fx,mJ a=true
 iml:b.im.length<1000000
 im:∀x∈b.im,x.lib.length<=100000/\x.sym.length<=100000/\mJ x.pos=true
 exl:b.ex.length<1000000
 ex:∀x∈b.ex,x.sym.length<=100000/\mJ x.pos=true
 ntl:b.nt.length<1000000
 nt:∀n∈b.nt,n.1.length<=100000/\n.2.length<=1000000
theorem sH{b:Bin}(h:lG b=true):OkB b:=by
 unfold lG at h;simp only[bS,fU,gV]at h;obtain⟨⟨⟨⟨⟨⟨⟨⟨⟨⟨d,g⟩,i⟩,h4⟩,h5⟩,j⟩,a⟩,k⟩,l⟩,e⟩,f⟩:=h;exact⟨d,g,i,h4,h5,j,fun x c=>⟨(a x c).1.1,(a x c).1.2,(a x c).2⟩,k,l,e,f⟩
theorem QV{b:Bin}(h:OkB b):lG b=true:=by
 obtain⟨d,g,i,h4,h5,j,a,k,l,e,f⟩:=h;unfold lG;simp only[bS,fU,gV];exact⟨⟨⟨⟨⟨⟨⟨⟨⟨⟨d,g⟩,i⟩,h4⟩,h5⟩,j⟩,fun x c=>⟨⟨(a x c).1,(a x c).2.1⟩,(a x c).2.2⟩⟩,k⟩,l⟩,e⟩,f⟩
theorem yt2(s:Bs):(Lib.cut s [33]).1.length<=s.length/\(Lib.cut s [33]).2.1.length<=s.length:=by
 by_cases h:(33:UInt8)∈s
 ·obtain⟨a,b,e,d,c⟩:=(index_one 33 s).1 h;rw[c,e];simp;omega
 ·rw[(index_one 33 s).2 h];simp
def tB:List AV->Option AV
 |[.agg a]=>match mP a with
  |some b=>if lG b=true then some (.bool (iJ b))else none|none=>none
 |_=>none
theorem yZ5{G:Gam}(a:G Fn.b4=some (.pure zQ)){s:Bs}(c:s.length<=100000)(b:Bool)(h:aA):opV G b h (.call Fn.b4) (some [.str s])=some (.bool (oF s),h):=bF a (us:=[.str s]) rfl (by have:=yt2 s;simp only[zQ];rw[if_pos ⟨by omega,by omega,by omega⟩]) (.inl rfl)
theorem SG{G:Gam}(a:G Fn.be=some (.pure iL)){s:Bs}(c:s.length<=100000)(b:Bool)(h:aA):opV G b h (.call Fn.be) (some [.str s])=some (.bool (gN s),h):=bF a (us:=[.str s]) rfl (by simp only[iL];rw[if_pos (by omega)]) (.inl rfl)
theorem xt8{G:Gam}(a:G Fn.c2=some (.pure zT)){s:Bs}(b:s.length<=1000000)(c:Bool)(h:aA):opV G c h (.call Fn.c2) (some [.str s,.str [0]])=some (.str (yZ 0 s),h):=bF a (us:=[.str s,.str [0]]) rfl (by simp only[zT];rw[if_pos b]) (.inl rfl)
attribute[local congr]ite_congr in theorem zG4{G:Gam}(z:G Fn.b4=some (.pure zQ))(A:G Fn.be=some (.pure iL))(y:G Fn.c2=some (.pure zT))(b:Bin)(k:OkB b)(a:List AV)(C:∀b1,bN b1 a=true)(j:∀d:aA,aB 1 false (.cells a::d) (.ptr 0 2)=some (.str b.img)):∀(l:List Plc)(i:Nat)(g:List Plc)(e:Nat),b.pl.drop i=l->i<=b.pl.length->e<=b.img.length->cY G [6,7,8,9,10] Mc.a2_L0 2 [.blk 0,.seq (.seq (.reg [zm 124 4,zf 125 2 1,zl 126 125,zn 127 0 126,zb 128 .eql 124 127,zM 2 128]) .ret)] (aD Rs.a2 (.bool (oJ b.img g e l))) [(0,.agg a),(1,.ptr 0 0),(2,.F),(3,.map 1),(4,.n e),(6,.junk),(7,.junk),(8,.junk),(9,.junk),(10,.junk),(29,.sl (aK b.pl)),(30,.n b.pl.length),(31,.n i)] [.cells a,.map (iT (g.map fun q=>(q.obj,q.sym)))]
 |[],i,g,e,r,Z,X=>by
  have b3:=drop_nil r;have T:i=b.pl.length:=by omega
  subst T;refine aJ (Mc.a2_L0.eq_1) ?_;rw[aQ (n:=2) rfl];have P:eqB (e:Int) (b.img.length:Int)=(e==b.img.length):=by
   by_cases h:e=b.img.length;·subst h;simp
   ·have:eqB (e:Int) (b.img.length:Int)=false:=eU.2 (by omega);rw[this];simp[h]
  simp[j,aI,oJ,P,aD,Rs.a2,-aB]|p::l,i,g,e,r,Z,X=>by
  obtain⟨c3,E,a3⟩:=eT r;have D:=fB E;obtain⟨hb,W⟩:=yL k.p;obtain⟨⟨k1,k2⟩,k3,k4⟩:=KO (W p D);obtain⟨ko,ky⟩:=k.pl p D;have c1:=k.img;have q:ltB (i:Int) (b.pl.length:Int)=true:=aO.2 (by omega);have hw:=dT (i:=i) (by unfold big;omega);have r1:=yM E;have a2:p.row.length=5:=rfl;have ia:∀h,bA 5 h (.sl (aK b.pl)) (.n (i:Int))=some (.fptr p.row 0):=fun h=>by simp[bA,r1,a2]
  have l1:∀h,aB 5 true h (.fptr p.row 0)=some (.agg p.row):=fun h=>by simp[aB,cut,aE,Plc.row]
  obtain⟨M,o⟩:∃M,M=g.map fun q=>(q.obj,q.sym):=⟨_,rfl⟩;rw[<-o];have sn:aU 5 [.cells a,.map (iT M),.cells [.str [],.str [],.n 0,.n 0,.n 0]] (.ptr 2 0) (.agg p.row)=some [.cells a,.map (iT M),.cells p.row]:=SE (h:=[.cells a,.map (iT M)]);have b2:aU 2 [.cells a,.map (iT M),.cells p.row,.cells [.str [],.str []]] (.ptr 3 0) (.agg [.str p.obj,.str p.sym])=some [.cells a,.map (iT M),.cells p.row,.cells [.str p.obj,.str p.sym]]:=SD (h:=[.cells a,.map (iT M),.cells p.row]);have p0:∀M d,aB 1 false (.cells a::.map M::.cells p.row::d) (.ptr 2 0)=some (.str p.obj):=fun M d=>aR (l:=2) rfl rfl;have p1:∀M d,aB 1 false (.cells a::.map M::.cells p.row::d) (.ptr 2 1)=some (.str p.sym):=fun M d=>aR (l:=2) rfl rfl;have p2:∀M d,aB 1 false (.cells a::.map M::.cells p.row::d) (.ptr 2 2)=some (.n p.kd):=fun M d=>aR (l:=2) rfl rfl;have p3:∀M d,aB 1 false (.cells a::.map M::.cells p.row::d) (.ptr 2 3)=some (.n p.pos):=fun M d=>aR (l:=2) rfl rfl;have H:∀M d,aB 1 false (.cells a::.map M::.cells p.row::d) (.ptr 2 4)=some (.n p.siz):=fun M d=>aR (l:=2) rfl rfl;have I:∀M c,aB 2 true [.cells a,.map M,c,.cells [.str p.obj,.str p.sym]] (.ptr 3 0)=some (.agg [.str p.obj,.str p.sym]):=fun M c=>by simp[aB,cut,aE]
  have lk:∀f,opV G f [.cells a,.map (iT M),.cells p.row,.cells [.str p.obj,.str p.sym]] (.lookA [.s,.s] false (.F)) (some [.map 1,.agg [.str p.obj,.str p.sym]])=some (.bool (M.contains (p.obj,p.sym)),[.cells a,.map (iT M),.cells p.row,.cells [.str p.obj,.str p.sym]]):=fun f=>xc0 (l:=1) rfl;have K:=fun f h=>yZ5 (G:=G) z ko f h;have L:=fun f h=>SG (G:=G) A ky f h;have hu:=ZQ e;obtain⟨u,t⟩:∃u,u=kL e:=⟨_,rfl⟩;have w1:IntKind.i64.wrap ((e:Int)+3)=(e:Int)+3:=i64_in _ ⟨by omega,by omega⟩;have w2:IntKind.i64.wrap (4*(((e:Int)+3).tdiv 4))=(u:Int):=by rw[upE (by omega) (by omega),t];unfold kL;omega
  have mq:aW .quo (.n ((e:Int)+3)) (.n 4)=some (.n (((e:Int)+3).tdiv 4)):=by
   simp[aW,fS];rw[i64_in _ ⟨by rw[AA (by omega)];omega,by rw[AA (by omega)];omega⟩]
  have mm:aW .mul (.n (((e:Int)+3).tdiv 4)) (.n 4)=some (.n u):=by
   have O:aW .mul (.n (((e:Int)+3).tdiv 4)) (.n 4)=some (.n (IntKind.i64.wrap ((((e:Int)+3).tdiv 4)*4))):=rfl;rw[O,Int.mul_comm,w2]
  have mr:aW .rem (.n p.siz) (.n 4)=some (.n (p.siz.tmod 4)):=by simp[aW,fS]
  have J:IntKind.i64.wrap ((u:Int)+p.siz)=(u:Int)+p.siz:=i64_in _ ⟨by omega,by omega⟩;refine aJ (Mc.a2_L0.eq_1) ?_;rw[aQ (n:=2) rfl];generalize V:aK b.pl=R at*;simp+contextual[q,ia,l1,sn,p0,p1,p2,p3,H,b2,eO,AV.cells,bK,I,lk,j,aI,K,L,mq,mm,mr,w1,J,-aB,-bB];have a1:(!g.any (fun q=>q.obj==p.obj&&q.sym==p.sym)&&yO p&&eqB p.pos (kL e)&&!ltB b.img.length (kL e+p.siz))=!(decide ((p.obj,p.sym)∈M)||!oF p.obj||!gN p.sym||(!eqB p.kd 1||ltB p.siz 2)&&(!eqB p.kd 2||ltB p.siz 0||!eqB (p.siz.tmod 4) 0)||ltB 8192 p.siz||!eqB p.pos u||ltB b.img.length ((u:Int)+p.siz)):=by
   rw[<-zy3,<-o,t];have:decide ((p.obj,p.sym)∈M)=M.contains (p.obj,p.sym):=by simp
   rw[this];simp only[yO,Bool.not_or,Bool.not_and,Bool.not_not,Bool.and_assoc]
  rw[oJ,a1];rcases dD (decide ((p.obj,p.sym)∈M)||!oF p.obj||!gN p.sym||(!eqB p.kd 1||ltB p.siz 2)&&(!eqB p.kd 2||ltB p.siz 0||!eqB (p.siz.tmod 4) 0)||ltB 8192 p.siz||!eqB p.pos u||ltB b.img.length ((u:Int)+p.siz))with c|c
  ·rw[c];simp[aD,Rs.a2]
  ·rw[c];have v:=c;simp only[xK,Bool.and_eq_false_iff,Bool.not_eq_false',AI,gW,bC]at v;obtain⟨⟨⟨⟨⟨⟨N,d2⟩,d3⟩,d4⟩,d5⟩,d6⟩,d7⟩:=v;have e3:0<=p.siz:=by omega
   have sl:∀f h,opV G f h (.slc none true true false) (some [.str b.img,.n e,.n u])=some (.str ((b.img.take u).drop e),h):=fun f h=>YR rfl rfl (by omega) (by omega);have x:=fun f h=>xt8 (G:=G) y (s:=(b.img.take u).drop e) (by simp only[AB,lY];omega) f h;have hz:LP b.img e (kL e)=(yZ 0 ((b.img.take u).drop e)==[]):=by rw[xt6,t];rfl
   have U:M.contains (p.obj,p.sym)=false:=by simpa using N
   have up:∀f,opV G f [.cells a,.map (iT M),.cells p.row,.cells [.str p.obj,.str p.sym]] (.mapupA [.s,.s]) (some [.map 1,.agg [.str p.obj,.str p.sym],.T])=some (.junk,[.cells a,.map (iT (M++[(p.obj,p.sym)])),.cells p.row,.cells [.str p.obj,.str p.sym]]):=fun f=>xc2 (l:=1) rfl U;have F:=zG4 z A y b k a C j l (i+1) (g++[p]) (kL e+p.siz.toNat) a3 (by omega) (by omega);rw[hz];have B:=C 2;have S:M++[(p.obj,p.sym)]=(g++[p]).map fun q=>(q.obj,q.sym):=by rw[o];simp
   have Q:((kL e+p.siz.toNat:Nat):Int)=(u:Int)+p.siz:=by omega
   rw[Q,<-S,V]at F;generalize M++[(p.obj,p.sym)]=m at*;generalize yZ 0 ((b.img.take u).drop e)=tz at*;cases w:(tz==[])with
   |false=>simp[sl,j,x,dV,w,aD,Rs.a2,-aB]|true=>
    simp[sl,j,x,dV,w,I,up,H,J,hw,-aB];refine cZ ?_;have ht:∀n d,bW 2 n=true->trunc 2 n (.cells a::.map (iT m)::d)=[.cells a,.map (iT m)]:=fun n d Y=>sP (a:=[.cells a,.map (iT m)]) (b:=d) rfl Y (by simp[cV,gD,B]);rw[ht _ _ (by simp[bW,low,B])];simpa using F
theorem xf0{G:Gam}(n:G Fn.b4=some (.pure zQ))(o:G Fn.be=some (.pure iL))(m:G Fn.c2=some (.pure zT)):PW G Mc.a2 Rs.a2 Ks.a2 tB:=by
 intro u r a;unfold tB at a;split at a
 ·rename_i k;split at a
  ·rename_i b p;split at a
   ·rename_i q;injection a with a;subst a;obtain rfl:k=b.cells:=mE p;have l:=zG4 (G:=G) n o m b (sH q) b.cells (iS b) (fun c=>aR (l:=0) rfl rfl) b.pl 0 [] 0 rfl (by omega) (by omega);have e:∀c:aA,aB 1 false (.cells b.cells::c) (.ptr 0 3)=some (.sl (aK b.pl)):=fun c=>aR (l:=0) rfl rfl;have j:∀c:aA,aB 1 false (.cells b.cells::c) (.ptr 0 2)=some (.str b.img):=fun c=>aR (l:=0) rfl rfl;have f:=fun t=>qO (G:=G) b t;rw[aM];unfold iJ;generalize b.cells=k at l e j f⊢;rcases dD (ltB (b.pl.length:Nat) 1)with d|d;·simp[Mc.a2,Ks.a2,aC,f,e,aI,d,aD,Rs.a2,-aB]
    ·rcases dD (ltB 128 (b.pl.length:Nat))with g|g;·simp[Mc.a2,Ks.a2,aC,f,e,aI,d,g,aD,Rs.a2,-aB]
     ·rcases dD (ltB 65536 (b.img.length:Nat))with i|i;·simp[Mc.a2,Ks.a2,aC,f,e,j,aI,d,g,i,aD,Rs.a2,-aB]
      ·simp[Mc.a2,Ks.a2,aC,f,e,j,aI,d,g,i,-aB];simpa[iT]using l
   ·cases a
  ·cases a
 ·cases a
end
section
def mS(seen:List Bs):List (Bs×Bool):=seen.map fun k=>(k,true)
theorem zz3(k:Bs):∀seen:List Bs,sG k (mS seen)=if seen.contains k then some true else none
 |[]=>rfl|x::r=>by
  have a:=zz3 k r;simp only[mS]at a;simp only[mS,iO,sG,a,vA];by_cases h:k=x;·simp[h]
  ·have:(k==x)=false:=by simpa using h
   simp[h]
theorem zH2(k:Bs):∀seen:List Bs,seen.contains k=false->FH k true (mS seen)=mS (seen++[k])
 |[],_=>rfl|x::r,h=>by
  rw[vA,xK]at h;have a:=zH2 k r h.2;have b:¬k=x:=by simpa using h.1
  simp only[mS]at a;simp only[mS,iO,tL,FH,if_neg b,a]
def ntS(l:List (Bs×Bs)):Bool:=decide (l.length<1000000)&&l.all (fun n=>decide (n.1.length<=100000)&&decide (n.2.length<=1000000))
theorem xa2{l:List (Bs×Bs)}(h:ntS l=true):l.length<1000000/\∀n∈l,n.1.length<=100000/\n.2.length<=1000000:=by
 unfold ntS at h;simpa[gV]using h
def GP:List AV->Option AV
 |[.sl a]=>match gT AS a with
  |some l=>if ntS l=true then some (.bool (kT [] l&&!ltB 64 l.length))else none|none=>none
 |_=>none
theorem yu7{a:List (List AV)}{l:List (Bs×Bs)}(h:gT AS a=some l):a=dK l:=oC (enc:=dI) (fun _ _=>zn9) h
attribute[local congr]ite_congr in theorem zD4{G:Gam}(m:G Fn.be=some (.pure iL))(l:List (Bs×Bs))(v:l.length<1000000)(o:∀n∈l,n.1.length<=100000/\n.2.length<=1000000):∀(b:List (Bs×Bs))(i:Nat)(seen:List Bs),l.drop i=b->i<=l.length->cY G [5] Mc.ca_L0 1 [.blk 0,.seq (.seq (.reg [zm 33 0,zn 34 1 33,zc 35 .leq 34 64,zM 2 35]) .ret)] (aD Rs.ca (.bool (kT seen b&&!ltB 64 l.length))) [(0,.sl (dK l)),(2,.F),(3,.map 0),(5,.junk),(7,.sl (dK l)),(8,.n l.length),(9,.n i)] [.map (mG eBool (mS seen))]
 |[],i,seen,g,x=>by
  have S:=drop_nil g;have u:i=l.length:=by omega
  subst u;refine aJ (Mc.ca_L0.eq_1) ?_;rw[aQ (n:=1) rfl];have y:(dK l).length=l.length:=by simp
  simp[aI,y,kT,aD,Rs.ca]|n::b,i,seen,g,x=>by
  obtain⟨T,p,D⟩:=eT g;obtain⟨H,U⟩:=o n (fB p);have q:ltB (i:Int) (l.length:Int)=true:=aO.2 (by omega);have C:=dT (i:=i) (by unfold big;omega);have L:=KL p;have E:∀h,bA 2 h (.sl (dK l)) (.n (i:Int))=some (.fptr [.str n.1,.str n.2] 0):=fun h=>by simp[bA,L,dI]
  have I:∀h,aB 2 true h (.fptr [.str n.1,.str n.2] 0)=some (.agg [.str n.1,.str n.2]):=fun h=>by simp[aB,cut,aE]
  obtain⟨M,f⟩:∃M,M=mG eBool (mS seen):=⟨_,rfl⟩;have N:aU 2 [.map M,.cells [.str [],.str []]] (.ptr 1 0) (.agg [.str n.1,.str n.2])=some [.map M,.cells [.str n.1,.str n.2]]:=SD (h:=[.map M]);have r:∀M,aB 1 false [.map M,.cells [.str n.1,.str n.2]] (.ptr 1 0)=some (.str n.1):=fun M=>aR (l:=1) rfl rfl;have K:∀M,aB 1 false [.map M,.cells [.str n.1,.str n.2]] (.ptr 1 1)=some (.str n.2):=fun M=>aR (l:=1) rfl rfl;have J:∀a,opV G a [.map M,.cells [.str n.1,.str n.2]] (.look .s false (.F)) (some [.map 0,.str n.1])=some (.bool (seen.contains n.1),[.map M,.cells [.str n.1,.str n.2]]):=fun a=>by
   rw[xb9 (V:=eBool) (m:=mS seen) (l:=0) (by rw[f];rfl),zz3];cases seen.contains n.1<;>rfl
  have t:=fun a h=>SG (G:=G) m H a h;have F:=zD4 m l v o b (i+1) (seen++[n.1]) D (by omega);have P:mG eBool (mS (seen++[n.1]))=mG eBool (mS (seen++[n.1])):=rfl;have A:(!seen.contains n.1&&gN n.1&&!ltB 65536 n.2.length)=!(decide (n.1∈seen)||!gN n.1||ltB 65536 (n.2.length:Nat)):=by
   have:decide (n.1∈seen)=seen.contains n.1:=by simp
   rw[this];simp only[Bool.not_or,Bool.not_not,Bool.and_assoc]
  refine aJ (Mc.ca_L0.eq_1) ?_;rw[aQ (n:=1) rfl,<-f];generalize Q:dK l=R at*;simp+contextual[q,E,I,N,r,K,J,aI,t,-aB,-bB];rw[kT,A];rcases dD (decide (n.1∈seen)||!gN n.1||ltB 65536 (n.2.length:Nat))with c|c
  ·rw[c];simp[aD,Rs.ca]
  ·rw[c];have k:=c;simp only[xK,AI]at k;have z:seen.contains n.1=false:=by simpa using k.1.1
   have O:∀a,opV G a [.map M,.cells [.str n.1,.str n.2]] (.mapup .s) (some [.map 0,.str n.1,.T])=some (.junk,[.map (mG eBool (mS (seen++[n.1]))),.cells [.str n.1,.str n.2]]):=fun a=>by
    have:=xc1 (G:=G) (s:=a) (h:=[.map M,.cells [.str n.1,.str n.2]]) (V:=eBool) (m:=mS seen) (k:=n.1) (v:=true) (x:=.T) (l:=0) (by rw[f];rfl) rfl rfl rfl;rw[zH2 _ _ z]at this;simpa using this
   generalize mG eBool (mS (seen++[n.1]))=d at*;simp[O,r,C,-aB];refine cZ ?_;have B:∀e j,bW 1 e=true->trunc 1 e (.map d::j)=[.map d]:=fun e j w=>sP (a:=[.map d]) (b:=j) rfl w (by simp[cV,gD]);rw[B _ _ (by simp[bW,low])];simpa using F
theorem xa0{G:Gam}(b:G Fn.be=some (.pure iL)):PW G Mc.ca Rs.ca Ks.ca GP:=by
 intro j r a;unfold GP at a;split at a
 ·rename_i k;split at a
  ·rename_i l c;split at a
   ·rename_i e;injection a with a;subst a;have:=yu7 c;subst this;obtain⟨g,i⟩:=xa2 e;have f:=zD4 (G:=G) b l g i l 0 [] rfl (by omega);have d:(dK l).length=l.length:=by simp
    rw[aM];generalize dK l=R at*;simp[Mc.ca,Ks.ca,aC,aI,d];simpa[mS,mG]using f
   ·cases a
  ·cases a
 ·cases a
theorem WV{G:Gam}{s:Bool}{h:aA}{f:FuncId}{F:List AV->aA->Option (AV×aA)}{a:List AV}(b:G f=some (.gen F)):opV G s h (.callg f) (some a)=F a h:=by
 have e:opV G s h (.callg f) (some a)=eD G f a h:=by cases s<;>rfl
 rw[e,lB b]
theorem TQ{a b:Bs}:aW .geq (.str a) (.str b)=some (.bool (!Op.bytesLess a b)):=by simp[aW,dV]
def GM:List AV->Option AV
 |[.agg a]=>match mP a with
  |some b=>if lG b=true then some (.bool (exP b.pl none b.ex))else none|none=>none
 |_=>none
attribute[local congr]ite_congr in theorem zr5{G v:Gam}(o:G Fn.cl=some (.gen (cJ (oQ true 5 v))))(L:v Fn.b8=some (.gen (cJ DB)))(b:Bin)(C:OkB b)(a:List AV)(N:∀n,bN n a=true)(e:∀d:aA,aB 1 false (.cells a::d) (.ptr 0 3)=some (.sl (aK b.pl)))(m:∀d:aA,aB 1 false (.cells a::d) (.ptr 0 6)=some (.sl (bZ b.ex))):∀(u:List Expo)(i:Nat)(k:Option Expo),b.ex.drop i=u->i<=b.ex.length->(match k with|none=>i=0|some p=>∃j,i=j+1/\b.ex[j]?=some p)->cY G [3,4] Mc.bw_L0 1 [.blk 0,.seq (.seq (.reg [Kb 2 true]) .ret)] (aD Rs.bw (.bool (exP b.pl (k.map Expo.sym) u))) [(0,.agg a),(1,.ptr 0 0),(2,.F),(3,.junk),(4,.junk),(6,.sl (bZ b.ex)),(7,.n b.ex.length),(8,.n i)] [.cells a]
 |[],i,k,B,V,D=>by
  have a2:=drop_nil B;have S:i=b.ex.length:=by omega
  subst S;refine aJ (Mc.bw_L0.eq_1) ?_;rw[aQ (n:=1) rfl];simp[exP,aD,Rs.bw]|x::u,i,k,B,V,D=>by
  obtain⟨a3,O,X⟩:=eT B;have hb:=C.exl;have b1:=(yL C.p).1;have q:ltB (i:Int) (b.ex.length:Int)=true:=aO.2 (by omega);have E:=dT (i:=i) (by unfold big;omega);have Y:=JG O;have c:∀h,bA 2 h (.sl (bZ b.ex)) (.n (i:Int))=some (.fptr [.str x.sym,.n x.pos] 0):=fun h=>by simp[bA,Y,Expo.row]
  have g:∀h,aB 2 true h (.fptr [.str x.sym,.n x.pos] 0)=some (.agg [.str x.sym,.n x.pos]):=fun h=>by simp[aB,cut,aE]
  have l:aU 2 [.cells a,.cells [.str [],.n 0]] (.ptr 1 0) (.agg [.str x.sym,.n x.pos])=some [.cells a,.cells [.str x.sym,.n x.pos]]:=by simp[aU,AV.cells,bK,bE]
  have J:aB 1 false [.cells a,.cells [.str x.sym,.n x.pos]] (.ptr 1 0)=some (.str x.sym):=aR (l:=1) rfl rfl;have M:opV G false [.cells a,.cells [.str x.sym,.n x.pos]] (.call Fn.cl) (some [.sl (aK b.pl),.fn Fn.b8 [.ptr 1 0]])=some (.bool (b.pl.any (fun p=>p.sym==x.sym&&p.pos==x.pos)),[.cells a,.cells [.str x.sym,.n x.pos]]):=TZ (G0:=v) (xs:=b.pl) (e:=Plc.row) (val:=fun f=>.agg f.row) (agg:=true) (n:=5) o (by unfold big;omega) WJ fun a1 hg=>by
    refine DS ?_;simp only[eD,L,cJ,DB,OZ,tM,mM];rfl
  have r:∀P,opV G P [.cells a,.cells [.str x.sym,.n x.pos]] (.callg Fn.cl) (some [.sl (aK b.pl),.fn Fn.b8 [.ptr 1 0]])=some (.bool (b.pl.any (fun p=>p.sym==x.sym&&p.pos==x.pos)),[.cells a,.cells [.str x.sym,.n x.pos]]):=fun P=>by rw[WV o];rw[eX o]at M;exact M
  have H:=zr5 o L b C a N e m u (i+1) (some x) X (by omega) ⟨i,rfl,O⟩;rw[exP];have A:=N 1;refine aJ (Mc.bw_L0.eq_1) ?_;rw[aQ (n:=1) rfl];have fin:∀z d,bW 1 z=true->trunc 1 z (.cells a::d)=[.cells a]:=fun z d U=>sP (a:=[.cells a]) (b:=d) rfl U (by simp[cV,gD,A]);simp only[fC]at H;generalize b.pl.any (fun p=>p.sym==x.sym&&p.pos==x.pos)=an at*;cases k with
  |none=>
   subst D;have t:ltB 0 0=false:=rfl;simp only[kY]at q c E⊢;simp only[Option.map_none,Option.any_none,iF,eF];have w1:IntKind.i64.wrap 1=1:=rfl;generalize T:bZ b.ex=R at*;generalize aK b.pl=Q at*;cases an with
   |false=>simp[q,c,g,l,e,r,aD,Rs.bw,-aB,-bB]|true=>
    simp[q,c,g,l,e,r,w1,-aB,-bB];refine cZ ?_;rw[fin _ _ (by simp[bW,low,A])];simpa using H
  |some y=>
   obtain⟨j,rfl,W⟩:=D;have t:ltB 0 ((j:Int)+1)=true:=aO.2 (by omega);have K:IntKind.i64.wrap (j:Int)=j:=i64_in _ ⟨by omega,by omega⟩;have Z:=JG W;have F:∀h,bA 2 h (.sl (bZ b.ex)) (.n (j:Int))=some (.fptr [.str y.sym,.n y.pos] 0):=fun h=>by simp[bA,Z,Expo.row]
   have I:∀h,aB 1 false h (.fptr [.str y.sym,.n y.pos] 0)=some (.str y.sym):=fun h=>by simp[aB,cut,aE]
   simp only[fC,AG,Bool.not_not];simp only[Int.natCast_add,Int.natCast_one]at c q E⊢;generalize T:bZ b.ex=R at*;generalize aK b.pl=Q at*;cases w:Op.bytesLess y.sym x.sym with
   |false=>simp[q,c,g,l,t,K,m,F,I,J,w,aD,Rs.bw,-aB,-bB]|true=>cases an with
    |false=>simp[q,c,g,l,t,K,m,F,I,J,w,e,r,aD,Rs.bw,-aB,-bB]|true=>
     simp[q,c,g,l,t,K,m,F,I,J,w,e,r,E,-aB,-bB];refine cZ ?_;rw[fin _ _ (by simp[bW,low,A])];simpa using H
theorem yy4{G G0:Gam}(j:G Fn.cl=some (.gen (cJ (oQ true 5 G0))))(i:G0 Fn.b8=some (.gen (cJ DB))):PW G Mc.bw Rs.bw Ks.bw GM:=by
 intro o r a;unfold GM at a;split at a
 ·rename_i e;split at a
  ·rename_i b k;split at a
   ·rename_i l;injection a with a;subst a;obtain rfl:e=b.cells:=mE k;have c:∀d:aA,aB 1 false (.cells b.cells::d) (.ptr 0 6)=some (.sl (bZ b.ex)):=fun d=>aR (l:=0) rfl rfl;have f:=zr5 (G:=G) j i b (sH l) b.cells (iS b) (fun d=>aR (l:=0) rfl rfl) c b.ex 0 none rfl (by omega) rfl;have g:=fun n=>qO (G:=G) b n;have m:(bZ b.ex).length=b.ex.length:=by simp
    rw[aM];generalize b.cells=e at f c g⊢;generalize bZ b.ex=R at*;simp[Mc.bw,Ks.bw,aC,g,c,aI,m,-aB];simpa using f
   ·cases a
  ·cases a
 ·cases a
end
def GN:List AV->Option AV
 |[.sl b,.bool v]=>match tX b with
  |some a=>if a.length<=big then some (.n (jM (fun u=>v==u) 0 a))else none|none=>none
 |_=>none
theorem zv4(G:Gam)(a:List Bool)(v:Bool)(g:a.length<=big):∀(b:List Bool)(i:Nat),a.drop i=b->i<=a.length->cY G [5] Mc.cd_L0 0 [.blk 0,.seq (.seq (.reg [Kc 4 (-1)]) .ret)] (aD Rs.cd (.n (jM (fun u=>v==u) i b))) [(0,.sl (eJ a)),(1,.bool v),(4,.n 0),(5,.junk),(7,.n a.length),(8,.n i)] []
 |[],i,c,j=>by
  have p:=drop_nil c;have f:i=a.length:=by omega
  subst f;refine aJ (Mc.cd_L0.eq_1) ?_;rw[aQ (n:=0) rfl];simp[jM,aD,Rs.cd]|u::b,i,c,j=>by
  obtain⟨r,l,m⟩:=eT c;have q:ltB (i:Int) (a.length:Int)=true:=aO.2 (by omega);have k:=dT (i:=i) (by omega);have o:(eJ a)[i]?=some [.bool u]:=by simp[eJ,l]
  have e:∀h,bA 1 h (.sl (eJ a)) (.n (i:Int))=some (.fptr [.bool u] 0):=fun h=>by simp[bA,o]
  have n:=zv4 G a v g b (i+1) m (by omega);rw[jM];refine aJ (Mc.cd_L0.eq_1) ?_;rw[aQ (n:=0) rfl];generalize eJ a=R at*;cases d:(v==u)with
  |true=>simp[q,e,d,cut,aE,aD,Rs.cd]|false=>
   simp[q,e,d,cut,aE,k];refine cZ ?_;rw[aQ (n:=0) rfl];simpa using n
theorem yR5{G:Gam}:PW G Mc.cd Rs.cd Ks.cd GN:=by
 intro g r a;unfold GN at a;split at a
 ·rename_i i v;split at a
  ·rename_i b e;split at a
   ·rename_i c;injection a with a;subst a;have:=PB e;subst this;have f:=zv4 G b v c b 0 rfl (by omega);have d:(eJ b).length=b.length:=by simp
    rw[aM];generalize eJ b=R at*;simp[Mc.cd,Ks.cd,aC,aI,d];simpa using f
   ·cases a
  ·cases a
 ·cases a
def GK:List AV->Option AV
 |[.sl b,.bool v]=>match tX b with
  |some a=>if a.length<=big then some (.bool (a.contains v))else none|none=>none
 |_=>none
theorem ys0{G:Gam}(j:G Fn.cd=some (.pure GN)):PW G Mc.dw Rs.dw Ks.dw GK:=by
 intro m r b;unfold GK at b;split at b
 ·rename_i n v;split at b
  ·rename_i a l;split at b
   ·rename_i k;injection b with b;subst b;have:=PB l;subst this;have g:∀f h,opV G f h (.call Fn.cd) (some [.sl (eJ a),.bool v])=some (.n (jM (fun u=>v==u) 0 a),h):=fun f h=>bF j (us:=[.sl (eJ a),.bool v]) rfl (by simp only[GN,PC];rw[if_pos k]) (.inl rfl);have e:a.contains v=!ltB (jM (fun u=>v==u) 0 a) 0:=by
     have c:=UT (p:=fun u=>v==u) a 0;have i:a.any (fun u=>v==u)=a.contains v:=by rw[List.contains_eq_any_beq]
     rw[i]at c;cases d:a.contains v with
     |true=>
      have:ltB (jM (fun u=>v==u) 0 a) 0=false:=bC.2 (c.2 d);rw[this];rfl|false=>
      have:ltB (jM (fun u=>v==u) 0 a) 0=true:=by
       rw[aO];rcases Int.lt_or_le (jM (fun u=>v==u) 0 a) 0 with h|h;·exact h
       ·rw[c.1 h]at d;cases d
      rw[this];rfl
    rw[aM,e];generalize jM (fun u=>v==u) 0 a=x at*;generalize eJ a=R at*;simp[Mc.dw,Ks.dw,aC,g,aD,Rs.dw]
   ·cases b
  ·cases b
 ·cases b
theorem xc6{G:Gam}{j:Bool}{h:aA}{l n a:Nat}{b:List (List AV)}{x y:Int}(e:h[l]?=some (.arr 1 0 b true))(f:n<=b.length)(g:x=a)(i:y=a+4)(k:a+4<=n):opV G j h (.slc (some 1) true true false) (some [.own l 0 n,.n x,.n y])=some (.win l 0 a 4,h):=by
 subst g i;rw[eV rfl];simp only[dH,pV,oN,bD,dE,bY,CA,e,Option.getD_some];rw[if_pos ⟨trivial,trivial,trivial,by omega,by omega,by omega,f⟩];have c:((a:Int)).toNat=a:=by omega
 have d:((a:Int)+4-a).toNat=4:=by omega
 rw[c,d];rfl
theorem xw1{h:aA}{l a:Nat}{b:List Bool}(d:h[l]?=some (.arr 1 0 (eJ b) true))(c:a+4<=b.length)(v:Bool):bU h [.win l 0 a 4,.bool v]=some [.sl (eJ ((b.drop a).take 4)),.bool v]:=by
 have:FW h l 0 a 4=some (eJ ((b.drop a).take 4)):=by
  unfold FW;rw[d];simp only[ZP];rw[if_pos ⟨trivial,c⟩,xv3]
 simp[bU,view,this]
def CI(b:Bin)(c:List Bool)(a:Int):Bool:=inE b.pl a&&!((c.drop a.toNat).take 4).contains true
def uV:List AV->aA->Option (AV×aA)
 |[.n a,.ptr 0 0,.ptr 2 0],h=>match(h[0]?:Option Blk),(h[1]?:Option Blk),(h[2]?:Option Blk)with
  |some (.cellsT _ d),some (.arr 1 0 e true),some (.cellsT _ [.own 1 0 n])=>match mP d,tX e with
   |some b,some c=>if lG b=true/\iJ b=true/\mJ a=true/\n=c.length/\c.length=b.img.length then some (.bool (CI b c a),if CI b c a then h.set 1 (.arr 1 0 (eJ (iW c a.toNat 4)) true)else h)else none|_,_=>none
  |_,_,_=>none
 |_,_=>none
theorem zz1(G:Gam)(h:aA)(c:List Bool)(a n:Nat)(m o p:AV)(g:h[1]?=some (.arr 1 0 (eJ c) true))(tg:Option TypeId)(j:h[2]?=some (.cellsT tg [.own 1 0 n]))(l:n=c.length)(v:a+4<=n)(w:n<=1000000)(t:aA):∀(d i:Nat),i+d=4->cY G [7] Mc.au_L0 h.length [.blk 0,.seq (.seq (.reg [Kb 4 true]) .ret)] (dM Rs.au (.T) (h.set 1 (.arr 1 0 (eJ (iW c a 4)) true))) [(0,.n a),(1,.ptr 0 0),(2,.ptr 2 0),(4,m),(5,o),(6,p),(7,.junk),(42,.n i)] (h.set 1 (.arr 1 0 (eJ (iW c a i)) true))
 |0,i,x=>by
  have r:i=4:=by omega
  subst r;have q:ltB 4 4=false:=rfl;refine aJ (Mc.au_L0.eq_1) ?_;rw[aQ (by simp)];simp[dM,Rs.au]|d+1,i,x=>by
  have q:ltB (i:Int) 4=true:=aO.2 (by omega);have A:=dT (i:=i) (by unfold big;omega);have F:IntKind.i64.wrap ((a:Int)+i)=((a+i:Nat):Int):=by rw[i64_in _ ⟨by omega,by omega⟩];omega
  have z:1<h.length:=(aV.1 g).1;have f:(h.set 1 (.arr 1 0 (eJ (iW c a i)) true))[1]?=some (.arr 1 0 (eJ (iW c a i)) true):=jI z;have u:(h.set 1 (.arr 1 0 (eJ (iW c a i)) true))[2]?=some (.cellsT tg [.own 1 0 n]):=by rw[lL (by omega)];exact j
  have D:aB 1 false (h.set 1 (.arr 1 0 (eJ (iW c a i)) true)) (.ptr 2 0)=some (.own 1 0 n):=by simp[aB,u,cut,aE]
  obtain⟨b,k⟩:=xv1 (us:=iW c a i) (i:=a+i) (by rw[RW];omega);have B:bA 1 (h.set 1 (.arr 1 0 (eJ (iW c a i)) true)) (.own 1 0 n) (.n ((a+i:Nat):Int))=some (.eptr 1 0 (a+i) 0):=PV f (by rw[ZP,RW];exact l) k rfl;have E:∀s,opV G s (h.set 1 (.arr 1 0 (eJ (iW c a i)) true)) (.st 1) (some [.eptr 1 0 (a+i) 0,.T])=some (.junk,h.set 1 (.arr 1 0 (eJ (iW c a (i+1))) true)):=fun s=>by
   rw[WZ (n:=1) (x:=.T) f k rfl (by omega) rfl (by simp) rfl rfl,tP];have e:bK [AV.bool b] 0 (AV.bool true).cells=[.T]:=rfl;rw[e,xv2];rfl
  have C:=zz1 G h c a n m o p g tg j l v w t d (i+1) (by omega);refine aJ (Mc.au_L0.eq_1) ?_;rw[aQ (by simp)];have y:(h.set 1 (.arr 1 0 (eJ (iW c a (i+1))) true)).length=h.length:=by simp
  generalize h.set 1 (.arr 1 0 (eJ (iW c a i)) true)=H at*;generalize h.set 1 (.arr 1 0 (eJ (iW c a (i+1))) true)=I at*;simp[q,D,F,B,E,A,-aB,-Int.natCast_add];refine cZ ?_;rw[aQ y];simpa using C
theorem xs2{G:Gam}(L:G Fn.c4=some (.pure GC))(M:G Fn.dw=some (.pure GK)):GW G Mc.au Rs.au Ks.au uV:=by
 intro b2 h a3 h' c;unfold uV at c;split at c
 ·rename_i a;split at c
  ·rename_i tg i d3 b1 n A j B;split at c
   ·rename_i b g O Y;split at c
    ·rename_i P;obtain⟨T,V,D,S,c3⟩:=P;simp only[aT,dF]at c;obtain⟨rfl,rfl⟩:=c;obtain rfl:i=b.cells:=mE O;have:=PB Y;subst this;have u:=sH T;obtain⟨⟨_,d1⟩,d2,a2⟩:=nM V;have b3:=SB D;have o:aB 8 true h (.ptr 0 0)=some (.agg b.cells):=by simp[aB,A,cut,aE,Bin.cells]
     have w:aB 1 false h (.ptr 0 3)=some (.sl (aK b.pl)):=by simp[aB,A,Bin.cells,cut,aE]
     have H:aB 1 false h (.ptr 2 0)=some (.own 1 0 n):=by simp[aB,B,cut,aE]
     have d:∀e,opV G e h (.call Fn.c4) (some [.agg b.cells,.n a])=some (.tup [.n (if 0<=atI a b.pl then atI a b.pl else 0),.bool (decide (0<=atI a b.pl))],h):=fun e=>bF L (us:=[.agg b.cells,.n a]) (by simp[bU,view,Bin.cells]) (by simp only[GC,jK];rw[if_pos ⟨u.p,D⟩]) (.inl rfl);have Q:1<h.length:=(aV.1 j).1;rw[aM];unfold CI inE;rcases zG2 (a:=a) b.pl 0 with⟨k1,k2⟩|⟨k,p,k1,k2,k3⟩
     ·have k4:atI a b.pl=-1:=k2;rw[k4]at d;have q:decide (0<=(-1:Int))=false:=rfl;rw[q]at d;rw[k1];generalize b.cells=i at*;simp[Mc.au,aC,Ks.au,o,d,dM,Rs.au,-aB]
     ·have k4:atI a b.pl=(k:Int):=by rw[show atI a b.pl=jM (atE a) 0 b.pl from rfl,k3];simp
      rw[k4]at d;have q:decide (0<=(k:Int))=true:=by simp
      have K:(if 0<=(k:Int)then(k:Int)else 0)=k:=if_pos (by omega);rw[q,K]at d;rw[k1];simp only[AG];have E:=fB k2;have U:=qZ a2 p E;have hs:=yP U.1;obtain⟨⟨o1,o2⟩,o3,o4⟩:=KO ((yL u.p).2 p E);have N:atE a p=true:=by
       have:∀l:List Plc,oI a l=some p->atE a p=true:=by
        intro l;induction l with
        |nil=>intro h;cases h|cons e3 a3 ih=>
         intro h;rw[oI]at h;split at h;·rename_i Z;injection h with h;subst h;exact Z
         ·exact ih h
       exact this _ k1
      obtain⟨t1,t2,t3⟩:=IH.1 N;have r1:=yM k2;have W:p.row.length=5:=rfl;have v:bA 5 h (.sl (aK b.pl)) (.n (k:Int))=some (.fptr p.row 0):=by simp[bA,r1,W]
      have r:aB 1 false h (.fptr p.row 3)=some (.n p.pos):=by simp[aB,cut,aE,Plc.row]
      have t:aB 1 false h (.fptr p.row 4)=some (.n p.siz):=by simp[aB,cut,aE,Plc.row]
      have x:IntKind.i64.wrap (a+4)=a+4:=i64_in _ ⟨by omega,by omega⟩;have y:IntKind.i64.wrap (p.pos+p.siz)=p.pos+p.siz:=i64_in _ ⟨by omega,by omega⟩;obtain⟨an,rfl⟩:∃an:Nat,a=an:=⟨a.toNat,by omega⟩;simp only[iG];rcases dD (ltB (p.pos+p.siz) ((an:Int)+4))with f|f
      ·rw[f];generalize b.cells=i at*;generalize aK b.pl=R at*;simp[Mc.au,aC,Ks.au,o,w,d,v,r,t,x,y,f,dM,Rs.au,-aB]
      ·have J:=f;rw[bC]at J;have I:∀e,opV G e h (.slc (some 1) true true false) (some [.own 1 0 n,.n (an:Int),.n ((an:Int)+4)])=some (.win 1 0 an 4,h):=fun e=>xc6 j (by rw[ZP];omega) rfl rfl (by omega);have m:∀e,opV G e h (.call Fn.dw) (some [.win 1 0 an 4,.T])=some (.bool (((g.drop an).take 4).contains true),h):=fun e=>bF M (us:=[.sl (eJ ((g.drop an).take 4)),.T]) (xw1 j (by omega) true) (by simp only[GK,PC];rw[if_pos (by rw[lY];unfold big;omega)]) (.inl rfl);have F:=zz1 G h g an n (.F) (.n k) (.T) j b1 B S (by omega) (by have:=u.img;omega) [] 4 0 rfl;have X:h.set 1 (.arr 1 0 (eJ (iW g an 0)) true)=h:=by
        rw[iW];apply rK;intro a1;rw[iY];by_cases C:1=a1;·subst C;rw[if_pos rfl,if_pos Q,j]
        ·rw[if_neg C]
       rw[X]at F;rw[f];cases z:((g.drop an).take 4).contains true with
       |true=>
        rw[z]at m;generalize b.cells=i at*;generalize aK b.pl=R at*;simp[Mc.au,aC,Ks.au,o,w,H,d,v,r,t,x,y,f,I,m,dM,Rs.au,-aB]|false=>
        rw[z]at m;simp only[iF,xJ,bD];generalize b.cells=i at*;generalize aK b.pl=R at*;generalize h.set 1 (.arr 1 0 (eJ (iW g an 4)) true)=H4 at*;simp[Mc.au,aC,Ks.au,o,w,H,d,v,r,t,x,y,f,I,m,-aB];simpa using F
    ·cases c
   ·cases c
  ·cases c
 ·cases c
abbrev WH(b:List AV)(a:List Bool):aA:=[.cells b,.arr 1 0 (eJ a) true,.cells [.own 1 0 a.length]]
theorem zG3{a:Int}{p:Plc}:∀{l:List Plc},oI a l=some p->p∈l/\atE a p=true
 |[],h=>by cases h|x::r,h=>by
  rw[oI]at h;split at h;·rename_i b;injection h with h;subst h;exact⟨qK,b⟩
  ·have:=zG3 h;exact⟨rO _ this.1,this.2⟩
theorem PZ{b:Bin}(h:iJ b=true){a:Int}(c:inE b.pl a=true):0<=a/\a+4<=b.img.length:=by
 unfold inE at c;cases d:oI a b.pl with
 |none=>rw[d]at c;cases c|some p=>
  rw[d]at c;simp only[AG,lK,bC]at c;obtain⟨f,e⟩:=zG3 d;obtain⟨g,i,j⟩:=IH.1 e;have:=qZ (nM h).2.2 p f;omega
theorem xs0{b:Bin}(h:iJ b=true)(S:List Int)(a:Int):CI b (bmU b.img.length S) a=kW b.pl S a:=by
 unfold CI kW;rcases dD (inE b.pl a)with c|c
 ·obtain⟨d,e⟩:=PZ h c;obtain⟨n,rfl⟩:∃n:Nat,a=n:=⟨a.toNat,by omega⟩;rw[c,iG,yj9 (by omega),Bool.not_not]
 ·rw[c];rfl
theorem zQ4{G:Gam}(g:G Fn.au=some (.gen uV)){b:Bin}(k:lG b=true)(f:iJ b=true)(S:List Int){a:Int}(i:mJ a=true)(d:aA):eD G Fn.au [.n a,.ptr 0 0,.ptr 2 0] (WH b.cells (bmU b.img.length S)++d)=some (.bool (kW b.pl S a),if kW b.pl S a then WH b.cells (bmU b.img.length (S++[a]))++d else WH b.cells (bmU b.img.length S)++d):=by
 rw[lB g];have e:uV [.n a,.ptr 0 0,.ptr 2 0] (WH b.cells (bmU b.img.length S)++d)=some (.bool (CI b (bmU b.img.length S) a),if CI b (bmU b.img.length S) a then(WH b.cells (bmU b.img.length S)++d).set 1 (.arr 1 0 (eJ (iW (bmU b.img.length S) a.toNat 4)) true)else WH b.cells (bmU b.img.length S)++d):=by
  simp only[uV,WH,tL,tM,mM,jK,PC];rw[if_pos ⟨k,f,i,by simp,by simp⟩]
 rw[e,xs0 f];rcases dD (kW b.pl S a)with c|c
 ·have j:inE b.pl a=true:=by unfold kW at c;rw[bS]at c;exact c.1
  obtain⟨l,m⟩:=PZ f j;obtain⟨n,rfl⟩:∃n:Nat,a=n:=⟨a.toNat,by omega⟩;rw[c,iG,yj8];simp
 ·rw[c];simp
theorem SK{G:Gam}(c:G Fn.cw=some (.pure xB)){s:Bs}{a:Int}(b:0<=a)(e:a+4<=s.length)(f:s.length<=1000000)(d:Bool)(h:aA):opV G d h (.call Fn.cw) (some [.str s,.n a])=some (.n (kN s a.toNat),h):=bF c (us:=[.str s,.n a]) rfl (by simp only[xB];rw[if_pos ⟨b,by omega,by unfold big;omega⟩]) (.inl rfl)
theorem zT9{a:List AV}{b:List Bool}{c:List (Nat×AV)}{d:aA}(f:bW 3 c=true)(e:∀n,bN n a=true):trunc 3 c (WH a b++d)=WH a b:=sP (a:=WH a b) (b:=d) rfl f (by simp[cV,gD,bN,low,e 3])
theorem zt5{G N:Gam}(hT:G Fn.au=some (.gen uV))(U:G Fn.cw=some (.pure xB))(hC:G Fn.cl=some (.gen (cJ (oQ true 5 N))))(h1:N Fn.cz=some (.gen (cJ DG)))(b:Bin)(Y:lG b=true)(a1:iJ b=true)(R:Bool)(X:Bool){ks:List MK}(hk:R=X->∀c3,exM G .normal ks (aD Rs.al (.bool R)) c3 [(0,.agg b.cells),(1,.ptr 0 0),(2,.F),(3,.ptr 2 0),(4,.fn Fn.au [.ptr 0 0,.ptr 2 0]),(5,.junk),(6,.junk),(7,.junk),(8,.junk),(9,.junk),(16,.sl (bO b.fx)),(17,.n b.fx.length),(18,.n b.fx.length),(52,.junk),(53,.junk),(54,.junk)] (WH b.cells (bmU b.img.length b.fx))):∀(L:List Int)(i:Nat),b.fx.drop i=L->i<=b.fx.length->R=(fxP b (b.fx.take i) L&&X)->cY G [5,6,7] Mc.al_L0 3 (.blk 0::ks) (aD Rs.al (.bool R)) [(0,.agg b.cells),(1,.ptr 0 0),(2,.F),(3,.ptr 2 0),(4,.fn Fn.au [.ptr 0 0,.ptr 2 0]),(5,.junk),(6,.junk),(7,.junk),(8,.junk),(9,.junk),(16,.sl (bO b.fx)),(17,.n b.fx.length),(18,.n i),(52,.junk),(53,.junk),(54,.junk)] (WH b.cells (bmU b.img.length (b.fx.take i)))
 |[],i,W,hi,d=>by
  have f3:=drop_nil W;have ei:i=b.fx.length:=by omega
  subst ei;rw[kE]at d⊢;simp only[fxP,eF]at d;have d3:=hk d;refine aJ (Mc.al_L0.eq_1) ?_;rw[aQ (n:=3) rfl];generalize WH b.cells (bmU b.img.length b.fx)=f1 at*;simp;exact d3 _|a::L,i,W,hi,d=>by
  obtain⟨g1,hx,e3⟩:=eT W;have B:=sH Y;have ha:=B.fx a (fB hx);have hb:=B.fxl;have g2:=(yL B.p).1;have q:ltB (i:Int) (b.fx.length:Int)=true:=aO.2 (by omega);have hw:=dT (i:=i) (by unfold big;omega);have r1:=JO hx;have r:∀h,bA 1 h (.sl (bO b.fx)) (.n (i:Int))=some (.fptr [.n a] 0):=fun h=>by simp[bA,r1,eC]
  have u:∀h a2,aB 1 false h (.fptr [.n a2] 0)=some (.n a2):=fun h a2=>by simp[aB,cut,aE]
  obtain⟨S,H⟩:∃S,S=b.fx.take i:=⟨_,rfl⟩;rw[<-H]at d⊢;have d2:b.fx.take (i+1)=S++[a]:=by rw[xO,hx,H];rfl
  have ih:=zt5 hT U hC h1 b Y a1 R X hk L (i+1) e3 (by omega);rw[d2]at ih;have f:=zQ4 (G:=G) hT Y a1 S ha [];simp only[dY]at f;have ge:∀e(g:aA),aB 1 false (WH b.cells e++g) (.ptr 0 4)=some (.sl (bO b.fx)):=fun e g=>aR (l:=0) rfl rfl;have gi:∀e(g:aA),aB 1 false (WH b.cells e++g) (.ptr 0 2)=some (.str b.img):=fun e g=>aR (l:=0) rfl rfl;have gp:∀e(g:aA),aB 1 false (WH b.cells e++g) (.ptr 0 3)=some (.sl (aK b.pl)):=fun e g=>aR (l:=0) rfl rfl;rw[fxP]at d;have b3:=iS b;have fin:∀e(P:List (Nat×AV))(g:aA),bW 3 P=true->trunc 3 P (WH b.cells e++g)=WH b.cells e:=fun e P g hf=>zT9 hf b3;have b1:∀(e:List Bool)(n:Int),opV G false (WH b.cells e++[.cells [.n n]]) (.call Fn.cl) (some [.sl (aK b.pl),.fn Fn.cz [.ptr 3 0]])=some (.bool (b.pl.any (fun p=>p.pos==n)),WH b.cells e++[.cells [.n n]]):=fun e n=>TZ (G0:=N) (xs:=b.pl) (e:=Plc.row) (val:=fun d1=>.agg d1.row) (agg:=true) (n:=5) hC (by unfold big;omega) WJ fun f2 hg=>by
    refine DS ?_;simp only[eD,h1,cJ,DG,OZ,WH,tL,kZ,tM,mM];rfl
  have c1:kW b.pl S a=true->0<=a/\a+4<=b.img.length:=fun k=>by unfold kW at k;rw[bS]at k;exact PZ a1 k.1
  have a3:∀e m,opV G m (WH b.cells e) (.alloc [.n 0]) (some [])=some (.ptr 3 0,WH b.cells e++[.cells [.n 0]]):=fun e m=>by rw[eG rfl];rfl
  have c2:∀e n,aU 1 (WH b.cells e++[.cells [.n 0]]) (.ptr 3 0) (.n n)=some (WH b.cells e++[.cells [.n n]]):=fun e n=>by simp[aU,bK]
  have F:=fun e=>ge e [];have Q:=fun e=>gi e [];simp only[dY]at F Q;refine aJ (Mc.al_L0.eq_1) ?_;rw[aQ (n:=3) rfl];have b2:=b3 3;have e1:(i=0/\S.getLast?.any (fun l=>!ltB l a)=false)\/∃j l,i=j+1/\b.fx[j]?=some l/\S.getLast?.any (fun l=>!ltB l a)=!ltB l a:=by cases i with
   |zero=>left;refine⟨rfl,?_⟩;rw[H];rfl|succ j=>
    right;have I:j<b.fx.length:=by omega
    refine⟨j,b.fx[j],rfl,jT I,?_⟩;rw[H,List.getLast?_take];simp[jT I]
  generalize hR:bO b.fx=RF at*;generalize aK b.pl=RP at*;rcases e1 with⟨rfl,Z⟩|⟨j,l,rfl,I,Z⟩
  ·rw[Z]at d;simp only[iF,eF]at d;simp only[kY]at q r hw⊢;have w1:IntKind.i64.wrap 1=1:=rfl;rcases dD (kW b.pl S a)with k|k
   ·obtain⟨T,h4⟩:=c1 k;rw[k]at f d;simp only[eF,bD]at f d;have y:=fun m h=>SK (G:=G) U T h4 B.img m h;generalize e2:(kN b.img a.toNat:Int)=v at*;have V:=fun e=>b1 e v;have z:=Q (bmU b.img.length (S++[a]));have A:=fun g=>gp (bmU b.img.length (S++[a])) g;have x:=fun m=>a3 (bmU b.img.length (S++[a])) m;have C:=c2 (bmU b.img.length (S++[a])) v;have o:=V (bmU b.img.length (S++[a]));have O:=fin (bmU b.img.length (S++[a]));generalize WH b.cells (bmU b.img.length S)=D at*;generalize WH b.cells (bmU b.img.length (S++[a]))=H1 at*;generalize b.cells=E at*;rcases dD (b.pl.any (fun p=>p.pos==v))with c|c
    ·rw[c]at o d;simp only[eF]at d;simp[q,r,u,f,z,y,x,C,A,o,w1,-aB,-bB,-fQ];refine cZ ?_;rw[O _ _ (by simp[bW,low,bN,b2])];simpa using ih d
    ·rw[c]at o d;simp only[eW]at d;subst d;simp[q,r,u,f,z,y,x,C,A,o,aD,Rs.al,-aB,-bB,-fQ]
   ·rw[k]at f d;simp only[eW]at d;simp only[dE,bY]at f;subst d;generalize WH b.cells (bmU b.img.length S)=D at*;generalize b.cells=E at*;simp[q,r,u,f,aD,Rs.al,-aB,-bB,-fQ]
  ·have K:ltB 0 ((j:Int)+1)=true:=aO.2 (by omega);have M:IntKind.i64.wrap (j:Int)=j:=i64_in _ ⟨by omega,by omega⟩;have r2:=JO I;rw[hR]at r2;have J:∀h,bA 1 h (.sl RF) (.n (j:Int))=some (.fptr [.n l] 0):=fun h=>by simp[bA,r2,eC]
   simp only[Int.natCast_add,Int.natCast_one]at r q hw⊢;rw[Z]at d;rcases dD (ltB l a)with t|t
   ·rw[t]at d;simp only[nG,iF,eF]at d;rcases dD (kW b.pl S a)with k|k
    ·obtain⟨T,h4⟩:=c1 k;rw[k]at f d;simp only[eF,bD]at f d;have y:=fun m h=>SK (G:=G) U T h4 B.img m h;generalize e2:(kN b.img a.toNat:Int)=v at*;have V:=fun e=>b1 e v;have w:=F (bmU b.img.length S);have z:=Q (bmU b.img.length (S++[a]));have A:=fun g=>gp (bmU b.img.length (S++[a])) g;have x:=fun m=>a3 (bmU b.img.length (S++[a])) m;have C:=c2 (bmU b.img.length (S++[a])) v;have o:=V (bmU b.img.length (S++[a]));have O:=fin (bmU b.img.length (S++[a]));generalize WH b.cells (bmU b.img.length S)=D at*;generalize WH b.cells (bmU b.img.length (S++[a]))=H1 at*;generalize b.cells=E at*;rcases dD (b.pl.any (fun p=>p.pos==v))with c|c
     ·rw[c]at o d;simp only[eF]at d;simp[q,r,u,K,M,w,J,t,f,z,y,x,C,A,o,hw,-aB,-bB,-fQ];refine cZ ?_;rw[O _ _ (by simp[bW,low,bN,b2])];simpa using ih d
     ·rw[c]at o d;simp only[eW]at d;subst d;simp[q,r,u,K,M,w,J,t,f,z,y,x,C,A,o,aD,Rs.al,-aB,-bB,-fQ]
    ·rw[k]at f d;simp only[eW]at d;simp only[dE,bY]at f;subst d;have w:=F (bmU b.img.length S);generalize WH b.cells (bmU b.img.length S)=D at*;generalize b.cells=E at*;simp[q,r,u,K,M,w,J,t,f,aD,Rs.al,-aB,-bB,-fQ]
   ·rw[t]at d;simp only[nG,iF,eW]at d;subst d;have w:=F (bmU b.img.length S);generalize WH b.cells (bmU b.img.length S)=D at*;generalize b.cells=E at*;simp[q,r,u,K,M,w,J,t,aD,Rs.al,-aB,-bB,-fQ]
theorem gZ{G:Gam}{s:Bool}{h:aA}{f:FuncId}{b a:List AV}:opV G s h .callv (some (.fn f b::a))=eD G f (a++b) h:=by cases s<;>rfl
theorem yk1{G:Gam}(a:G Fn.bl=some (.pure tA)){s:Bs}(c:s.length<=100000)(b:Bool)(h:aA):opV G b h (.call Fn.bl) (some [.str s])=some (.bool (eY s),h):=bF a (us:=[.str s]) rfl (by simp only[tA];rw[if_pos (by omega)]) (.inl rfl)
theorem zw2{G:Gam}(hT:G Fn.au=some (.gen uV))(U:G Fn.cw=some (.pure xB))(hP:G Fn.bl=some (.pure tA))(hN:G Fn.be=some (.pure iL))(b:Bin)(Z:lG b=true)(a1:iJ b=true)(R:Bool)(a3 b1 b2:AV)(W:low 3 a3=true)(X:low 3 b1=true)(Y:low 3 b2=true):∀(P:List Imp)(i:Nat)(T:List Int),b.im.drop i=P->i<=b.im.length->T=(b.im.take i).map Imp.pos->R=imP b T P->cY G [8,9] Mc.al_L1 3 [.blk 2,.seq (.seq (.reg [Kb 2 true]) .ret)] (aD Rs.al (.bool R)) [(0,.agg b.cells),(1,.ptr 0 0),(2,.F),(3,.ptr 2 0),(4,.fn Fn.au [.ptr 0 0,.ptr 2 0]),(5,.junk),(6,.junk),(7,.junk),(8,.junk),(9,.junk),(16,a3),(17,b1),(18,b2),(52,.sl (bP b.im)),(53,.n b.im.length),(54,.n i)] (WH b.cells (bmU b.img.length (b.fx++T)))
 |[],i,T,V,hi,M,a=>by
  have i2:=drop_nil V;have ei:i=b.im.length:=by omega
  subst ei;simp only[imP]at a;subst a;refine aJ (Mc.al_L1.eq_1) ?_;rw[aQ (n:=3) rfl];generalize WH b.cells (bmU b.img.length (b.fx++T))=i1 at*;simp[aD,Rs.al]|x::P,i,T,V,hi,M,a=>by
  obtain⟨i3,hx,h2⟩:=eT V;have O:=sH Z;obtain⟨xl,xs,xp⟩:=O.im x (fB hx);have hb:=O.iml;have q:ltB (i:Int) (b.im.length:Int)=true:=aO.2 (by omega);have hw:=dT (i:=i) (by unfold big;omega);have r1:=JT hx;have f2:x.row.length=3:=rfl;have g:∀h,bA 3 h (.sl (bP b.im)) (.n (i:Int))=some (.fptr x.row 0):=fun h=>by simp[bA,r1,f2]
  have n:∀h,aB 3 true h (.fptr x.row 0)=some (.agg x.row):=fun h=>by simp[aB,cut,aE,Imp.row]
  have e3:T++[x.pos]=(b.im.take (i+1)).map Imp.pos:=by rw[xO,hx,M];simp
  have ih:=zw2 hT U hP hN b Z a1 R a3 b1 b2 W X Y P (i+1) (T++[x.pos]) h2 (by omega) e3;have d:=zQ4 (G:=G) hT Z a1 (b.fx++T) xp [.cells x.row];rw[iN]at d;have ge:∀c(z:aA),aB 1 false (WH b.cells c++z) (.ptr 0 5)=some (.sl (bP b.im)):=fun c z=>aR (l:=0) rfl rfl;have gi:∀c(z:aA),aB 1 false (WH b.cells c++z) (.ptr 0 2)=some (.str b.img):=fun c z=>aR (l:=0) rfl rfl;have g0:∀c,aB 1 false (WH b.cells c++[.cells x.row]) (.ptr 3 0)=some (.str x.lib):=fun c=>aR (l:=3) rfl rfl;have g1:∀c,aB 1 false (WH b.cells c++[.cells x.row]) (.ptr 3 1)=some (.str x.sym):=fun c=>aR (l:=3) rfl rfl;have g2:∀c,aB 1 false (WH b.cells c++[.cells x.row]) (.ptr 3 2)=some (.n x.pos):=fun c=>aR (l:=3) rfl rfl;rw[imP]at a;have d2:=iS b;have fin:∀c(Q:List (Nat×AV))(z:aA),bW 3 Q=true->trunc 3 Q (WH b.cells c++z)=WH b.cells c:=fun c Q z hf=>zT9 hf d2;have d3:kW b.pl (b.fx++T) x.pos=true->0<=x.pos/\x.pos+4<=b.img.length:=fun f=>by unfold kW at f;rw[bS]at f;exact PZ a1 f.1
  have e1:∀c k,opV G k (WH b.cells c) (.alloc [.str [],.str [],.n 0]) (some [])=some (.ptr 3 0,WH b.cells c++[.cells [.str [],.str [],.n 0]]):=fun c k=>by rw[eG rfl];rfl
  have h3:∀c,aU 3 (WH b.cells c++[.cells [.str [],.str [],.n 0]]) (.ptr 3 0) (.agg x.row)=some (WH b.cells c++[.cells x.row]):=fun c=>by simp[aU,bK,Imp.row]
  have p:=fun k h=>yk1 (G:=G) hP xl k h;have u:=fun k h=>SG (G:=G) hN xs k h;refine aJ (Mc.al_L1.eq_1) ?_;rw[aQ (n:=3) rfl];have d1:=d2 3;have f1:(i=0/\T.getLast?.any (fun a2=>!ltB a2 x.pos)=false)\/∃j y,i=j+1/\b.im[j]?=some y/\T.getLast?.any (fun a2=>!ltB a2 x.pos)=!ltB y.pos x.pos:=by cases i with
   |zero=>left;refine⟨rfl,?_⟩;rw[M];rfl|succ j=>
    right;have N:j<b.im.length:=by omega
    refine⟨j,b.im[j],rfl,jT N,?_⟩;rw[M,List.getLast?_map,List.getLast?_take];simp[jT N]
  generalize hR:bP b.im=RF at*;have l:=fun k=>e1 (bmU b.img.length (b.fx++T)) k;have o:=h3 (bmU b.img.length (b.fx++T));have m:=g2 (bmU b.img.length (b.fx++T));have C:=ge (bmU b.img.length (b.fx++T)) [.cells x.row];have w:=g2 (bmU b.img.length (b.fx++(T++[x.pos])));have L:=g1 (bmU b.img.length (b.fx++(T++[x.pos])));have D:=g0 (bmU b.img.length (b.fx++(T++[x.pos])));have v:=gi (bmU b.img.length (b.fx++(T++[x.pos]))) [.cells x.row];have b3:=fin (bmU b.img.length (b.fx++(T++[x.pos])));rcases f1 with⟨rfl,hp⟩|⟨j,y,rfl,N,hp⟩
  ·rw[hp]at a;simp only[iF,eF]at a;simp only[kY]at q g hw⊢;have w1:IntKind.i64.wrap 1=1:=rfl;rcases dD (kW b.pl (b.fx++T) x.pos)with f|f
   ·obtain⟨S,h4⟩:=d3 f;rw[f]at d a;simp only[eF,bD]at d a;have t:=fun k h=>SK (G:=G) U S h4 O.img k h;generalize h1:(kN b.img x.pos.toNat:Int)=wn at*;generalize e2:WH b.cells (bmU b.img.length (b.fx++(T++[x.pos])))=H1 at*;generalize WH b.cells (bmU b.img.length (b.fx++T))=J at*;generalize b.cells=K at*;rcases dD (eqB wn 0)with e|e
    ·rw[e]at a;simp only[eF]at a;rcases dD (eY x.lib)with A|A
     ·rw[A]at a p;simp only[eF]at a;rcases dD (gN x.sym)with B|B
      ·rw[B]at a u;simp only[eF]at a;simp[q,g,n,l,o,m,gZ,d,v,w,L,D,t,e,p,u,w1,-aB,-bB,-fQ];refine cZ ?_;rw[b3 _ _ (by simp[bW,low,bN,d1,W,X,Y])];simpa using ih a
      ·rw[B]at a u;simp only[eW]at a;subst a;simp[q,g,n,l,o,m,gZ,d,v,w,L,D,t,e,p,u,aD,Rs.al,-aB,-bB,-fQ]
     ·rw[A]at a p;simp only[eW]at a;subst a;simp[q,g,n,l,o,m,gZ,d,v,w,D,t,e,p,aD,Rs.al,-aB,-bB,-fQ]
    ·rw[e]at a;simp only[eW]at a;subst a;simp[q,g,n,l,o,m,gZ,d,v,w,t,e,aD,Rs.al,-aB,-bB,-fQ]
   ·rw[f]at d a;simp only[eW]at a;simp only[dE,bY]at d;subst a;generalize WH b.cells (bmU b.img.length (b.fx++T))=J at*;generalize b.cells=K at*;simp[q,g,n,l,o,m,gZ,d,aD,Rs.al,-aB,-bB,-fQ]
  ·have H:ltB 0 ((j:Int)+1)=true:=aO.2 (by omega);have I:IntKind.i64.wrap (j:Int)=j:=i64_in _ ⟨by omega,by omega⟩;have r2:=JT N;rw[hR]at r2;have f3:y.row.length=3:=rfl;have E:∀h,bA 3 h (.sl RF) (.n (j:Int))=some (.fptr y.row 0):=fun h=>by simp[bA,r2,f3]
   have F:∀h,aB 1 false h (.fptr y.row 2)=some (.n y.pos):=fun h=>by simp[aB,cut,aE,Imp.row]
   simp only[Int.natCast_add,Int.natCast_one]at g q hw⊢;rw[hp]at a;rcases dD (ltB y.pos x.pos)with r|r
   ·rw[r]at a;simp only[nG,iF,eF]at a;rcases dD (kW b.pl (b.fx++T) x.pos)with f|f
    ·obtain⟨S,h4⟩:=d3 f;rw[f]at d a;simp only[eF,bD]at d a;have t:=fun k h=>SK (G:=G) U S h4 O.img k h;generalize h1:(kN b.img x.pos.toNat:Int)=wn at*;generalize e2:WH b.cells (bmU b.img.length (b.fx++(T++[x.pos])))=H1 at*;generalize WH b.cells (bmU b.img.length (b.fx++T))=J at*;generalize b.cells=K at*;rcases dD (eqB wn 0)with e|e
     ·rw[e]at a;simp only[eF]at a;rcases dD (eY x.lib)with A|A
      ·rw[A]at a p;simp only[eF]at a;rcases dD (gN x.sym)with B|B
       ·rw[B]at a u;simp only[eF]at a;simp[q,g,n,l,o,m,C,H,I,E,F,r,gZ,d,v,w,L,D,t,e,p,u,hw,-aB,-bB,-fQ];refine cZ ?_;rw[b3 _ _ (by simp[bW,low,bN,d1,W,X,Y])];simpa using ih a
       ·rw[B]at a u;simp only[eW]at a;subst a;simp[q,g,n,l,o,m,C,H,I,E,F,r,gZ,d,v,w,L,D,t,e,p,u,aD,Rs.al,-aB,-bB,-fQ]
      ·rw[A]at a p;simp only[eW]at a;subst a;simp[q,g,n,l,o,m,C,H,I,E,F,r,gZ,d,v,w,D,t,e,p,aD,Rs.al,-aB,-bB,-fQ]
     ·rw[e]at a;simp only[eW]at a;subst a;simp[q,g,n,l,o,m,C,H,I,E,F,r,gZ,d,v,w,t,e,aD,Rs.al,-aB,-bB,-fQ]
    ·rw[f]at d a;simp only[eW]at a;simp only[dE,bY]at d;subst a;generalize WH b.cells (bmU b.img.length (b.fx++T))=J at*;generalize b.cells=K at*;simp[q,g,n,l,o,m,C,H,I,E,F,r,gZ,d,aD,Rs.al,-aB,-bB,-fQ]
   ·rw[r]at a;simp only[nG,iF,eW]at a;subst a;generalize WH b.cells (bmU b.img.length (b.fx++T))=J at*;generalize b.cells=K at*;simp[q,g,n,l,o,m,C,H,I,E,F,r,aD,Rs.al,-aB,-bB,-fQ]
def tC:List AV->Option AV
 |[.agg a]=>match mP a with
  |some b=>if lG b=true/\iJ b=true then some (.bool (oO b))else none|none=>none
 |_=>none
theorem xx2{G G0:Gam}(i:G Fn.au=some (.gen uV))(j:G Fn.cw=some (.pure xB))(w:G Fn.bl=some (.pure tA))(v:G Fn.be=some (.pure iL))(u:G Fn.cl=some (.gen (cJ (oQ true 5 G0))))(t:G0 Fn.cz=some (.gen (cJ DG))):PW G Mc.al Rs.al Ks.al tC:=by
 intro S r a;unfold tC at a;split at a
 ·rename_i g;split at a
  ·rename_i b y;split at a
   ·rename_i D;injection a with a;subst a;obtain⟨f,k⟩:=D;obtain rfl:g=b.cells:=mE y;have H:=sH f;have V:=H.img;have m:=zw2 (G:=G) i j w v b f k (oO b) (.sl (bO b.fx)) (.n b.fx.length) (.n b.fx.length) rfl rfl rfl b.im 0 [] rfl (by omega) rfl;have J:∀d(c:aA),aB 1 false (WH b.cells d++c) (.ptr 0 5)=some (.sl (bP b.im)):=fun d c=>aR (l:=0) rfl rfl;have I:∀d(c:aA),aB 1 false (WH b.cells d++c) (.ptr 0 4)=some (.sl (bO b.fx)):=fun d c=>aR (l:=0) rfl rfl;have B:(bP b.im).length=b.im.length:=by simp
    have z:(bO b.fx).length=b.fx.length:=by simp
    have o:=J (bmU b.img.length b.fx) [];have n:=I (bmU b.img.length []) [];have l:=fun C=>zt5 (G:=G) i j u t b f k (oO b) (imP b [] b.im) (ks:=[.seq (.seq (.seq (.reg [zf 51 5 1,Kl 52 51,Kn 53 1 52,Kc 54 0]) (.blk 2 (.loop [8,9] Mc.al_L1))) (.seq (.reg [Kb 2 true]) .ret))]) C b.fx 0 rfl (by omega) rfl;have L:=fun e=>qO (G:=G) b e;have q:∀c:aA,aB 1 false (.cells b.cells::c) (.ptr 0 2)=some (.str b.img):=fun c=>aR (l:=0) rfl rfl;have K:∀e,opV G e [.cells b.cells] (.mksl [.F] 1) (some [.n (b.img.length:Nat),.n (b.img.length:Nat)])=some (.own 1 0 b.img.length,[.cells b.cells,.arr 1 0 (eJ (bmU b.img.length [])) true]):=fun e=>by
     rw[QY (by unfold bT;omega) (by unfold bT;omega),yj7];simp[eJ,List.map_replicate]
    have p:[Blk.cells b.cells,.arr 1 0 (eJ (bmU b.img.length [])) true,.cells [.own 1 0 b.img.length]]=WH b.cells (bmU b.img.length []):=by simp[WH]
    have M:aU 1 [Blk.cells b.cells,.arr 1 0 (eJ (bmU b.img.length [])) true,.cells [.nils]] (.ptr 2 0) (.own 1 0 b.img.length)=some (WH b.cells (bmU b.img.length [])):=by rw[<-p];simp[aU,bK]
    rw[aM];have E:(WH b.cells (bmU b.img.length [])).length=3:=rfl;have F:(WH b.cells (bmU b.img.length b.fx)).length=3:=rfl;simp only[dY]at o n m;rw[lA]at l;generalize U:eJ (bmU b.img.length [])=A at*;generalize WH b.cells (bmU b.img.length [])=N at*;generalize WH b.cells (bmU b.img.length b.fx)=O at*;generalize b.cells=g at*;generalize bP b.im=Q at*;generalize bO b.fx=P at*;simp[Mc.al,Ks.al,aC,L,q,aI,K,M,n,z,E,-aB,-bB];refine l fun x T=>?_;simp[o,aI,B,F,-aB];simpa using m x
   ·cases a
  ·cases a
 ·cases a
theorem qM(b:Bin)(h:aA):bU h [.agg b.cells]=some [.agg b.cells]:=by simp[bU,view,Bin.cells]
theorem AM{b:Bin}(a:aA):aB 8 true (.cells b.cells::a) (.ptr 0 0)=some (.agg b.cells):=by simp[aB,cut,aE,Bin.cells]
theorem QR{a:Type}(l:List a):eqB (l.length:Int) 0=l.isEmpty:=by cases l with
 |nil=>rfl|cons _ r=>exact eU.2 (by simp;omega)
def kX:List AV->Option AV
 |[.agg a]=>match mP a with
  |some b=>if lG b=true then some (.n (gS b))else none|none=>none
 |_=>none
theorem zV5{G:Gam}(J:G Fn.a2=some (.pure tB))(K:G Fn.al=some (.pure tC))(I:G Fn.ca=some (.pure GP))(L:G Fn.bw=some (.pure GM)):PW G Mc.ab Rs.ab Ks.ab kX:=by
 intro W r k;unfold kX at k;split at k
 ·rename_i q;split at k
  ·rename_i b M;split at k
   ·rename_i t;injection k with k;subst k;obtain rfl:q=b.cells:=mE M;have D:=sH t;have i:=fun e=>qO (G:=G) b e;have g:=AM (b:=b) [];have c:∀e h,opV G e h (.call Fn.a2) (some [.agg b.cells])=some (.bool (iJ b),h):=fun e h=>bF J (us:=[.agg b.cells]) (qM b h) (by simp only[tB,jK];rw[if_pos t]) (.inl rfl);have B:∀e h,opV G e h (.call Fn.bw) (some [.agg b.cells])=some (.bool (exP b.pl none b.ex),h):=fun e h=>bF L (us:=[.agg b.cells]) (qM b h) (by simp only[GM,jK];rw[if_pos t]) (.inl rfl);have f:∀e h,opV G e h (.call Fn.ca) (some [.sl (dK b.nt)])=some (.bool (kT [] b.nt&&!ltB 64 b.nt.length),h):=fun e h=>bF I (us:=[.sl (dK b.nt)]) rfl (by
     simp only[GP,yv4];rw[if_pos];unfold ntS;simp only[bS,fU,gV];exact⟨D.ntl,D.nt⟩) (.inl rfl);have l:∀a:aA,aB 1 false (.cells b.cells::a) (.ptr 0 0)=some (.n b.kind):=fun a=>aR (l:=0) rfl rfl;have m:∀a:aA,aB 1 false (.cells b.cells::a) (.ptr 0 1)=some (.n b.entry):=fun a=>aR (l:=0) rfl rfl;have w:∀a:aA,aB 1 false (.cells b.cells::a) (.ptr 0 3)=some (.sl (aK b.pl)):=fun a=>aR (l:=0) rfl rfl;have x:∀a:aA,aB 1 false (.cells b.cells::a) (.ptr 0 5)=some (.sl (bP b.im)):=fun a=>aR (l:=0) rfl rfl;have C:∀a:aA,aB 1 false (.cells b.cells::a) (.ptr 0 6)=some (.sl (bZ b.ex)):=fun a=>aR (l:=0) rfl rfl;have j:∀a:aA,aB 1 false (.cells b.cells::a) (.ptr 0 7)=some (.sl (dK b.nt)):=fun a=>aR (l:=0) rfl rfl;rw[aM];unfold gS tU;rcases dD (iJ b)with n|n
    ·have d:∀e h,opV G e h (.call Fn.al) (some [.agg b.cells])=some (.bool (oO b),h):=fun e h=>bF K (us:=[.agg b.cells]) (qM b h) (by simp only[tC,jK];rw[if_pos ⟨t,n⟩]) (.inl rfl);rw[n]at c⊢;rcases dD (oO b)with u|u
     ·rw[u]at d⊢;rcases dD (kT [] b.nt&&!ltB 64 (b.nt.length:Nat))with o|o
      ·rw[o]at f;have v:=o;rw[bS]at v;rw[v.1,v.2];obtain⟨p,r,E⟩:∃p r,b.pl=p::r:=by
        have:=(nM n).1.1;cases h:b.pl with
        |nil=>rw[h]at this;simp at this|cons p r=>exact⟨p,r,rfl⟩
       have O:aK b.pl=p.row::aK r:=by rw[E];rfl
       have P:p.row.length=5:=rfl;have z:∀h,bA 5 h (.sl (aK b.pl)) (.n 0)=some (.fptr p.row 0):=fun h=>by rw[O];simp[bA,P]
       have y:∀h,aB 1 false h (.fptr p.row 2)=some (.n p.kd):=fun h=>by simp[aB,cut,aE,Plc.row]
       have N:(b.pl.head?.any fun p=>eqB p.kd 1)=eqB p.kd 1:=by rw[E];rfl
       rw[N,<-QR,<-QR];have F:((bZ b.ex).length:Int)=(b.ex.length:Int):=by simp
       have A:((bP b.im).length:Int)=(b.im.length:Int):=by simp
       generalize aK b.pl=U at*;generalize bP b.im=T at*;generalize bZ b.ex=V at*;generalize dK b.nt=H at*;generalize b.cells=q at*;generalize exP b.pl none b.ex=S at*;generalize(b.ex.length:Int)=Q at*;generalize(b.im.length:Int)=nm at*;rcases dD (eqB b.kind 1)with k1|k1
       ·have k2:eqB b.kind 2=false:=by rw[gW]at k1;exact eU.2 (by omega)
        rw[k1,k2];rcases dD (eqB b.entry 0)with k3|k3
        ·rw[k3];rcases dD (eqB p.kd 1)with k4|k4
         ·rw[k4];rcases dD (eqB Q 0)with k5|k5;·simp[Mc.ab,Ks.ab,aC,i,g,c,d,f,l,m,w,C,j,z,y,aI,F,k1,k3,k4,k5,aD,Rs.ab,-aB]
          ·simp[Mc.ab,Ks.ab,aC,i,g,c,d,f,l,m,w,C,j,z,y,aI,F,k1,k2,k3,k4,k5,aD,Rs.ab,-aB]
         ·rw[k4];simp[Mc.ab,Ks.ab,aC,i,g,c,d,f,l,m,w,j,z,y,k1,k2,k3,k4,aD,Rs.ab,-aB]
        ·rw[k3];simp[Mc.ab,Ks.ab,aC,i,g,c,d,f,l,m,j,k1,k2,k3,aD,Rs.ab,-aB]
       ·rw[k1];rcases dD (eqB b.kind 2)with k2|k2
        ·rw[k2];rcases dD (eqB b.entry (-1))with k3|k3
         ·rw[k3];rcases dD (eqB nm 0)with k4|k4
          ·rw[k4];cases S with
           |true=>simp[Mc.ab,Ks.ab,aC,i,g,c,d,f,l,m,x,j,aI,A,B,k1,k2,k3,k4,aD,Rs.ab,-aB]|false=>simp[Mc.ab,Ks.ab,aC,i,g,c,d,f,l,m,x,j,aI,A,B,k1,k2,k3,k4,aD,Rs.ab,-aB]
          ·rw[k4];simp[Mc.ab,Ks.ab,aC,i,g,c,d,f,l,m,x,j,aI,A,k1,k2,k3,k4,aD,Rs.ab,-aB]
         ·rw[k3];simp[Mc.ab,Ks.ab,aC,i,g,c,d,f,l,m,j,k1,k2,k3,aD,Rs.ab,-aB]
        ·rw[k2];simp[Mc.ab,Ks.ab,aC,i,g,c,d,f,l,j,k1,k2,aD,Rs.ab,-aB]
      ·rw[o]at f;have:(true&&true&&kT [] b.nt&&!ltB 64 (b.nt.length:Nat))=false:=by rw[eF,eF,o]
       rw[this,eW];generalize b.cells=q at*;generalize dK b.nt=H at*;simp[Mc.ab,Ks.ab,aC,i,g,c,d,f,j,aD,Rs.ab,-aB]
     ·rw[u]at d⊢;simp only[nF,eW,dE,bY];generalize b.cells=q at*;simp[Mc.ab,Ks.ab,aC,i,g,c,d,aD,Rs.ab,-aB]
    ·rw[n]at c⊢;simp only[eW,dE,bY];generalize b.cells=q at*;simp[Mc.ab,Ks.ab,aC,i,g,c,aD,Rs.ab,-aB]
   ·cases k
  ·cases k
 ·cases k
end Go.Proofs.YtdebajodkallbaaGreatDoor
