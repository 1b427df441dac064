/- Operations that only look,all of them -/
import Derived.Test.YtdebajodkallbaaGreatDoorAm1
namespace Go.Proofs.YtdebajodkallbaaGreatDoor
open Go.RowKit
section
variable{P:Program}{B:Base}{C:Cx}{h:aA}{w:World}
theorem yS1{t e:TypeId}{J:Nat}(T:Inv B C h w)(V:P.underlying t=some (.slice e))(U:eI P e=some J){a i v:AV}{x y:Value}(N:Rel C a x)(O:Rel C i y)(d:bA J h a i=some v):∃u,Rel C v u/\∀w,(Instr.indexAt t x y).run P w=.ok u w:=by
 have Q:∀(b o s p:Nat)(k:IntKind)(n:Int),0<=n->n<s->∀w,(Instr.indexAt t (.slice (some ⟨b,o,none⟩) s p) (.int k n)).run P w=.ok (.pointer (some ⟨b,o+n.toNat*J,none⟩)) w:=by
  intro b o s p k n F q w;simp[Instr.indexAt,asIntOf,run_underlying V,F,q,jR U,Addr.add_lit]
 have frozen:∀(g:List (List AV))(k:IntKind)(n:Int)(b o s p D:Nat)(z:Nat->Nat->Value),s=g.length->(∀(i:Nat)f,g[i]?=some f->f.length=D)->(∀(i:Nat)f(j:Nat)c,g[i]?=some f->f[j]?=some c->C.im b (o+i*D+j)=some (z i j))->(∀(i:Nat)f(j:Nat)c,g[i]?=some f->f[j]?=some c->Rel (Cx.pure C.im) c (z i j))->(if 0<=n then(match g[n.toNat]? with
    |some f=>if f.length=J then some (AV.fptr f 0)else none|none=>none)else none)=some v->∃u,Rel C v u/\∀w,(Instr.indexAt t (.slice (some ⟨b,o,none⟩) s p) (.int k n)).run P w=.ok u w:=by
  intro g k n b o s p D z Z q G H A;split at A
  ·rename_i F;split at A
   ·rename_i f E;split at A
    ·rename_i M;cases A;have a1:n.toNat<g.length:=(aV.1 E).1;have L:=q _ _ E;rw[M]at L;subst L;exact⟨_,.fptr f 0 b (o+n.toNat*J) (z n.toNat) (fun j c I=>G _ _ _ _ E I) (fun j c I=>H _ _ _ _ E I),fun w=>by rw[Nat.add_zero];exact Q b o s p k n F (by omega) w⟩
    ·cases A
   ·cases A
  ·cases A
 cases a with
 |sl g=>cases i with
  |int k n=>
   have:=fF O;subst this;cases N with
   |slnil=>simp[bA]at d|slz a p=>simp[bA]at d|sl _ b o p D z S q G H=>exact frozen g k n b o _ p D z rfl q G H d
  |_=>simp[bA]at d
 |tsl g=>cases i with
  |int k n=>
   have:=fF O;subst this;cases N with
   |tslnil=>simp[bA]at d|tslz a=>simp[bA]at d|tsl _ b o D z q G H=>exact frozen g k n b o _ _ D z rfl q G H d
  |_=>simp[bA]at d
 |own l X n=>cases i with
  |int k m=>
   have:=fF O;subst this;simp only[bA]at d;split at d
   ·rename_i sz a2 g wr W;split at d
    ·rename_i I;obtain⟨rfl,hn,F,q⟩:=I;split at d
     ·rename_i f E;split at d
      ·rename_i M;cases d;cases N with
       |ownnil _ _ K=>omega|own _ _ _ r K S=>
        rcases T.ok l _ W with⟨k1,_⟩|⟨r',Y,k1,k2,k3,k4,k5,_⟩;·rw[K]at k1;cases k1
        ·rw[K]at k1;injection k1 with k1;cases k1;have L:=k5 f (fB E);refine⟨_,.eptr l X m.toNat 0 r K,fun w=>?_⟩;rw[Q r.block 0 n r.cap k m F q w,<-L,M,eR,Nat.add_zero]
      ·cases d
     ·cases d
    ·cases d
   ·cases d|_=>simp[bA]at d
 |_=>simp[bA]at d
theorem mY(s:List UInt8):(ByteArray.mk s.toArray).size=s.length:=by show s.toArray.size=_;simp
theorem yn6{d:List (List AV)}{x:Value}(h:Rel C (.sl d) x):∃a c,x=.slice a d.length c:=by cases h with
 |slnil=>exact⟨none,0,rfl⟩|slz a c=>exact⟨some a,c,rfl⟩|sl _ b o c f g e _ _ _=>exact⟨_,c,rfl⟩
def zg4(P:Program)(t:TypeId)(k:Nat):Prop:=match k with|0=>P.underlying t=some .string|1=>∃e,P.underlying t=some (.slice e)|2=>∃q e,P.underlying t=some (.map q e)|_=>False
theorem yV9(p:Inv B C h w){t ty:TypeId}{x:Value}{a v:AV}{k:Nat}(g:Rel C a x)(d:aI h k a=some v)(c:zg4 P t k):∃u,Rel C v u/\∀f,Below w.heap.size w f->(Builtin.len_ #[t] ty #[x]).run P f=.ok u f:=by match k,a with
 |0,.str s=>
  simp only[aI]at d;cases d;have:=fM g;subst this;exact⟨_,.int _ _,fun f _=>by simp[Builtin.len_,run_underlying c,goInt,mY]⟩|1,.sl z=>
  simp only[aI]at d;cases d;obtain⟨e,c⟩:=c;obtain⟨a,D,rfl⟩:=yn6 g;exact⟨_,.int _ _,fun f _=>by simp[Builtin.len_,run_underlying c,goInt]⟩|1,.tsl z=>
  simp only[aI]at d;cases d;obtain⟨e,c⟩:=c;cases g<;>exact⟨_,.int _ _,fun f _=>by simp[Builtin.len_,run_underlying c,goInt]⟩|1,.nils=>
  simp only[aI]at d;cases d;obtain⟨e,c⟩:=c;cases g;exact⟨_,.int _ _,fun f _=>by simp[Builtin.len_,run_underlying c,goInt]⟩|1,.own l I n=>
  simp only[aI]at d;cases d;obtain⟨e,c⟩:=c;cases g<;>exact⟨_,.int _ _,fun f _=>by simp[Builtin.len_,run_underlying c,goInt]⟩|2,.map l=>
  simp only[aI]at d;split at d
  ·rename_i F y;cases d;obtain⟨q,e,c⟩:=c;cases g with|map _ b o=>
   obtain⟨A,H,E,i,G,j,h4,_⟩:=p.ok l _ y;rw[o]at i;cases i;refine⟨_,.int _ _,fun f r=>?_⟩;have m:=(r.block b (gY j)).trans j;simp[Builtin.len_,run_underlying c,goInt,getObj,Sem.run,m,h4]
  ·cases d|2,.nilm=>
  simp only[aI]at d;cases d;obtain⟨q,e,c⟩:=c;cases g;exact⟨_,.int _ _,fun f _=>by simp[Builtin.len_,run_underlying c,goInt]⟩
theorem QD{e:EK}{d:TypeDesc}{k g:AV}{x y:Value}{b:Bool}(a:match e with|.s=>d=.string|.i=>∃q,d=.int q|.b=>d=.bool)(c:Rel C k x)(f:Rel C g y)(h:vU e k g=some b):Instr.sameNow d x y=some b:=by
 cases e<;>cases k<;>cases g<;>simp only[vU]at h<;>(first|cases h|skip);·rw[jJ c,jJ f,a];simp only[Instr.sameNow]
 ·obtain⟨q,rfl⟩:=a;rw[fF c,fF f];exact h
 ·rw[fM c,fM f,a];simp only[Instr.sameNow];rw[beq_toListBytes,SH,SH]
theorem zB7{e:EK}{d:TypeDesc}(g:match e with|.s=>d=.string|.i=>∃q,d=.int q|.b=>d=.bool){k:AV}{x:Value}(l:Rel C k x):∀(b:List (AV×AV))(a:List MapEntry)(n:Nat)(r:Option AV),b.length=a.length->(∀(i:Nat)k v m,b[i]?=some (k,v)->a[i]?=some m->Rel C k m.key/\Rel C v m.val)->yH e k b=some r->match r with
   |some v=>∃i u,Instr.findNow d x a n=some (some (i,u))/\Rel C v u|none=>Instr.findNow d x a n=some none
 |[],[],n,r,_,_,h=>by simp[yH]at h;subst h;rfl|[],_::_,_,_,c,_,_=>by simp at c|_::_,[],_,_,c,_,_=>by simp at c|(y,v)::b,m::a,n,r,c,o,h=>by
  obtain⟨p,z⟩:=o 0 y v m rfl rfl;simp only[yH]at h;have f:=zB7 g l b a (n+1) r (by simpa using c) (fun i k v m s t=>o (i+1) k v m (by simpa using s) (by simpa using t));split at h
  ·rename_i j;cases h;have:=QD g l p j;exact⟨n,m.val,by simp[Instr.findNow,this],z⟩
  ·rename_i j;have:=QD g l p j;have f:=f h;cases r with
   |none=>simp only[Instr.findNow,this];exact f|some v=>simp only[Instr.findNow,this];exact f
  ·cases h
theorem run_checkKey{e:EK}{b:TypeId}{d:TypeDesc}(a:match e with|.s=>d=.string|.i=>∃q,d=.int q|.b=>d=.bool)(g:P.underlying b=some d)(x:Value)(c:Bool)(w:World):(Instr.checkKey c 10000 b x).run P w=.ok () w:=by
 have f:∀n,(Instr.checkKey c (n+1) b x).run P w=.ok () w:=fun n=>by
  simp only[Instr.checkKey,Sem.run_bind,run_underlying g,Result.andThen_ok];cases e<;>simp only at a;·subst a;rfl
  ·obtain⟨q,rfl⟩:=a;rfl
  ·subst a;rfl
 exact f 9999
theorem zM8{e:TypeId}{z:AV}(a:CL P e=some z):∃u,Rel C z u/\∀w,(zeroValue e).run P w=.ok u w:=by
 unfold CL at a;cases b:P.info? e with
 |none=>simp[b]at a|some i=>cases c:i.zero with
  |none=>simp[b,c]at a|some u=>
   simp[b,c]at a;exact⟨u,zD8 a,fun w=>by simp[zeroValue,typeInfo,b,c]⟩
theorem yW6(V:Inv B C h w){e:EK}{t T M:TypeId}{d:TypeDesc}(D:P.underlying t=some (.map T M))(s:match e with|.s=>d=.string|.i=>∃q,d=.int q|.b=>d=.bool)(j:P.underlying T=some d){z:AV}(Y:CL P M=some z){F:Bool}{m k v:AV}{x y:Value}(S:Rel C m x)(X:Rel C k y)(a:dH h (.look e F z) [m,k]=some v):∃u,Rel C v u/\∀n,Below w.heap.size w n->(Instr.lookup t x y F).run P n=.ok u n:=by
 obtain⟨J,H,I⟩:=zM8 (C:=C) Y;simp only[dH]at a;split at a
 ·cases m<;>simp only at a<;>(first|cases a|skip);case map l=>
   split at a
   ·rename_i L W;cases S with|map _ b U=>
    obtain⟨b',Z,ck,G,N,o,h4,h5,_⟩:=V.ok l _ W;rw[U]at G;cases G;cases K:yH e k L with
    |none=>simp[K]at a|some r=>
     simp only[K,fC,aT]at a;have E:=zB7 s X L Z.toList 0 r (by simpa using h4) (fun i k v m G N=>by
      have:=h5 i k v m G (by simpa using N);exact⟨this.1.mono C.frozen_le,this.2.mono C.frozen_le⟩) K;cases r with
     |none=>
      simp only at a E;cases F with
      |true=>
       simp only[bD]at a;subst a;exact⟨_,.tup _ #[J,.bool false] rfl (fun i c u f g=>by match i with
        |0=>simp at f g;subst f g;exact H|1=>simp at f g;subst f g;exact .bool _|_+2=>simp at f),fun n A=>by
        have p:=(A.block b (gY o)).trans o;simp[Instr.lookup,run_underlying D,getObj,Sem.run,p,run_checkKey s j,Instr.findKey,run_underlying j,E,I]⟩|false=>
       simp only[dE,bY]at a;subst a;exact⟨J,H,fun n A=>by
        have p:=(A.block b (gY o)).trans o;simp[Instr.lookup,run_underlying D,getObj,Sem.run,p,run_checkKey s j,Instr.findKey,run_underlying j,E,I]⟩
     |some v'=>
      simp only at a E;obtain⟨i,u,O,Q⟩:=E;cases F with
      |true=>
       simp only[bD]at a;subst a;exact⟨_,.tup _ #[u,.bool true] rfl (fun i c u f g=>by match i with
        |0=>simp at f g;subst f g;exact Q|1=>simp at f g;subst f g;exact .bool _|_+2=>simp at f),fun n A=>by
        have p:=(A.block b (gY o)).trans o;simp[Instr.lookup,run_underlying D,getObj,Sem.run,p,run_checkKey s j,Instr.findKey,run_underlying j,O]⟩|false=>
       simp only[dE,bY]at a;subst a;exact⟨u,Q,fun n A=>by
        have p:=(A.block b (gY o)).trans o;simp[Instr.lookup,run_underlying D,getObj,Sem.run,p,run_checkKey s j,Instr.findKey,run_underlying j,O]⟩
   ·cases a
  case isTrue.nilm.refl=>
   cases S;cases F with
   |true=>exact⟨_,.tup _ #[J,.bool false] rfl (fun i c u f g=>by match i with
    |0=>simp at f g;subst f g;exact H|1=>simp at f g;subst f g;exact .bool _|_+2=>simp at f),fun n _=>by simp[Instr.lookup,run_underlying D,run_checkKey s j,Instr.findKey,run_underlying j,Instr.findNow,I]⟩|false=>exact⟨J,H,fun n _=>by simp[Instr.lookup,run_underlying D,run_checkKey s j,Instr.findKey,run_underlying j,Instr.findNow,I]⟩
 ·cases a
end
section
variable{P:Program}{B:Base}{C:Cx}{h:aA}{w:World}
theorem BW{k:IntKind}{i:Int}{y:Nat}{code:BoundsCode}(a:0<=i)(b:i<=y)(w:World):(Instr.sliceBound (.int k i) y code).run P w=.ok i.toNat w:=by simp[Instr.sliceBound,asIntOf,a,b]
def bnd(o:Option (IntKind×Int)):Option Value:=o.map fun q=>.int q.1 q.2
def dQ(o:Option (IntKind×Int)):Option Int:=o.map (·.2)
theorem KZ(r:Bool)(a d:Nat)(f b:Option (IntKind×Int))(s:a<=d)(g:0<=(dQ f).getD 0)(e:(dQ f).getD 0<=(dQ b).getD a)(i:(dQ b).getD a<=a)(w:World):(Instr.sliceBounds r a d (bnd f) (bnd b) none).run P w=.ok (((dQ f).getD 0).toNat,((dQ b).getD a).toNat,d) w:=by cases f with
 |none=>cases b with
  |none=>simp[Instr.sliceBounds,bnd,dQ]|some q=>
   obtain⟨k,n⟩:=q;simp[dQ]at e i;have:=fun c=>BW (P:=P) (k:=k) (i:=n) (y:=d) (code:=c) e (by omega) w;simp[Instr.sliceBounds,bnd,dQ,this]
 |some p=>
  obtain⟨j,m⟩:=p;cases b with
  |none=>
   simp[dQ]at g e;have:=fun c=>BW (P:=P) (k:=j) (i:=m) (y:=a) (code:=c) g e w;simp[Instr.sliceBounds,bnd,dQ,this]|some q=>
   obtain⟨k,n⟩:=q;simp[dQ]at g e i;have l:=fun c=>BW (P:=P) (k:=k) (i:=n) (y:=d) (code:=c) (by omega) (by omega) w;have o:=fun c=>BW (P:=P) (k:=j) (i:=m) (y:=n.toNat) (code:=c) g (by omega) w;simp[Instr.sliceBounds,bnd,dQ,l,o]
theorem YH(k:Bool)(o b:Nat)(a:Option (IntKind×Int))(k1 k2:IntKind)(n:Int)(f:0<=(dQ a).getD 0)(i:(dQ a).getD 0<=n)(j:n<=b)(w:World):(Instr.sliceBounds k o b (bnd a) (some (.int k1 n)) (some (.int k2 n))).run P w=.ok (((dQ a).getD 0).toNat,n.toNat,n.toNat) w:=by
 have d:=fun c=>BW (P:=P) (k:=k2) (i:=n) (y:=b) (code:=c) (by omega) j w;have e:=fun c=>BW (P:=P) (k:=k1) (i:=n) (y:=n.toNat) (code:=c) (by omega) (by omega) w;cases a with
 |none=>simp[Instr.sliceBounds,bnd,dQ,d,e]|some p=>
  obtain⟨l,m⟩:=p;simp[dQ]at f i;have g:=fun c=>BW (P:=P) (k:=l) (i:=m) (y:=n.toNat) (code:=c) f (by omega) w;simp[Instr.sliceBounds,bnd,dQ,d,e,g]
theorem yy5(s:List UInt8)(a b:Nat):(ByteArray.mk s.toArray).extract a b=⟨((s.take b).drop a).toArray⟩:=by
 apply ByteArray.ext;rw[ByteArray.data_extract];apply kP;simp[List.drop_take]
theorem xi0{k:List (List AV)}{x:Value}{L f:Nat}{a:Option Addr}(y:x=.slice a L f)(h:Rel C (.sl k) x)(l r:Nat)(Q:l<=r)(t:r<=k.length)(s:Nat)(D:∀g∈k,g.length=s)(m:Nat)(J:m=f):Rel C (.sl ((k.take r).drop l)) (.slice (if m=l then a else a.map (·.add (l*s))) (r-l) (m-l)):=by
 subst J;cases h with
 |slnil=>
  injection y with n p q;subst n p q;simp at t;subst t;have:l=0:=by omega
  subst this;simp;exact .slnil|slz M N=>
  injection y with n p q;subst n p q;simp at t;subst t;have:l=0:=by omega
  subst this;simp;split<;>exact .slz _ _|sl _ b o f S E O n p q=>
  injection y with G H I;subst G H I;have v:((k.take r).drop l).length=r-l:=by simp;omega
  by_cases A:f=l
  ·subst A;have z:r-f=0:=by omega
   have K:(k.take r).drop f=[]:=vC (by rw[v];exact z);rw[K,z];simp;exact .sl [] b o 0 s E (by simp) (by simp) (by simp) (by simp)
  ·simp only[if_neg A,fC,Addr.add_lit];rw[<-v];refine .sl _ b (o+l*s) (f-l) s (fun i j=>E (l+i) j) (by rw[v];omega) ?_ ?_ ?_
   ·intro i g d;exact D g (vF (DQ (fB d)))
   ·intro i g j c d u;rw[nW,fZ]at d;split at d
    ·have e:=n _ _ d;have F:=D g (fB d);have:=p _ _ _ _ d u;rw[<-e,F]at this;rw[<-this];congr 1;rw[gR];omega
    ·cases d
   ·intro i g j c d u;rw[nW,fZ]at d;split at d;·exact q _ _ _ _ d u
    ·cases d
theorem uK{n:Nat}:∀{c:List (List AV)},dB n c=true->∀a∈c,a.length=n
 |[],_,a,h=>by simp at h|r::d,b,a,h=>by
  simp only[dB,bS,fU]at b;rcases fE.1 h with rfl|h;·exact b.1
  ·exact uK b.2 a h
theorem zJ0{c:List (List AV)}{x:Value}(h:Rel C (.tsl c) x):Rel C (.sl c) x:=by cases h with
 |tslnil=>exact .slnil|tslz a=>exact .slz a 0|tsl _ b o g i d e f=>exact .sl c b o c.length g i (dA _) d e f
theorem xi1{d:List (List AV)}{b o A t:Nat}(h:Rel C (.sl d) (.slice (some ⟨b,o,none⟩) A t))(l r:Nat)(G:l<=r)(n:r<=d.length)(g:Nat)(p:∀f∈d,f.length=g):Rel C (.tsl ((d.take r).drop l)) (.slice (if r=l then some ⟨b,o,none⟩else(some (⟨b,o,none⟩:Addr)).map (·.add (l*g))) (r-l) (r-l)):=by
 have m:((d.take r).drop l).length=r-l:=by simp;omega
 cases h with
 |slz D E=>
  simp at n;subst n;have:l=0:=by omega
  subst this;simp;exact .tslz _|sl _ _ _ _ H s F v x y=>
  have q:Rel C (.tsl ((d.take r).drop l)) (.slice (some ⟨b,o+l*g,none⟩) ((d.take r).drop l).length ((d.take r).drop l).length):=by
   refine .tsl _ b (o+l*g) g (fun i j=>s (l+i) j) ?_ ?_ ?_
   ·intro i f a;exact p f (vF (DQ (fB a)))
   ·intro i f j c a k;rw[nW,fZ]at a;split at a
    ·have e:=v _ _ a;have u:=p f (fB a);have:=x _ _ _ _ a k;rw[<-e,u]at this;rw[<-this];congr 1;rw[gR];omega
    ·cases a
   ·intro i f j c a k;rw[nW,fZ]at a;split at a;·exact y _ _ _ _ a k
    ·cases a
  by_cases e:r=l
  ·subst e;have z:(d.take r).drop r=[]:=vC (by rw[m];omega);rw[z];simp;exact .tsl [] b o g s (by simp) (by simp) (by simp)
  ·simp only[if_neg e,fC,Addr.add_lit];rw[m]at q;exact q
theorem YQ{o:Option Operand}{i:Operand->Value}{rest:List Value}{c d:List AV}{l:Option Int}(f:RelL C c (o.toList.map i++rest))(h:oN o.isSome c=some (l,d)):∃g:Option (IntKind×Int),o.map i=bnd g/\l=dQ g/\RelL C d rest:=by cases o with
 |none=>simp[oN]at h;obtain⟨rfl,rfl⟩:=h;exact⟨none,rfl,rfl,by simpa using f⟩|some x=>
  simp only[oN,Option.isSome,bD]at h;split at h
  ·rename_i k n r;injection h with h;injection h with a b;subst a b;obtain⟨v,j,e,a,b⟩:=f.inv_cons;simp at e;obtain⟨rfl,rfl⟩:=e;refine⟨some (k,n),?_,rfl,b⟩;have:=fF a;simp[bnd,this]
  ·cases h
theorem zO2{f e g:Option Operand}{d:Operand->Value}{i:List AV}{l r m:Option Int}(j:RelL C i ((f.toList++e.toList++g.toList).map d))(h:pV f.isSome e.isSome g.isSome i=some (l,r,m)):∃a c b:Option (IntKind×Int),f.map d=bnd a/\e.map d=bnd c/\g.map d=bnd b/\l=dQ a/\r=dQ c/\m=dQ b:=by
 simp only[List.map_append,iN]at j;unfold pV at h;split at h
 ·rename_i G E x;obtain⟨a,k,n,A⟩:=YQ j x;split at h
  ·rename_i I F y;obtain⟨c,o,p,D⟩:=YQ A y;split at h
   ·rename_i H z;injection h with h;injection h with t h;injection h with u v;subst t u v;obtain⟨b,q,s,_⟩:=YQ (rest:=[]) (by simpa using D) z;exact⟨a,c,b,k,o,q,n,p,s⟩
   ·cases h
  ·cases h
 ·cases h
theorem xo9{n:Nat}{a:List (List AV)}{c b:Option Int}{v:AV}(h:wN n a c b none=some v):0<=c.getD 0/\c.getD 0<=b.getD a.length/\b.getD a.length<=a.length/\dB n a=true/\v=.sl ((a.take (b.getD a.length).toNat).drop (c.getD 0).toNat):=by
 have h:(if 0<=c.getD 0/\c.getD 0<=b.getD a.length/\b.getD a.length<=a.length/\dB n a then some (AV.sl ((a.take (b.getD a.length).toNat).drop (c.getD 0).toNat))else none)=some v:=h;split at h;·rename_i d;injection h with h;exact⟨d.1,d.2.1,d.2.2.1,d.2.2.2,h.symm⟩
 ·cases h
theorem xp1{n:Nat}{b:List (List AV)}{a d:Option Int}{m:Int}{v:AV}(h:wN n b a d (some m)=some v):d=some m/\0<=a.getD 0/\a.getD 0<=m/\m<=b.length/\dB n b=true/\v=.tsl ((b.take m.toNat).drop (a.getD 0).toNat):=by
 have h:(if d=some m/\0<=a.getD 0/\a.getD 0<=m/\m<=b.length/\dB n b then some (AV.tsl ((b.take m.toNat).drop (a.getD 0).toNat))else none)=some v:=h;split at h;·rename_i c;injection h with h;exact⟨c.1,c.2.1,c.2.2.1,c.2.2.2.1,c.2.2.2.2,h.symm⟩
 ·cases h
theorem xp2{s:List UInt8}{b a:Option Int}{v:AV}(h:CB s b a=some v):0<=b.getD 0/\b.getD 0<=a.getD s.length/\a.getD s.length<=s.length/\v=.str ((s.take (a.getD s.length).toNat).drop (b.getD 0).toNat):=by
 unfold CB at h;split at h;·rename_i c;injection h with h;exact⟨c.1,c.2.1,c.2.2,h.symm⟩
 ·cases h
theorem YF{t e:TypeId}{n:Nat}(D:P.underlying t=some (.slice e))(A:eI P e=some n){x:Value}{g:List (List AV)}(G:Rel C (.sl g) x){v:AV}(f y H:Option (IntKind×Int))(K:wN n g (dQ f) (dQ y) (dQ H)=some v):∃u,Rel C v u/\∀w,(Instr.sliceAt t x (bnd f) (bnd y) (bnd H)).run P w=.ok u w:=by cases H with
 |none=>
  obtain⟨k,l,z,E,rfl⟩:=xo9 K;have U:∃a c,x=.slice a g.length c/\g.length<=c:=by cases G with
   |slnil=>exact⟨none,0,rfl,by simp⟩|slz a c=>exact⟨some a,c,rfl,by simp⟩|sl _ b o c W M s _ _ _=>exact⟨_,c,rfl,s⟩
  obtain⟨a,c,L,s⟩:=U;have i:=KZ (P:=P) true g.length c f y s k l z;refine⟨_,xi0 L G ((dQ f).getD 0).toNat ((dQ y).getD g.length).toNat (by omega) (by omega) n (uK E) c rfl,fun w=>?_⟩;subst L;have j:=i w;simp only[Instr.sliceAt,Sem.run_bind,run_underlying D,Result.andThen_ok,Instr.slice];rw[show bnd (none:Option (IntKind×Int))=none from rfl,j];simp only[Result.andThen_ok,jR A,Sem.run_pure]|some q=>
  obtain⟨k2,m⟩:=q;obtain⟨J,k,l,z,E,rfl⟩:=xp1 (m:=m) K;cases y with
  |none=>cases J|some p=>
   obtain⟨k1,d⟩:=p;have:d=m:=by simpa[dQ]using J
   subst this;cases G with
   |slnil=>
    have r:d=0:=by simp at z;omega
    have F:((dQ f).getD 0)=0:=by omega
    have i:=YH (P:=P) true 0 0 f k1 k2 d k l (by simp[r]);subst r;refine⟨.slice none 0 0,by simpa using .tslnil,fun w=>?_⟩;have j:=i w;simp only[Instr.sliceAt,Sem.run_bind,run_underlying D,Result.andThen_ok,Instr.slice];rw[show bnd (some (k1,(0:Int)))=some (.int k1 0)from rfl,show bnd (some (k2,(0:Int)))=some (.int k2 0)from rfl,j];simp[jR A,F]|slz I N=>
    have r:d=0:=by simp at z;omega
    have F:((dQ f).getD 0)=0:=by omega
    have i:=YH (P:=P) true 0 N f k1 k2 d k l (by simp[r]);subst r;refine⟨.slice (some I) 0 0,by simpa using .tslz I,fun w=>?_⟩;have j:=i w;simp only[Instr.sliceAt,Sem.run_bind,run_underlying D,Result.andThen_ok,Instr.slice];rw[show bnd (some (k1,(0:Int)))=some (.int k1 0)from rfl,show bnd (some (k2,(0:Int)))=some (.int k2 0)from rfl,j];simp[jR A,F]|sl _ b o c V M s O Q S=>
    have i:=YH (P:=P) true g.length c f k1 k2 d k l (by omega);have T:Rel C (.sl g) (.slice (some ⟨b,o,none⟩) g.length c):=.sl g b o c V M s O Q S;refine⟨_,xi1 T ((dQ f).getD 0).toNat d.toNat (by omega) (by omega) n (uK E),fun w=>?_⟩;have j:=i w;simp only[Instr.sliceAt,Sem.run_bind,run_underlying D,Result.andThen_ok,Instr.slice];rw[show bnd (some (k1,d))=some (.int k1 d)from rfl,show bnd (some (k2,d))=some (.int k2 d)from rfl,j];simp only[Result.andThen_ok,jR A,Sem.run_pure]
theorem zO3{t:TypeId}{size:Option Nat}(c:match size with|none=>P.underlying t=some .string|some n=>∃e,P.underlying t=some (.slice e)/\eI P e=some n){a v:AV}{x:Value}(k:Rel C a x)(f d g:Option (IntKind×Int))(b:pT size a (dQ f) (dQ d) (dQ g)=some v):∃u,Rel C v u/\∀w,(Instr.sliceAt t x (bnd f) (bnd d) (bnd g)).run P w=.ok u w:=by
 unfold pT at b;split at b
 ·rename_i s;have:=fM k;subst this;cases g with
  |some q=>cases b|none=>
   obtain⟨j,l,r,rfl⟩:=xp2 b;have m:=KZ (P:=P) false s.length s.length f d (dA _) j l r;refine⟨_,.str _,fun w=>?_⟩;have o:=m w;simp only[Instr.sliceAt,Sem.run_bind,run_underlying c,Result.andThen_ok,Instr.slice];rw[show bnd (none:Option (IntKind×Int))=none from rfl,mY];simp only[Option.isSome,dE,bY,Sem.run_bind,o,Result.andThen_ok,Sem.run_pure,yy5]
 ·rename_i n z;obtain⟨e,c,i⟩:=c;exact YF c i k f d g b
 ·rename_i n z;obtain⟨e,c,i⟩:=c;cases g with
  |some q=>cases b|none=>exact YF c i (zJ0 k) f d none b
 ·rename_i n;obtain⟨e,c,i⟩:=c;cases g with
  |some q=>cases b|none=>
   split at b
   ·rename_i y;cases b;obtain⟨_,j,l⟩:=y;cases k;have m:=KZ (P:=P) true 0 0 f d (dA _) (by omega) (by rw[j];show 0<=(dQ d).getD 0;omega) (by show(dQ d).getD 0<=0;omega);refine⟨_,.nils,fun w=>?_⟩;have o:=m w;simp only[Instr.sliceAt,Sem.run_bind,run_underlying c,Result.andThen_ok,Instr.slice];rw[show bnd (none:Option (IntKind×Int))=none from rfl,o];simp only[Result.andThen_ok,jR i,Sem.run_pure,j];have p:(dQ d).getD (↑(0:Nat))=0:=l;rw[p];simp
   ·cases b
 ·cases b
theorem xw6{t e:TypeId}{d l c n:Nat}{r:RowAt}(v:P.underlying t=some (.slice e))(q:eI P e=some d)(p:C.ar l c=some (some r))(o:n<=r.cap)(s:r.size=d)(a b:Option (IntKind×Int))(f:0<=(dQ a).getD 0)(x:(dQ a).getD 0<(dQ b).getD n)(g:(dQ b).getD n<=n):∃u,Rel C (.win l c ((dQ a).getD 0).toNat ((dQ b).getD n-(dQ a).getD 0).toNat) u/\∀w,(Instr.sliceAt t (.slice (some ⟨r.block,0,none⟩) n r.cap) (bnd a) (bnd b) (bnd none)).run P w=.ok u w:=by
 have k:=KZ (P:=P) true n r.cap a b o f (by omega) g;refine⟨_,.win l c _ _ r p (by omega),fun w=>?_⟩;have m:=k w;simp only[Instr.sliceAt,Sem.run_bind,run_underlying v,Result.andThen_ok,Instr.slice];rw[show bnd (none:Option (IntKind×Int))=none from rfl,m];simp only[Result.andThen_ok,jR q,Sem.run_pure];subst s;have i:¬r.cap=((dQ a).getD 0).toNat:=by omega
 have j:((dQ b).getD (n:Int)).toNat-((dQ a).getD 0).toNat=((dQ b).getD (n:Int)-(dQ a).getD 0).toNat:=by omega
 rw[if_neg i,j];simp[Addr.add_lit]
end
section
variable{P:Program}{B:Base}{C:Cx}{h:aA}{w:World}
theorem zN7:∀(f:List AV)(g:List Value)(d:List AV)(e:Array Value)(b k:Nat),RelL C d e.toList->RelL C f g->RelL C (bK d (b+k) f) ((g.zipIdx k).foldl (fun a(x:Value×Nat)=>a.setIfInBounds (b+x.2) x.1) e).toList
 |[],g,d,e,b,k,i,j=>by
  have:=j.inv_nil;subst this;simpa[bK]using i|c::f,g,d,e,b,k,i,j=>by
  obtain⟨v,n,rfl,l,m⟩:=j.inv_cons;simp only[bK,List.zipIdx_cons,List.foldl_cons];exact zN7 f n _ _ b (k+1) (by rw[Array.toList_setIfInBounds];exact i.set (b+k) l) m
theorem OI(o:Nat->Option (Nat×Nat)):∀(n:List (Nat×Operand))(g:Operand->Value)(m:List (Nat×Nat))(j:List AV)(f:Array Value)(b d:List AV),placesOf o n=some m->RelL C j f.toList->RelL C b (n.map fun p=>g p.2)->eO j m b=some d->∃k,Instr.fill o f (n.map fun p=>(p.1,g p.2))=some k/\RelL C d k.toList
 |[],g,m,j,f,b,d,c,l,y,a=>by
  simp[placesOf]at c;subst c;cases b with
  |nil=>simp[eO]at a;subst a;exact⟨f,rfl,l⟩|cons _ _=>simp[eO]at a
 |(i,x)::r,g,m,j,f,b,d,c,l,y,a=>by
  simp only[placesOf]at c;split at c
  ·rename_i q K D E;cases c;obtain⟨J,Q⟩:=q;cases b with
   |nil=>simp[eO]at a|cons v b=>
    simp only[eO]at a;split at a
    ·rename_i F;obtain⟨s,N,O⟩:=F;obtain⟨u,S,e,L,M⟩:=y.inv_cons;simp at e;obtain⟨rfl,rfl⟩:=e;have t:=IM L (by intro e;rw[e]at s;simp at s;omega);have H:=t.1;have I:=l.1;simp at H I;have G:=zN7 _ _ _ _ J 0 l t;obtain⟨k,z,A⟩:=OI o r g K _ _ b d E G M a;refine⟨k,?_,A⟩;simp only[iO,Instr.fill,D];rw[if_neg (by simp;omega)];rw[<-z];congr 1;rw[<-Array.foldl_toList,Array.toList_zipIdx]
    ·cases a
  ·cases c
theorem FT{t:TypeId}{z:List AV}(a:kK P t=some z):∃i b,P.info? t=some i/\i.zero=some b/\RelL C z b.cells.toList:=by
 unfold kK at a;cases c:P.info? t with
 |none=>simp[c]at a|some i=>cases d:i.zero with
  |none=>simp[c,d]at a|some b=>
   simp[c,d]at a;exact⟨i,b,rfl,d,WP a⟩
theorem ym8{t:TypeId}{z:List AV}(H:kK P t=some z){m:Nat->Option (Nat×Nat)}(a:XO P t=some m){b:Array (Nat×Operand)}{o:List (Nat×Nat)}(E:placesOf m b.toList=some o){ρ:Operand->Value}{q j:List AV}(G:RelL C q (b.toList.map fun p=>ρ p.2))(A:eO z o q=some j):∃c,RelL C j c.toList/\∀w,(Instr.build t (b.map fun(i,x)=>(i,ρ x))).run P w=.ok (.agg c) w:=by
 obtain⟨i,I,s,u,F⟩:=FT (C:=C) H;obtain⟨c,r,y⟩:=OI m b.toList ρ o z I.cells q j E F G A;refine⟨c,y,fun w=>run_build w t _ c ?_⟩;have D:(b.map fun(x:Nat×Operand)=>(x.1,ρ x.2)).toList=b.toList.map fun p=>(p.1,ρ p.2):=by simp
 show P.built t (b.map fun(x:Nat×Operand)=>(x.1,ρ x.2)).toList=some c;rw[D];unfold XO at a;cases g:P.underlying t with
 |none=>simp[g]at a|some d=>
  cases d<;>simp only[g]at a<;>(first|cases a|skip);case some.struct v=>cases l:v.toList.mapM (fun f=>(P.info? f.type).map fun i=>(f.offset,i.size))with
   |none=>simp[l]at a|some K=>
    simp only[l,fC,aT]at a;subst a;simp only[Program.built,s,g,u,l];exact r
  case some.array n e=>cases k:P.info? e with
   |none=>simp[k]at a|some J=>
    simp only[k,fC,aT]at a;subst a;simp only[Program.built,s,g,u,k];exact r
theorem zs2{t:TypeId}{a:Array Field}(b:P.underlying t=some (.struct a))(d:Nat):iC P (d+1) t=if P.stoodInHeld t then none else qS P (iC P d) a.toList 0:=by simp only[iC,b]
theorem UO{t:TypeId}{f:Array Field}{a:List EK}(k:P.underlying t=some (.struct f))(r:iC P 100 t=some a){g i:Array Value}{c d:List AV}{b:Bool}(l:RelL C c g.toList)(m:RelL C d i.toList)(o:c.length=a.length)(p:d.length=a.length)(q:gX a c d=some b)(w:World):(Op.equalIn 10000 t (.agg g) (.agg i)).run P w=.ok b w:=by
 have j:(if P.stoodInHeld t then none else qS P (iC P 99) f.toList 0)=some a:=by
  have:iC P (99+1) t=some a:=r;rw[zs2 k]at this;exact this
 split at j;·cases j
 ·rename_i s;have n:P.fieldsOf t=f:=by simp[Program.fieldsOf,k]
  have u:P.underlying t=some (.struct (P.fieldsOf t)):=by rw[n];exact k
  have e:=run_equalIn_struct (P:=P) w 9999 t g i u (by simpa using s);rw[n]at e;rw[show(10000:Nat)=9999+1 from rfl,e];have:=zq5 (zq2 99) f.toList 0 a g i c d b j (by rw[vB,<-o,l.1,kE];exact l) (by rw[vB,<-p,m.1,kE];exact m) o p q 9900 w;exact this
theorem xv9{e:List AV}{x y z:Value}(h:RelL C e [x,y,z]):∃a b c,e=[a,b,c]/\Rel C a x/\Rel C b y/\Rel C c z:=by
 obtain⟨f,d⟩:=h;match e,f with|[a,b,c],_=>exact⟨a,b,c,rfl,d 0 _ _ rfl rfl,d 1 _ _ rfl rfl,d 2 _ _ rfl rfl⟩
def zV8(P:Program)(C:Cx)(h:aA)(w:World)(o:Op)(e:AO)(f:List Operand):Prop:=∀(c:List AV)(v:AV)(d:Operand->Value)(b:Oper),b.op=o->RelL C c (f.map d)->dH h e c=some v->∃u,Rel C v u/\∀a,Below w.heap.size w a->(execOp d b).run P a=.ok (.value u) a
theorem yX8{a b v:AV}(h:QQ a b=some v):∃k x y,a=.int k x/\b=.int k y/\v=.int k (if x<y then y else x):=by
 unfold QQ at h;split at h
 ·rename_i k x c y;split at h;·rename_i e;subst e;injection h with h;exact⟨k,x,y,rfl,rfl,h.symm⟩
  ·cases h
 ·cases h
theorem yY1{a b v:AV}(h:WG a b=some v):∃k x y,a=.int k x/\b=.int k y/\v=.int k (if y<x then y else x):=by
 unfold WG at h;split at h
 ·rename_i k x c y;split at h;·rename_i e;subst e;injection h with h;exact⟨k,x,y,rfl,rfl,h.symm⟩
  ·cases h
 ·cases h
set_option maxHeartbeats 800000 in theorem xg2(hi:Inv B C h w){o:Op}{ao:AO}{xs:List Operand}(j:iQ P o=some (ao,xs)):zV8 P C h w o ao xs:=by
 intro b2 v q N c3 G p;have ex:execOp q N=execOp q {N with op:=o}:=by rw[<-c3]
 rw[ex];clear ex c3;have T:∀{x:Operand}{op:Op}(k:∀a,b2=[a]->Rel C a (q x)->∃u,Rel C v u/\∀g,Below w.heap.size w g->(execOp q {N with op:=op}).run P g=.ok (.value u) g)(O:RelL C b2 [q x]),∃u,Rel C v u/\∀g,Below w.heap.size w g->(execOp q {N with op:=op}).run P g=.ok (.value u) g:=by
  intro x op k O;cases b2 with
  |nil=>simp[RelL]at O|cons a as=>
   obtain⟨y,L,e,E,H⟩:=O.inv_cons;injection e with D M;subst D M;cases as with
   |nil=>exact k a rfl E|cons _ _=>simp[RelL]at H
 have X:∀{x y:Operand}{op:Op}(k:∀a b,b2=[a,b]->Rel C a (q x)->Rel C b (q y)->∃u,Rel C v u/\∀g,Below w.heap.size w g->(execOp q {N with op:=op}).run P g=.ok (.value u) g)(O:RelL C b2 [q x,q y]),∃u,Rel C v u/\∀g,Below w.heap.size w g->(execOp q {N with op:=op}).run P g=.ok (.value u) g:=by
  intro x y op k O;cases b2 with
  |nil=>simp[RelL]at O|cons a as=>
   obtain⟨y,L,e,E,H⟩:=O.inv_cons;injection e with D M;subst D M;cases as with
   |nil=>simp[RelL]at H|cons b bs=>
    obtain⟨y,L,e,r3,r4⟩:=H.inv_cons;injection e with D M;subst D M;cases bs with
    |nil=>exact k a b rfl E r3|cons _ _=>simp[RelL]at r4
 have J:∀{op:Op}{u:Value}{j1:World->Prop}(f:Sem Value),(∀g,(execOp q {N with op:=op}).run P g=((do pure (.value (<-f)):Sem Next)).run P g)->(∀g,j1 g->f.run P g=.ok u g)->∀g,j1 g->(execOp q {N with op:=op}).run P g=.ok (.value u) g:=by
  intro op u j1 f A I g hs;rw[A,Sem.run_bind,I g hs];rfl
 cases o with
 |move x=>
  simp only[iQ]at j;cases j;refine T (x:=x) (fun a e r=>?_) G;subst e;simp only[dH]at p;cases p;exact⟨_,r,fun g _=>rfl⟩|assign x=>
  simp only[iQ]at j;cases j;refine T (x:=x) (fun a e r=>?_) G;subst e;simp only[dH]at p;cases p;exact⟨_,r,fun g _=>rfl⟩|pick c x y=>
  simp only[iQ]at j;cases j;obtain⟨vc,a,b,rfl,E,r3,r4⟩:=xv9 G;cases vc<;>simp only[dH]at p<;>(first|cases p|skip);rename_i bb;have D:=jJ E;refine⟨if bb then q x else q y,by cases bb<;>assumption,fun g _=>?_⟩;simp only[execOp,D,asBool];cases bb<;>rfl|binOp op t x y yt=>
  simp only[iQ]at j;cases s:P.underlying t with
  |none=>simp[s]at j|some d=>
   have plain:ao=.bin op->xs=[x,y]->∃u,Rel C v u/\∀g,Below w.heap.size w g->(execOp q {N with op:=.binOp op t x y yt}).run P g=.ok (.value u) g:=by
    rintro rfl rfl;refine X (x:=x) (y:=y) (fun a b e E H=>?_) G;subst e;simp only[dH]at p;obtain⟨u,A,I⟩:=yi6 E H p t x y;exact⟨u,A,J _ (fun g=>rfl) (fun g _=>I g)⟩
   cases d<;>simp only[s]at j<;>(first|cases j|skip);case some.bool=>
    have bb:∀b1:Bool,(op=if b1 then .neq else .eql)->ao=.eqB b1->xs=[x,y]->∃u,Rel C v u/\∀g,Below w.heap.size w g->(execOp q {N with op:=.binOp op t x y yt}).run P g=.ok (.value u) g:=by
     rintro b1 c3 rfl rfl;refine X (x:=x) (y:=y) (fun a b e E H=>?_) G;subst e;cases a<;>cases b<;>simp only[dH]at p<;>(first|cases p|skip);rename_i p3 c1;have D:=jJ E;have M:=jJ H;refine⟨_,.bool _,J _ (fun g=>rfl) (fun g _=>?_)⟩;subst c3;rw[D,M];have:=fun w=>run_equalIn_bool' (P:=P) w 9999 t p3 c1 s;cases b1<;>simp[zM7,Value.oneCell',binOp,Op.equal,Op.maxDepth,this]
    cases op<;>simp only at j<;>(first|cases j|skip);·exact bb false rfl rfl rfl
    ·exact bb true rfl rfl rfl
   case some.int.refl c1=>exact plain rfl rfl
   case some.string.refl=>exact plain rfl rfl
   case some.struct fs=>
    split at j
    ·rename_i U;split at j
     ·rename_i ks W;split at j
      ·rename_i hs;have ee:∀b1:Bool,(op=if b1 then .neq else .eql)->ao=.eqA b1 ks->xs=[x,y]->∃u,Rel C v u/\∀g,Below w.heap.size w g->(execOp q {N with op:=.binOp op t x y yt}).run P g=.ok (.value u) g:=by
        rintro b1 c3 rfl rfl;refine X (x:=x) (y:=y) (fun a b e E H=>?_) G;subst e;cases a<;>cases b<;>simp only[dH]at p<;>(first|cases p|skip);rename_i as bs;split at p
        ·rename_i V;cases he:gX ks as bs with
         |none=>simp[he]at p|some bb=>
          simp only[he,fC,aT]at p;subst p;obtain⟨L,D,q1⟩:=tJ E;obtain⟨vs,M,q2⟩:=tJ H;refine⟨_,.bool _,J _ (fun g=>rfl) (fun g _=>?_)⟩;have ht:=UO s W q1 q2 V.1 V.2 he g;subst c3;rw[D,M];cases b1;·simp[run_eqGuard_agg (P:=P) _ _ _ _ _ _ _ U,run_eql_struct,ht]
          ·simp[run_eqGuard_agg (P:=P) _ _ _ _ _ _ _ U,run_neq_struct,ht]
        ·cases p
       cases op<;>simp only at j<;>(first|cases j|skip);·exact ee false rfl rfl rfl
       ·exact ee true rfl rfl rfl
      ·cases j
     ·cases j
    ·cases j
 |unOp op t x=>
  simp only[iQ]at j;cases j;refine T (x:=x) (fun a e r=>?_) G;subst e;simp only[dH]at p;cases a<;>simp only[CM]at p<;>(first|cases p|skip)
  ·rename_i b;have D:=jJ r;cases op<;>simp only at p<;>(first|cases p|skip);exact⟨_,.bool _,J _ (fun g=>rfl) (fun g _=>by rw[D];simp[Op.unary])⟩
  ·rename_i k n;have D:=fF r;cases op<;>simp only at p<;>(first|cases p|skip);·exact⟨_,.int _ _,J _ (fun g=>rfl) (fun g _=>by rw[D];simp[Op.unary,Op.intArith])⟩
   ·exact⟨_,.int _ _,J _ (fun g=>rfl) (fun g _=>by rw[D];simp[Op.unary,Op.intBits])⟩|convert sT d x=>
  simp only[iQ]at j;split at j
  ·rename_i k' k A I;cases j;refine T (x:=x) (fun a e r=>?_) G;subst e;cases a<;>simp only[dH]at p<;>(first|cases p|skip);have D:=fF r;exact⟨_,.int _ _,J _ (fun g=>rfl) (fun g _=>by rw[D];simp[convert,run_underlying A,run_underlying I,Conv.intToInt])⟩
  ·rename_i A I;cases j;refine T (x:=x) (fun a e r=>?_) G;subst e;cases a<;>simp only[dH]at p<;>(first|cases p|skip);have D:=fM r;exact⟨_,r,J _ (fun g=>rfl) (fun g _=>by rw[D];simp[convert,run_underlying A,run_underlying I])⟩
  ·cases j|fieldAddr sT x f=>
  simp only[iQ]at j;split at j
  ·rename_i fs s;split at j
   ·rename_i Z f3;split at j
    ·rename_i n Q;split at j;·cases j
     ·rename_i o2;cases j;refine T (x:=x) (fun a e r=>?_) G;subst e;have c2:∀b o,q x=.pointer (some ⟨b,o,none⟩)->∀g,(Instr.fieldAt sT (q x) f).run P g=.ok (.pointer (some ⟨b,o+Z.offset,none⟩)) g:=by
       intro b o e g;rw[e];simp[Instr.fieldAt,run_underlying s,f3,Instr.sureAddr,fieldPlace,jR Q,o2,Addr.add_lit]
      cases a<;>simp only[dH]at p<;>(first|cases p|skip)
      ·rename_i l K;cases F:q x<;>rw[F]at r<;>(first|cases r|skip);rename_i b S;exact⟨_,.ptr l (K+Z.offset) b S,J _ (fun g=>rfl) (fun g _=>c2 b K F g)⟩
      ·rename_i e3 K;cases F:q x<;>rw[F]at r<;>(first|cases r|skip);rename_i b o L d1 d3;exact⟨_,.fptr e3 (K+Z.offset) b o L d1 d3,J _ (fun g=>rfl) (fun g _=>by rw[<-Nat.add_assoc];exact c2 b (o+K) F g)⟩
      ·rename_i l h3 i K;cases F:q x<;>rw[F]at r<;>(first|cases r|skip);rename_i rr S;exact⟨_,.eptr l h3 i (K+Z.offset) rr S,J _ (fun g=>rfl) (fun g _=>by rw[<-Nat.add_assoc];exact c2 rr.block (i*rr.size+K) F g)⟩
    ·cases j
   ·cases j
  ·cases j|field sT x f=>
  simp only[iQ]at j;split at j
  ·rename_i fs s;split at j
   ·rename_i Z f3;split at j
    ·rename_i n f2 Q U;cases j;refine T (x:=x) (fun a e r=>?_) G;subst e;cases a<;>simp only[dH]at p<;>(first|cases p|skip);rename_i cs;obtain⟨L,D,q1⟩:=tJ r;have d2:=IT q1 Z.offset n;refine⟨_,KJ p d2,J _ (fun g=>rfl) (fun g _=>?_)⟩;have V:=KI p;rw[d2.1]at V;rw[D];cases f2 with
     |true=>
      simp[Instr.field,run_underlying s,f3,asAgg,part,uG U,jR Q,mkC];apply kP;rw[PO];simp|false=>
      simp only[dE,bY]at V;cases hl:(L.toList.drop Z.offset).take n with
      |nil=>rw[hl]at V;simp at V|cons u s1=>
       have h0:L[Z.offset]?=some u:=by
        have:=AQ (us:=L.toList) (off:=Z.offset) (size:=n) (j:=0) (u:=u) (by rw[hl];rfl);simpa using this
       simp[Instr.field,run_underlying s,f3,asAgg,part,uG U,h0,mkC]
    ·cases j
   ·cases j
  ·cases j|indexAddr t x i=>
  simp only[iQ]at j;split at j
  ·rename_i e s;split at j
   ·rename_i n Q;cases j;refine X (x:=x) (y:=i) (fun a b e E H=>?_) G;subst e;simp only[dH]at p;obtain⟨u,A,I⟩:=yS1 hi s Q E H p;exact⟨u,A,J _ (fun g=>rfl) (fun g _=>I g)⟩
   ·cases j
  ·rename_i l3 e s;split at j
   ·rename_i n Q;cases j;refine X (x:=x) (y:=i) (fun a b e E H=>?_) G;subst e;have c2:∀Y o k(m:Int),q x=.pointer (some ⟨Y,o,none⟩)->q i=.int k m->0<=m->m<l3->∀g,(Instr.indexAt t (q x) (q i)).run P g=.ok (.pointer (some ⟨Y,o+m.toNat*n,none⟩)) g:=by
     intro Y o k m D M h0 A g;rw[D,M];simp[Instr.indexAt,asIntOf,run_underlying s,Instr.sureAddr,h0,A,jR Q,Addr.add_lit]
    cases a<;>cases b<;>simp only[dH]at p<;>(first|cases p|skip)
    ·rename_i l K k m;split at p
     ·rename_i b3;cases p;cases F:q x<;>rw[F]at E<;>(first|cases E|skip);rename_i Y S;exact⟨_,.ptr l (K+m.toNat*n) Y S,J _ (fun g=>rfl) (fun g _=>c2 Y K k m F (fF H) b3.1 b3.2.1 g)⟩
     ·cases p
    ·rename_i e3 K k m;split at p
     ·rename_i b3;cases p;cases F:q x<;>rw[F]at E<;>(first|cases E|skip);rename_i Y o L d1 d3;exact⟨_,.fptr e3 (K+m.toNat*n) Y o L d1 d3,J _ (fun g=>rfl) (fun g _=>by rw[<-Nat.add_assoc];exact c2 Y (o+K) k m F (fF H) b3.1 b3.2.1 g)⟩
     ·cases p
   ·cases j
  ·cases j|index t x i=>
  simp only[iQ]at j;split at j
  ·rename_i s;cases j;refine X (x:=x) (y:=i) (fun a b e E H=>?_) G;subst e;cases a<;>cases b<;>simp only[dH]at p<;>(first|cases p|skip);rename_i sb k m;split at p
   ·rename_i h0;split at p
    ·rename_i c l1;cases p;refine⟨_,.int _ _,J _ (fun g=>rfl) (fun g _=>?_)⟩;rw[fM E,fF H];have U:(ByteArray.mk sb.toArray)[m.toNat]?=some c:=by
      have g2:m.toNat<(ByteArray.mk sb.toArray).size:=by rw[mY];exact(aV.1 l1).1
      rw[ByteArray.getElem?_lt' _ _ g2];have:(ByteArray.mk sb.toArray)[m.toNat]=sb[m.toNat]'(by rw[mY]at g2;exact g2):=by
       show sb.toArray[m.toNat]'(by simpa[mY]using g2)=_;simp
      rw[this,(aV.1 l1).2]
     simp[Instr.index,asIntOf,run_underlying s,h0,U]
    ·cases p
   ·cases p
  ·rename_i l3 e s;split at j
   ·rename_i n f2 Q U;cases j;refine X (x:=x) (y:=i) (fun a b e E H=>?_) G;subst e;cases a<;>cases b<;>simp only[dH]at p<;>(first|cases p|skip);rename_i cs k m;split at p
    ·rename_i b3;obtain⟨L,D,q1⟩:=tJ E;have d2:=IT q1 (m.toNat*n) n;refine⟨_,KJ p d2,J _ (fun g=>rfl) (fun g _=>?_)⟩;have V:=KI p;rw[d2.1]at V;rw[D,fF H];cases f2 with
     |true=>
      simp[Instr.index,asIntOf,run_underlying s,b3,part,uG U,jR Q,mkC];apply kP;rw[PO];simp|false=>
      simp only[dE,bY]at V;cases hl:(L.toList.drop (m.toNat*n)).take n with
      |nil=>rw[hl]at V;simp at V|cons u s1=>
       have h0:L[m.toNat*n]?=some u:=by
        have:=AQ (us:=L.toList) (off:=m.toNat*n) (size:=n) (j:=0) (u:=u) (by rw[hl];rfl);simpa using this
       simp[Instr.index,asIntOf,run_underlying s,b3,part,uG U,jR Q,h0,mkC]
    ·cases p
   ·cases j
  ·cases j|load t x=>
  simp only[iQ]at j;split at j
  ·rename_i n f2 Q U;cases j;refine T (x:=x) (fun a e r=>?_) G;subst e;simp only[dH]at p;obtain⟨u,A,I⟩:=zz2 hi U Q r p;exact⟨u,A,J _ (fun g=>rfl) I⟩
  ·cases j|extract x i=>
  simp only[iQ]at j;cases j;refine T (x:=x) (fun a e r=>?_) G;subst e;cases a<;>simp only[dH]at p<;>(first|cases p|skip);rename_i vs;cases F:q x<;>rw[F]at r<;>(first|cases r|skip);rename_i L hl hh;obtain⟨u,A,I⟩:=(show RelL C vs L.toList from⟨by simpa using hl,fun i c v j hv=>hh i c v j (by simpa using hv)⟩).get p;exact⟨u,I,J _ (fun g=>rfl) (fun g _=>by rw[F];simp at A;simp[Instr.extract,A])⟩|lookup t m k ok=>
  simp only[iQ]at j;split at j
  ·rename_i kt et s;have fin:∀(e:EK)(z:AV)(d:TypeDesc),(match e with|.s=>d=.string|.i=>∃c1,d=.int c1|.b=>d=.bool)->P.underlying kt=some d->CL P et=some z->ao=.look e ok z->xs=[m,k]->∃u,Rel C v u/\∀g,Below w.heap.size w g->(execOp q {N with op:=.lookup t m k ok}).run P g=.ok (.value u) g:=by
    rintro e z d hd W hz rfl rfl;refine X (x:=m) (y:=k) (fun a b e E H=>?_) G;subst e;obtain⟨u,A,I⟩:=yW6 hi s hd W hz E H p;exact⟨u,A,J _ (fun g=>rfl) I⟩
   split at j;·rename_i z W hz;cases j;exact fin .s z _ rfl W hz rfl rfl
   ·rename_i c1 z W hz;cases j;exact fin .i z _ ⟨c1,rfl⟩ W hz rfl rfl
   ·rename_i z W hz;cases j;exact fin .b z _ rfl W hz rfl rfl
   ·cases j
  ·cases j|makeFunc fn j3 f1=>
  cases fn<;>simp only[iQ]at j<;>(first|cases j|skip);rename_i f;split at j
  ·rename_i hf;cases j;simp only[dH,aT]at p;subst p;have n3:j3.map q=#[]:=by apply NU;simp[hf]
   refine⟨_,.fn f b2 (f1.map q) (by simpa using G.1) (fun i c u j s=>G.2 i c u j (by simpa using s)),fun g _=>?_⟩;simp[execOp,Instr.makeFunc,n3]
  ·split at j
   ·rename_i hf;split at j
    ·rename_i x O;cases j;have i3:f1.map q=#[]:=by apply NU;simp[hf]
     have o1:j3=#[x]:=by rw[<-oW];simpa using O
     refine T (x:=x) (fun a e r=>?_) G;subst e;simp only[dH,aT]at p;subst p;refine⟨_,.mth f a (q x) r,fun g _=>?_⟩;simp[execOp,Instr.makeFunc,i3,o1]
    ·cases j
   ·cases j|makeInterface t x=>
  simp only[iQ]at j;split at j;·cases j
  ·rename_i d o3 s;cases j;refine T (x:=x) (fun a e r=>?_) G;subst e;simp only[dH,aT]at p;subst p;refine⟨_,.iface t a _ r,J _ (fun g=>rfl) (fun g _=>?_)⟩;simp only[Instr.makeInterface,Sem.run_bind,run_underlying s,Result.andThen_ok];cases d<;>first|rfl|exact absurd rfl (o3 _)
  ·cases j|slice t x lo g1 mx=>
  simp only[iQ]at j;have fin:∀j2,(match j2 with|none=>P.underlying t=some .string|some n=>∃e,P.underlying t=some (.slice e)/\eI P e=some n)->ao=.slc j2 lo.isSome g1.isSome mx.isSome->xs=x::(lo.toList++g1.toList++mx.toList)->∃u,Rel C v u/\∀g,Below w.heap.size w g->(execOp q {N with op:=.slice t x lo g1 mx}).run P g=.ok (.value u) g:=by
   rintro j2 l2 rfl rfl;cases b2 with
   |nil=>simp[RelL]at G|cons a as=>
    obtain⟨y,L,e,E,H⟩:=G.inv_cons;injection e with D M;subst D M;simp only[dH]at p;split at p
    ·rename_i l r m n1;obtain⟨l',r',m',a1,a2,a3,rfl,rfl,rfl⟩:=zO2 H n1;have i2:∀u,Rel C v u->(∀g,(Instr.sliceAt t (q x) (bnd l') (bnd r') (bnd m')).run P g=.ok u g)->∃u,Rel C v u/\∀g,Below w.heap.size w g->(execOp q {N with op:=.slice t x lo g1 mx}).run P g=.ok (.value u) g:=fun u A I=>⟨u,A,J _ (fun g=>rfl) (fun g _=>by rw[a1,a2,a3];exact I g)⟩;unfold CA at p;split at p
     ·rename_i sz ll h3 n;split at p
      ·rename_i t2 t3 t1 wr n2;split at p
       ·rename_i j;obtain⟨rfl,rfl,q1,q2,q3,q4,q5⟩:=j;cases p;obtain⟨e,ht,hs⟩:=l2;cases m' with
        |some c1=>cases q1|none=>
         rcases hi.ok ll _ n2 with⟨_,k2⟩|⟨r,s2,k1,k2,k3,k4,k5,k6,k7,k8,k9,k10,k11,k12,_⟩;·subst k2;simp at q5;subst q5;omega
         ·generalize q x=yy at E i2;cases E with
          |ownnil _ _ A=>rw[A]at k1;cases k1|own _ _ _ H A i3=>
           rw[A]at k1;injection k1 with k1;cases k1;obtain⟨u,A,I⟩:=xw6 ht hs A i3 k12 l' r' q2 q3 q4;exact i2 u A I
       ·cases p
      ·cases p
     ·obtain⟨u,A,I⟩:=zO3 l2 E l' r' m' p;exact i2 u A I
    ·cases p
  split at j;·rename_i s;cases j;exact fin none s rfl rfl
  ·rename_i e s;split at j;·rename_i n Q;cases j;exact fin (some n) ⟨e,s,Q⟩ rfl rfl
   ·cases j
  ·cases j|build t s3=>
  simp only[iQ]at j;split at j
  ·rename_i z pl hz p1;split at j
   ·rename_i qs hq;cases j;simp only[dH]at p;cases S:eO z qs b2 with
    |none=>simp[S]at p|some as=>
     simp only[S,fC,aT]at p;subst p;obtain⟨m3,A,I⟩:=ym8 hz p1 hq (ρ:=q) (by simpa[List.map_map,Function.comp_def]using G) S;exact⟨_,.agg as m3 (by simpa using A.1) (fun i c u j s=>A.2 i c u j (by simpa using s)),J _ (fun g=>rfl) (fun g _=>I g)⟩
   ·cases j
  ·cases j|nilCheck x=>
  simp only[iQ]at j;cases j;refine T (x:=x) (fun a e r=>?_) G;subst e;cases a<;>simp only[dH]at p<;>(first|cases p|skip)
  ·cases F:q x<;>rw[F]at r<;>(first|cases r|skip);rename_i l K b S;exact⟨_,.ptr l K b S,fun g _=>by simp[execOp,F]⟩
  ·cases F:q x<;>rw[F]at r<;>(first|cases r|skip);rename_i e3 K b o L d1 d3;exact⟨_,.fptr e3 K b o L d1 d3,fun g _=>by simp[execOp,F]⟩
  ·cases F:q x<;>rw[F]at r<;>(first|cases r|skip);rename_i l h3 i K rr S;exact⟨_,.eptr l h3 i K rr S,fun g _=>by simp[execOp,F]⟩
  ·cases F:q x<;>rw[F]at r<;>(first|cases r|skip);rename_i f f1 vs hl hh;exact⟨_,.fn f f1 vs hl hh,fun g _=>by simp[execOp,F]⟩|call c=>
  obtain⟨m2,i1,m1⟩:=c;cases m2 with
  |builtin b=>
   cases b<;>simp only[iQ]at j<;>(first|cases j|skip)
   ·split at j
    ·rename_i t x ht O;have et:m1=#[t]:=by apply kP;simpa using ht
     have ex:i1=#[x]:=by apply kP;simpa using O
     subst et ex;have fin:∀k,zg4 P t k->ao=.len k->xs=[x]->∃u,Rel C v u/\∀g,Below w.heap.size w g->(execOp q {N with op:=.call ⟨.builtin .len,#[x],#[t]⟩}).run P g=.ok (.value u) g:=by
      rintro k W rfl rfl;refine T (x:=x) (fun a e r=>?_) G;subst e;simp only[dH]at p;obtain⟨u,A,I⟩:=yV9 (ty:=N.type) hi r p W;exact⟨u,A,fun g p2=>by simp[execOp,resolve,invoke,builtin,I g p2]⟩
     split at j;·rename_i s;cases j;exact fin 0 s rfl rfl
     ·rename_i e s;cases j;exact fin 1 ⟨_,s⟩ rfl rfl
     ·rename_i c1 e s;cases j;exact fin 2 ⟨_,_,s⟩ rfl rfl
     ·cases j
    ·cases j
   ·split at j
    ·rename_i x y O;have ex:i1=#[x,y]:=by apply kP;simpa using O
     subst ex;cases j;refine X (x:=x) (y:=y) (fun a b e E H=>?_) G;subst e;simp only[dH]at p;obtain⟨k,m,n,rfl,rfl,rfl⟩:=yX8 p;have D:=fF E;have M:=fF H;exact⟨_,.int _ _,fun g _=>by simp[execOp,resolve,invoke,builtin,D,M,Builtin.max_,Builtin.max2]⟩
    ·cases j
   ·split at j
    ·rename_i x y O;have ex:i1=#[x,y]:=by apply kP;simpa using O
     subst ex;cases j;refine X (x:=x) (y:=y) (fun a b e E H=>?_) G;subst e;simp only[dH]at p;obtain⟨k,m,n,rfl,rfl,rfl⟩:=yY1 p;have D:=fF E;have M:=fF H;exact⟨_,.int _ _,fun g _=>by simp[execOp,resolve,invoke,builtin,D,M,Builtin.min_,Builtin.min2]⟩
    ·cases j|value f=>simp[iQ]at j|invoke r m=>simp[iQ]at j
 |_=>simp[iQ]at j
end
end Go.Proofs.YtdebajodkallbaaGreatDoor
