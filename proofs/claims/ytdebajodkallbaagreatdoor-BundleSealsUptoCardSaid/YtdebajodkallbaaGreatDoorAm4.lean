/- append,make,slice literals -/
import Derived.Test.YtdebajodkallbaaGreatDoorAm3
namespace Go.Proofs.YtdebajodkallbaaGreatDoor
open Go.RowKit
section
variable{P:Program}{B:Base}{C D:Cx}{h:aA}{w w':World}{G:Gam}
theorem PS{b size:Nat}:∀(g:List (List AV))(o:Nat)(e:Nat->Nat->Value),(∀a∈g,a.length=size)->(∀(i:Nat)a(j:Nat)c,g[i]?=some a->a[j]?=some c->C.im b (o+i*size+j)=some (e i j))->(∀(i:Nat)a(j:Nat)c,g[i]?=some a->a[j]?=some c->Rel (Cx.pure C.im) c (e i j))->∃l,RelL (Cx.pure C.im) g.flatten l/\∀(j:Nat)u,l[j]?=some u->C.im b (o+j)=some u
 |[],o,e,_,_,_=>⟨[],.nil,fun j u d=>by simp at d⟩|r::t,o,e,n,k,m=>by
  obtain⟨l,p,q⟩:=PS t (o+size) (fun i j=>e (i+1) j) (fun x s=>n x (by simp[s])) (fun i a j c x y=>by
    have:=k (i+1) a j c (by simpa using x) y;rwa[show o+(i+1)*size+j=o+size+i*size+j by rw[gR];omega]at this) (fun i a j c x y=>m (i+1) a j c (by simpa using x) y);have v:r.length=size:=n r (by simp);refine⟨(List.range r.length).map (e 0)++l,?_,fun j u d=>?_⟩
  ·rw[oY];exact(zL9 (fun j c d=>m 0 r j c rfl d)).append p
  ·by_cases f:j<r.length
   ·rw[gC (by simpa using f),tN,List.getElem?_range f]at d;simp at d;subst d;have:=k 0 r j r[j] rfl (by simp[f]);simpa using this
   ·rw[fT (by simpa using Nat.le_of_not_lt f)]at d;have:=q _ u d;simp at this;rwa[show o+size+(j-r.length)=o+j by omega]at this
theorem ZB(J:Inv B C h w){tx:TypeId}{y:Nat}{str:Bool}{a:AV}{x:Value}{p:List (List AV)}(m:Rel C a x)(f:kF h str a=some p)(S:dB y p=true)(O:str=true->P.underlying tx=some .string/\y=1)(E:str=false->∃e,P.underlying tx=some (.slice e)):∃v,Src P y tx x p.length v w/\RelL (Cx.pure C.im) p.flatten v:=by
 have z:=uK S;have A:=mH p z;have N:∀(d:List (List AV)),d=p->Rel C (.sl d) x->str=false->∃v,Src P y tx x p.length v w/\RelL (Cx.pure C.im) p.flatten v:=by
  rintro d rfl hr a3;obtain⟨e,g⟩:=E a3;cases hr with
  |slnil=>exact⟨[],Src.ofNil w g 0,.nil⟩|slz a H=>exact⟨[],Src.ofSlice w g a 0 H [] (by simp) (fun j u k=>by simp at k) (fun u g=>by simp at g),.nil⟩|sl _ b o H c1 us Y t W X=>
   obtain⟨l,k1,k2⟩:=PS (size:=y) d o us z (fun i M j c x b2=>by
    have:=W i M j c x b2;rwa[<-t i M x,z M (fB x)]at this) X;have K:=k1.1;refine⟨l,Src.ofSlice w g ⟨b,o,none⟩ d.length H l (by rw[<-K,A]) (fun j u k=>by rw[Addr.add_lit];exact J.im _ _ _ (k2 j u k)) (fun u g=>?_),k1⟩;obtain⟨j,k⟩:=tO.1 g;exact J.one _ _ _ (k2 j u k)
 cases str with
 |true=>
  simp only[kF,bD]at f;split at f
  ·rename_i s;cases f;obtain⟨g,rfl⟩:=O rfl;have:=fM m;subst this;refine⟨byteCells ⟨s.toArray⟩,?_,?_,fun i c u q F=>?_⟩
   ·have:=Src.ofString (P:=P) w g ⟨s.toArray⟩;rw[mY]at this;simpa using this
   ·rw[byteCells_length,mY];simpa using A
   ·have Z:(s.map fun b=>([AV.int .u8 b.toNat]:List AV)).flatten=s.map fun b=>AV.int .u8 b.toNat:=by
     clear m S z A q F O E N;induction s with
     |nil=>rfl|cons b s ih=>simp[ih]
    rw[Z,tN]at q;simp only[byteCells,tN]at F;cases T:s[i]? with
    |none=>simp[T]at q|some b=>
     simp[T]at q F;subst q F;exact .int _ _
  ·cases f|false=>
 simp only[kF,dE,bY]at f;cases a with
 |sl d=>simp only[rowsOf,aT]at f;exact N d f m rfl|tsl d=>simp only[rowsOf,aT]at f;exact N d f (zJ0 m) rfl|nils=>
  simp only[rowsOf,aT]at f;subst f;obtain⟨e,g⟩:=E rfl;cases m;exact⟨[],Src.ofNil w g 0,.nil⟩|own l c2 n=>
  simp only[rowsOf]at f;obtain⟨e,g⟩:=E rfl;split at f
  ·rename_i sz c3 d wr K;split at f
   ·rename_i q;obtain⟨rfl,hn⟩:=q;cases f;have L:(d.take n).length=n:=by simp;omega
    cases m with
    |ownnil _ _ t=>simp;exact⟨[],Src.ofNil w g 0,.nil⟩|own _ _ _ r t Y=>
     rcases J.ok l _ K with⟨k1,_⟩|⟨r',I,k1,k2,k3,k4,k5,k6,k7,k8,b1,_⟩;·rw[t]at k1;cases k1
     ·rw[t]at k1;injection k1 with k1;cases k1;have hm:n*r.size<=d.length*r.size:=kQ _ hn;have b3:d.length*r.size<=I.size:=by rw[k7];exact kQ _ k3
      have a1:(d.take n).flatten=d.flatten.take (n*r.size):=by
       have U:d.flatten=(d.take n).flatten++(d.drop n).flatten:=by rw[<-HU,oZ]
       have V:(d.take n).flatten.length=n*r.size:=by rw[mH (n:=r.size) _ (fun x m=>k5 x (vF m)),L]
       conv=>rhs;rw[U,AE,pA (by omega),V,Nat.sub_self]
       simp
      have Q:RelL (Cx.pure C.im) (d.take n).flatten (I.toList.take (n*r.size)):=by
       rw[a1];have:=k8.take (n*r.size);rwa[AF,vH hm]at this
      have a2:=Q.1;rw[L];refine⟨_,Src.ofSlice w g ⟨r.block,0,none⟩ n r.cap (I.toList.take (n*r.size)) (by rw[<-a2,A,L]) (fun j u k=>?_) (fun u g=>b1 u ?_),Q⟩
      ·rw[Addr.add_lit,cell_of_heap k6,eR];rw[fZ]at k;split at k;·simpa using k
       ·cases k
      ·obtain⟨j,k⟩:=tO.1 g;rw[fZ]at k;split at k;·exact fB (i:=j) (by rw[fZ,if_pos (by omega)];exact k)
       ·cases k
   ·cases f
  ·cases f|_=>simp[rowsOf]at f
theorem xm2{t j p e:TypeId}{i:TypeInfo}(o:P.underlying t=some (.slice e))(l:P.info? e=some i){b:Option Addr}{d c:Nat}{x:Value}{g:List Value}(a:Src P i.size j x 0 g w)(m:d<=c):(Builtin.append_ #[t,j] p #[.slice b d c,x]).run P w=.ok (.slice b d c) w:=by
 have n:g=[]:=vC (by rw[a.newsLen];simp);subst n;have k:=a.cells;rcases a.kind with⟨q,f⟩|f<;>cases b<;>simp[Builtin.append_,run_underlying o,run_underlying f,sizeOf,typeInfo,l,a.len,m,k,storeCells]
theorem xo2{b:Nat}{e:TypeId}{d:Nat×Nat}(c:List Value)(o:Nat)(w:World)(a:Array Value)(f:w.heap[b]?=some (.cells a e d))(g:o+c.length<=a.size):(w.setCells b o c).heap[b]?=some (.cells (a.toList.take o++c++a.toList.drop (o+c.length)).toArray e d):=by
 rw[TU c o a w f g];exact setRow_heap w b a _ e d f
theorem YK(b:Nat):∀(a:List Value)(o:Nat)(w:World)(k:Nat),k≠b->(w.setCells b o a).heap[k]?=w.heap[k]?
 |[],_,_,_,_=>rfl|v::a,o,w,k,c=>by
  simp only[World.setCells];rw[YK b a (o+1) _ k c,heap_setCell_other w ⟨b,o,none⟩ k v c]
theorem setCells_size(b:Nat):∀(a:List Value)(o:Nat)(w:World),(w.setCells b o a).heap.size=w.heap.size
 |[],_,_=>rfl|v::a,o,w=>by simp only[World.setCells];rw[setCells_size b a];simp[World.setCell]
theorem zN8{b:Nat}(c:B<=b):∀(a:List Value)(o:Nat)(w:World),Keep B w (w.setCells b o a)
 |[],_,w=>Keep.refl _ _|v::a,o,w=>by simp only[World.setCells];exact((Keep.refl _ _).setCell (p:=⟨b,o,none⟩) c v).trans (zN8 c a (o+1) _)
theorem yB2{t o ty e:TypeId}{i:TypeInfo}{z:Value}(v:P.underlying t=some (.slice e))(s:P.info? e=some i)(y:i.zero=some z)(A:z.cells.size=i.size){j:Option Addr}{a b:Nat}{c:List Value}(hold:(Builtin.firstCells i.size a (.slice j a b)).run P w.drew=.ok c.toArray w.drew)(l:c.length=a*i.size){x:Value}{n:Nat}{g:List Value}(m:Src P i.size o x n g w)(q:b<a+n)(r:(a+n)*i.bytes<=bT)(u:a+n<=bT):∃(d:Nat)(k:Array Value),a+n<=d/\d<=maxLen/\k.size=d*i.size/\k.toList.take ((a+n)*i.size)=c++g/\(Builtin.append_ #[t,o] ty #[.slice j a b,x]).run P w=.ok (.slice (some ⟨w.heap.size,0,none⟩) (a+n) d) (w.drew.alloc (.cells k e)):=by
 have p:a+n<=maxLen:=by unfold bT at u;unfold maxLen;omega
 refine⟨grownCap w (a+n) b e,((c++g).toArray++Builtin.zeroCells z.cells (grownCap w (a+n) b e-(a+n))),grownCap_ge w _ _ _,grownCap_le_maxLen w _ _ _ p,?_,?_,run_append_grow_src w t o ty e i z v s y j a b c hold x n g m q (by unfold maxLen at p;omega) (growslice_fits q r)⟩
 ·have E:=grownCap_ge w (a+n) b e;have f:=m.newsLen;rw[Array.size_append,size_zeroCells,A];simp only[List.size_toArray,bX,l,f];rw[<-gR,<-gR];congr 1;omega
 ·have f:=m.newsLen;rw[Array.toList_append];simp only;rw[AE,pA (by rw[bX,l,f,gR];exact dA _)];rw[bX,l,f,<-gR,Nat.sub_self];simp
theorem vJ(w:World)(o:Obj):Below w.heap.size w (w.drew.alloc o):=(TJ w).alloc (dA _) o
theorem zi8(g:Inv B C h w){t Z ty e:TypeId}{n bytes:Nat}{s2:List AV}(H:P.underlying t=some (.slice e))(hn:eI P e=some n)(X:wP P e=some bytes)(hz:kK P e=some s2)(G3:s2.length=n){m2 d1 d3:AV}{z x:Value}{h':aA}{c:List (List AV)}{n1:Bool}(Q:Rel C m2 z)(hx:Rel C d1 x)(ha:kF h n1 d1=some c)(p3:dB n c=true)(w2:n1=true->P.underlying Z=some .string/\n=1)(w3:n1=false->∃e,P.underlying Z=some (.slice e)){te:Option TypeId}(m1:CH te e)(d:lN te n bytes h m2 c=some (d3,h')):∃u D w',(Builtin.append_ #[t,Z] ty #[z,x]).run P w=.ok u w'/\C.Le D/\Inv B D h' w'/\Rel D d3 u/\Keep B w w':=by
 obtain⟨i,zv,g2,z3,z1⟩:=FT (C:=C) hz;have Y:i.size=n:=by simpa[eI,g2]using hn
 have v1:i.bytes=bytes:=by simpa[wP,g2]using X
 have z2:zv.cells.size=i.size:=by have:=z1.1;simp at this;omega
 obtain⟨S,d2,p1⟩:=ZB g hx ha p3 w2 w3;rw[<-Y]at d2;have x3:=d2.newsLen;have o1:=uK p3;have g1:∀(p:c=[])(s:Option Addr)(m3 y:Nat),z=.slice s m3 y->m3<=y->(Builtin.append_ #[t,Z] ty #[z,x]).run P w=.ok z w:=by
  rintro rfl s m3 y rfl x1;exact xm2 H g2 d2 x1
 have n3:∀a:List (List AV),(a++c).flatten=a.flatten++c.flatten:=fun a=>HU;have j3:∀(a:List (List AV))(s:Option Addr)(y:Nat)(m:List Value),z=.slice s a.length y->y<a.length+c.length->(∀q∈a,q.length=n)->m.length=a.length*n->RelL (Cx.pure C.im) a.flatten m->(∀u∈m,u.oneCell'=true)->(Builtin.firstCells n a.length (.slice s a.length y)).run P w.drew=.ok m.toArray w.drew->(a.length+c.length)*bytes<=bT->a.length+c.length<=bT->∃(N:Nat)(f:Array Value),a.length+c.length<=N/\N<=maxLen/\f.size=N*n/\(∀q∈a++c,q.length=n)/\RelL (Cx.pure C.im) (a++c).flatten (f.toList.take ((a++c).length*n))/\(∀u∈f.toList.take ((a++c).length*n),u.oneCell'=true)/\(Builtin.append_ #[t,Z] ty #[z,x]).run P w=.ok (.slice (some ⟨w.heap.size,0,none⟩) (a.length+c.length) N) (w.drew.alloc (.cells f e)):=by
  rintro a s y m rfl hg e3 i2 y3 y2 hold hB hM;obtain⟨N,f,T,a2,U,M,V⟩:=yB2 (P:=P) (w:=w) (ty:=ty) H g2 z3 z2 (by rw[Y];exact hold) (by rw[Y];exact i2) d2 hg (by rw[v1];exact hB) hM;rw[Y]at U M;refine⟨N,f,T,a2,U,fun q L=>?_,?_,fun u k=>?_,V⟩
  ·rcases kD.1 L with L|L;·exact e3 q L
   ·exact o1 q L
  ·rw[bX,M,n3];exact y3.append p1
  ·rw[bX,M]at k;rcases kD.1 k with k|k;·exact y2 u k
   ·exact d2.one u k
 cases m2 with
 |nils=>
  cases Q;simp only[lN]at d;split at d
  ·rename_i p;injection d with d;injection d with F J;subst F J;exact⟨_,C,w,g1 p none 0 0 rfl (dA _),.refl C,g,.nils,.refl _ _⟩
  ·rename_i p;split at d
   ·rename_i O;injection d with d;injection d with F J;subst F J;have i3:0<c.length:=vD.2 p;obtain⟨N,f,T,a2,U,M,V,a6,a7⟩:=j3 [] none 0 [] rfl (by simpa using i3) (by simp) (by simp) .nil (by simp) (by simpa using run_firstCells_none (P:=P) w.drew n 0 0 0) (by simpa using O.1) (by simpa using O.2);simp only[kZ,gQ,eR]at T M V a6 a7;obtain⟨b1,W,b3⟩:=TA g (vJ w (.cells f e)) (by simpa[RowAt.fz]using qU w.drew (.cells f e)) T a2 M U V a6 ⟨m1,fun _=>p⟩;exact⟨_,_,_,a7,b3,b1,W,jU g (vJ w _)⟩
   ·cases d|tsl a=>
  simp only[lN]at d;split at d
  ·rename_i p;injection d with d;injection d with F J;subst F J;refine⟨z,C,w,?_,.refl C,g,Q,.refl _ _⟩;cases Q with
   |tslnil=>exact g1 p none 0 0 rfl (dA _)|tslz d1=>exact g1 p (some d1) 0 0 rfl (dA _)|tsl _ b o B2 us v h2 h3=>exact g1 p _ _ _ rfl (dA _)
  ·rename_i p;split at d
   ·rename_i O;obtain⟨c1,c2,c3⟩:=O;injection d with d;injection d with F J;subst F J;have i3:0<c.length:=vD.2 p;have e3:=uK c3;have A2:∃s m,z=.slice s a.length a.length/\m.length=a.length*n/\RelL (Cx.pure C.im) a.flatten m/\(∀u∈m,u.oneCell'=true)/\(Builtin.firstCells n a.length (.slice s a.length a.length)).run P w.drew=.ok m.toArray w.drew:=by cases Q with
     |tslnil=>exact⟨none,[],rfl,by simp,.nil,by simp,by simpa using run_firstCells_none (P:=P) w.drew n 0 0 0⟩|tslz d1=>exact⟨some d1,[],rfl,by simp,.nil,by simp,by simpa using run_firstCells_some (P:=P) w.drew n 0 d1 0 0 [] (by simp) (fun j u I=>by simp at I)⟩|tsl _ b o B2 us v h2 h3=>
      obtain⟨l,k1,k2⟩:=PS (size:=n) a o us e3 (fun i q j s3 x D2=>by
       have:=h2 i q j s3 x D2;rwa[<-v i q x,e3 q (fB x)]at this) h3;have i1:=k1.1;rw[mH a e3]at i1;refine⟨_,l,rfl,i1.symm,k1,fun u k=>?_,run_firstCells_some w.drew n a.length ⟨b,o,none⟩ a.length a.length l i1.symm (fun j u I=>by rw[Addr.add_lit];simpa using g.im _ _ _ (k2 j u I))⟩;obtain⟨j,I⟩:=tO.1 k;exact g.one _ _ _ (k2 j u I)
    obtain⟨s,m,q1,q2,q3,q4,q5⟩:=A2;obtain⟨N,f,T,a2,U,M,V,a6,a7⟩:=j3 a s a.length m q1 (by omega) e3 q2 q3 q4 q5 c1 c2;obtain⟨b1,W,b3⟩:=TA g (vJ w (.cells f e)) (by simpa[RowAt.fz]using qU w.drew (.cells f e)) (by rw[bX];exact T) a2 M U V a6 ⟨m1,fun _ e=>p (List.append_eq_nil_iff.1 e).2⟩;rw[bX]at W;exact⟨_,_,_,a7,b3,b1,W,jU g (vJ w _)⟩
   ·cases d|own l E r3=>
  simp only[lN]at d;split at d
  ·rename_i tg A H1 a wr hl;split at d
   ·rename_i O;obtain⟨rfl,rfl,rfl,rfl⟩:=O;split at d
    ·rename_i p;injection d with d;injection d with F J;subst F J;refine⟨z,C,w,?_,.refl C,g,Q,.refl _ _⟩;generalize hm:a.length=r3 at Q;cases Q with
     |ownnil _ _ v=>exact g1 p none 0 0 rfl (dA _)|own _ _ _ r v v2=>exact g1 p _ _ _ rfl v2
    ·rename_i p;split at d
     ·rename_i O;obtain⟨c1,c2⟩:=O;injection d with d;injection d with F J;subst F J;have i3:0<c.length:=vD.2 p;have v3:C.ar l (E+c.length)=none:=g.fv l _ _ _ E a true hl (E+c.length) (by omega);have i1:l<h.length:=(aV.1 hl).1;have n2:∀(r:RowAt)(f:Array Value)(w':World),r.size=A->a.length+c.length<=r.cap->r.cap<=maxLen->(∀q∈a++c,q.length=A)->w'.heap[r.block]?=some (.cells f r.elem r.fz)->f.size=r.cap*A->B<=r.block->RelL (Cx.pure C.im) (a++c).flatten (f.toList.take ((a++c).length*A))->(∀u∈f.toList.take ((a++c).length*A),u.oneCell'=true)->(∀o,C.im r.block o=none)->CH (sN tg te) r.elem->(∀b,bJ C l (.arrT tg A E a true)≠some b->b<w.heap.size->w'.heap[b]?=w.heap[b]?)->(bJ C l (.arrT tg A E a true)=some r.block\/w.heap.size<=r.block)->w.heap.size<=w'.heap.size->(∀b o u,C.im b o=some u->w'.cell? ⟨b,o,none⟩=some u)->∃D,C.Le D/\Inv B D (h.set l (.arrT (sN tg te) A (E+c.length) (a++c) true)) w'/\Rel D (.own l (E+c.length) (a.length+c.length)) (.slice (some ⟨r.block,0,none⟩) (a.length+c.length) r.cap):=by
       intro r f w' F f1 f2 f3 f4 f5 f6 f7 f8 f9 u2 t1 t2 t3 u1;subst F;have he:=JH (w:=w) (some r) v3;have l1:(C.addAr l (E+c.length) (some r)).ar l (E+c.length)=some (some r):=by simp[Cx.addAr]
       refine⟨C.addAr l (E+c.length) (some r),he.le,?_,.own _ _ _ r l1 f1⟩;refine g.turn hl he.le t3 (fun b X l2=>⟨t1 b X l2,fun _=>rfl⟩) u1 g.one ?_ (fun b X=>?_) (fun j2 K=>?_) (fun j2 A3 C1 B3 C3 B1 D1 K d3 hv=>?_);·exact .inr ⟨r,f,l1,f6,by simpa using f1,f2,f3,f4,f5,f7,f8,fun _ o=>f9 o,(fun e=>by cases e),rfl,u2,fun _ e=>p (List.append_eq_nil_iff.1 e).2⟩
       ·simp only[bJ,l1,aT]at X;subst X;exact t2
       ·have:=g.fr j2 K;refine⟨this.1,fun d3=>?_⟩;simp only[Cx.addAr];rw[if_neg (by omega)];exact this.2 d3
       ·simp only[Cx.addAr];rw[iY]at K;by_cases ek:l=j2
        ·subst ek;rw[if_pos rfl,if_pos i1]at K;injection K with K;injection K with E3 E2 E1 K;subst K;rw[if_neg (by omega)];exact g.fv l _ _ _ E a true hl d3 (by omega)
        ·rw[if_neg ek]at K;rw[if_neg (fun x=>ek x.1.symm)];exact g.fv j2 A3 C1 B3 C3 B1 D1 K d3 hv
      have A1:CH (sN tg te) e:=fun t H=>by
       unfold sN at H;split at H;·exact m1 t H
       ·cases H
      have C2:∀o,C.im w.heap.size o=none:=fun o=>by cases O:C.im w.heap.size o with
       |none=>rfl|some u=>have:=rR (g.im _ _ _ O);omega
      have s1:∀(s:Option Addr)(y:Nat)(m:List Value),z=.slice s a.length y->y<a.length+c.length->(∀q∈a,q.length=A)->m.length=a.length*A->RelL (Cx.pure C.im) a.flatten m->(∀u∈m,u.oneCell'=true)->(Builtin.firstCells A a.length (.slice s a.length y)).run P w.drew=.ok m.toArray w.drew->∃u D w',(Builtin.append_ #[t,Z] ty #[z,x]).run P w=.ok u w'/\C.Le D/\Inv B D (h.set l (.arrT (sN tg te) A (E+c.length) (a++c) true)) w'/\Rel D (.own l (E+c.length) (a.length+c.length)) u/\Keep B w w':=by
       intro s y m q1 q2 q3 q4 q5 q6 q7;obtain⟨N,f,T,a2,U,M,V,a6,a7⟩:=j3 a s y m q1 q2 q3 q4 q5 q6 q7 c1 c2;obtain⟨D,b1,W,b3⟩:=n2 ⟨w.heap.size,N,A,e,false⟩ f _ rfl T a2 M (by simpa[RowAt.fz]using qU w.drew (.cells f e)) U g.hB V a6 C2 (A1) (fun b _ l2=>(vJ w (.cells f e)).block b l2) (.inr (dA _)) (vJ w (.cells f e)).size (vT g (vJ w _));exact⟨_,D,_,a7,b1,W,b3,jU g (vJ w _)⟩
      rcases g.ok l _ hl with⟨k1,k2⟩|⟨r,f,k1,k2,k3,k4,k5,k6,k7,k8,r2,k9,k10,k11⟩;·
       subst k2;have j1:z=.slice none 0 0:=by cases Q with
        |ownnil _ _ _=>rfl|own _ _ _ r v _=>rw[k1]at v;cases v
       exact s1 none 0 [] j1 (by simpa using i3) (by simp) (by simp) .nil (by simp) (by simpa using run_firstCells_none (P:=P) w.drew A 0 0 0)
      ·obtain⟨k11,k12⟩:=k11;subst k11;have j1:z=.slice (some ⟨r.block,0,none⟩) a.length r.cap:=by
        generalize a.length=r3 at Q;cases Q with
        |ownnil _ _ v=>rw[k1]at v;cases v|own _ _ _ r' v _=>rw[k1]at v;injection v with v;cases v;rfl
       have o2:bJ C l (.arrT tg r.size E a true)=some r.block:=by simp[bJ,k1]
       have G1:a.length*r.size<=f.size:=by rw[k7];exact kQ _ k3
       have D3:=mH a k5;by_cases l3:a.length+c.length<=r.cap;·
        have o3:(a.length+c.length)*r.size<=f.size:=by rw[k7];exact kQ _ l3
        have G2:S.length=c.length*r.size:=by rw[x3,Y]
        rw[gR]at o3;have y1:Src P i.size Z x c.length S w:=d2;have p2:=run_append_room_src (P:=P) w t Z ty e i H g2 r.block 0 a.length r.cap x c.length S y1 l3 (fun j I=>by rw[cell_of_heap k6,Y];simp;omega) (fun j I=>by rw[Y];exact RowAt.thaw k6 (by rw[k7]at o3;omega));rw[eR,Y]at p2;have w1:=xo2 S (a.length*r.size) w f k6 (by omega);have r1:((f.toList.take (a.length*r.size)++S++f.toList.drop (a.length*r.size+S.length)).toArray).toList.take ((a++c).length*r.size)=f.toList.take (a.length*r.size)++S:=by
         simp only;rw[List.take_append_of_le_length (by simp;rw[gR];omega),pA (by simp;rw[gR];omega)]
        obtain⟨D,b1,W,b3⟩:=n2 r _ _ rfl l3 k4 (fun q L=>by
          rcases kD.1 L with L|L;·exact k5 q L
          ·exact o1 q L) w1 (by simp;omega) k2 (by rw[r1,n3];exact k8.append p1) (fun u k=>by
          rw[r1]at k;rcases kD.1 k with k|k;·exact r2 u k
          ·exact d2.one u k) (k9 rfl) (fun t H=>by
          unfold sN at H;split at H;·rename_i he;exact k12.1 t (by rw[he];exact H)
          ·cases H) (fun b X _=>YK r.block S _ w b (fun e=>X (by rw[o2,e]))) (.inl o2) (by rw[setCells_size];exact dA _) (fun b o u k=>by
          have x2:b≠r.block:=fun e=>by subst e;rw[k9 rfl o]at k;cases k
          have:=g.im _ _ _ k;simp only[World.cell?]at this⊢;rw[YK r.block S _ w b x2];exact this);exact⟨_,D,_,by rw[j1];exact p2,b1,W,b3,zN8 k2 _ _ _⟩
       ·have i2:(f.toList.take (a.length*r.size)).length=a.length*r.size:=by simp;omega
        exact s1 (some ⟨r.block,0,none⟩) r.cap (f.toList.take (a.length*r.size)) j1 (by omega) k5 i2 k8 r2 (run_firstCells_some w.drew r.size a.length ⟨r.block,0,none⟩ a.length r.cap _ i2 (fun j u I=>by
          rw[Addr.add_lit,World.cell?_drew,cell_of_heap k6,eR];rw[fZ]at I;split at I;·simpa using I
          ·cases I))
     ·cases d
   ·cases d
  ·cases d|_=>simp[lN]at d
end
section
variable{P:Program}{B:Base}{C D:Cx}{h:aA}{w w':World}{G:Gam}
def World.put(w:World)(b:Nat)(o:Obj):World:={w with heap:=w.heap.setIfInBounds b o}
theorem BQ{b:Nat}{o c:Obj}(a:w.heap[b]?=some c):(World.put w b o).heap[b]?=some o:=by simp[World.put,gY a]
theorem FI{b k:Nat}{o:Obj}(a:k≠b):(World.put w b o).heap[k]?=w.heap[k]?:=by
 simp only[World.put,Array.getElem?_setIfInBounds];rw[if_neg (fun e=>a e.symm)]
theorem XS{b:Nat}{o:Obj}:(World.put w b o).heap.size=w.heap.size:=by simp[World.put]
theorem yQ{b:Nat}{o d:Obj}(i:B<=b)(g:w.heap[b]?=some d)(f:∀c,d≠.deferred c):Keep B w (World.put w b o):=⟨⟨rfl,rfl,rfl,by rw[XS];exact dA _,fun k a=>FI (by omega)⟩,fun k c a=>by
 by_cases e:k=b;·subst e;rw[g]at a;injection a with a;exact absurd a (f c)
 ·rw[FI e];exact a⟩
theorem zH4{b k o:Nat}{x:Obj}{u:Value}(c:k≠b)(a:w.cell? ⟨k,o,none⟩=some u):(World.put w b x).cell? ⟨k,o,none⟩=some u:=by
 simp only[World.cell?]at a⊢;rw[FI c];exact a
theorem zA(g:Inv B C h w){l b:Nat}{s i:Blk}{o x:Obj}(z:h[l]?=some s)(M:C.bl l=some b)(t:bJ C l s=some b)(H:w.heap[b]?=some o)(E:∀c e f,o≠.cells c e f)(L:B<=b)(I:BlkOK B C (World.put w b x) l i)(y:∀d,bJ C l i=some d->d=b)(A:∀n tg q r p wr,i≠.arrX n tg q r p wr):Inv B C (h.set l i) (World.put w b x):=by
 refine g.turn z (.refl C) (by rw[XS];exact dA _) (fun d j _=>⟨FI (fun e=>j (by rw[t,e])),fun _=>rfl⟩) (fun d N u J=>?_) g.one I (fun d j=>.inl (by rw[t,y d j])) g.fr (fun k n tg q r p wr a v K=>?_)
 ·have m:=g.im _ _ _ J;have F:d≠b:=fun e=>by
   subst e;simp only[World.cell?,H]at m;cases o<;>simp at m;rename_i c e f;exact E c e f rfl
  exact zH4 F m
 ·rw[iY]at a;split at a
  ·split at a;·injection a with a;exact absurd a (A _ _ _ _ _ _)
   ·cases a
  ·exact g.fv k n tg q r p wr a v K
theorem zy2{e:EK}{k:AV}{y:Value}(h:isKey e k=true)(a:Rel C k y):Rel D k y:=by
 cases e<;>cases k<;>simp only[isKey]at h<;>(first|cases h|skip);·rw[jJ a];exact .bool _
 ·rw[fF a];exact .int _ _
 ·rw[fM a];exact .str _
def yb3(e:EK)(d:TypeDesc):Prop:=match e with|.s=>d=.string|.i=>∃q,d=.int q|.b=>d=.bool
theorem yV0{a:TypeId}{e:EK}(h:ES P a=some e):∃d,P.underlying a=some d/\yb3 e d:=by
 obtain⟨d,b,c⟩:=yU9 h;exact⟨d,b,by cases e<;>exact c⟩
theorem zB5(hi:Inv B C h w){t Z et:TypeId}{e:EK}(X:P.underlying t=some (.map Z et))(hk:ES P Z=some e){l:Nat}{k v c1:AV}{c2 y z:Value}{I:aA}{g H:List (AV×AV)}(hx:Rel C (.map l) c2)(hy:Rel C k y)(hz:Rel C v z)(e2:isKey e k=true)(hf:frz h v=some (c1,I))(K:I[l]?=some (.map g))(hp:vW e k c1 g=some H):∃D w',(Instr.mapUpdate t c2 y z).run P w=.ok () w'/\C.Le D/\Inv B D (I.set l (.map H)) w'/\Keep B w w':=by
 obtain⟨D,T,F,U,V,d5⟩:=tZ hi hf hz;obtain⟨d,u,hd⟩:=yV0 hk;have J:(match(generalizing:=false)e with|.s=>d=.string|.i=>∃q,d=.int q|.b=>d=.bool):=by cases e<;>exact hd
 cases hx with|map _ b W=>
  obtain⟨S,s,o,M,n,a,N,O,Q,x⟩:=F.ok l _ K;rw[V,W]at M;cases M;have f:D.bl l=some b:=by rw[V];exact W
  have Y:Rel (Cx.pure D.im) k y:=zy2 e2 hy;have e3:g.length=s.toList.length:=by simpa using N
  rcases zC6 J Y U g s.toList 0 H e3 (fun i k v m p q=>O i k v m p (by simpa using q)) hp with⟨i,u0,key,A,E,b3,b4,b5,b6⟩|⟨A,E⟩
  ·have L:(Instr.mapUpdate t (.map (some b)) y z).run P w=.ok () (World.put w b (.map (s.modify i fun m=>{m with key:=y,val:=z}) o)):=by
    have hg:(s[i]?).map (·.key)=some key:=by simpa using E
    simp only[Instr.mapUpdate,Sem.run_bind,run_underlying X,Result.andThen_ok,getObj,Sem.run,a,run_checkKey J u,Instr.findKey,run_underlying u,A,Sem.run_pure,eR];simp[hg,Instr.keyThatStays,b3,setObj,Sem.run,a,World.put]
   refine⟨D,_,L,T,zA F K f (by simp[bJ,f]) a (fun c e c3=>by simp) n ?_ (fun S r=>by simp[bJ,f]at r;exact r.symm) (fun _ _ _ _=>by simp),yQ n a (fun c=>by simp)⟩;refine⟨b,_,o,f,n,BQ a,?_,(fun j k v m p q=>?_),by simpa using Q,fun j m q=>?_⟩;·simpa using b5
   ·refine b6 j k v m p ?_;rw[<-Array.toList_modify,zZ];exact q
   ·rw[zY]at q;split at q
    ·simp only[dJ]at q;obtain⟨m0,q1,rfl⟩:=q;exact x j m0 q1
    ·exact x j m q
  ·subst E;have L:(Instr.mapUpdate t (.map (some b)) y z).run P w=.ok () (World.put w b (.map (s.push {key:=y,val:=z,born:=o}) (o+1))):=by
    simp only[Instr.mapUpdate,Sem.run_bind,run_underlying X,Result.andThen_ok,getObj,Sem.run,a,run_checkKey J u,Instr.findKey,run_underlying u,A,Sem.run_pure];simp[setObj,Sem.run,a,World.put]
   refine⟨D,_,L,T,zA F K f (by simp[bJ,f]) a (fun c e c3=>by simp) n ?_ (fun S r=>by simp[bJ,f]at r;exact r.symm) (fun _ _ _ _=>by simp),yQ n a (fun c=>by simp)⟩;refine⟨b,_,o+1,f,n,BQ a,by simp[N],(fun j k' v' m p q=>?_),by simp[Q],fun j m q=>?_⟩;rotate_left
   ·rw[DN]at q;split at q
    ·rename_i e;cases q;show o=j;omega
    ·exact x j m q
   by_cases hj:j<g.length
   ·rw[gC hj]at p;rw[DN,if_neg (by omega)]at q;exact O j k' v' m p q
   ·rw[fT (by omega)]at p;have e1:j-g.length=0:=by
     rcases IB (j-g.length)with e|e;·exact e
     ·rw[lX (by simp;omega)]at p;cases p
    rw[e1]at p;simp at p;obtain⟨rfl,rfl⟩:=p;rw[DN,if_pos (by omega)]at q;cases q;exact⟨Y,U⟩
theorem xy6{e:TypeId}{z:List AV}(b:kK P e=some z):z.all bE=true:=by
 unfold kK at b;cases g:P.info? e with
 |none=>simp[g]at b|some i=>cases j:i.zero with
  |none=>simp[g,j]at b|some n=>
   simp[g,j]at b;have:∀(d:List Value)(c:List AV),uD d=some c->c.all bE=true:=by
    intro d;induction d with
    |nil=>intro c h;simp[uD]at h;subst h;rfl|cons v d m=>
     intro c h;simp only[uD]at h;split at h
     ·rename_i a k f l;cases h;simp only[qJ,m k l,uX];unfold KN at f;split at f<;>(first|cases f|skip)<;>rfl
     ·cases h
   exact this _ _ b
theorem xy7{e:TypeId}{z:List AV}(b:kK P e=some z)(I:Nat->Nat->Option Value):∃i a,P.info? e=some i/\i.zero=some a/\RelL (Cx.pure I) z a.cells.toList:=FT b
theorem yX5(z:Array Value)(n:Nat)(f:0<z.size):(madeCells z (n*z.size)).toList=(List.replicate n z.toList).flatten:=by
 apply rK;intro k;by_cases b:k<n*z.size
 ·have e:k/z.size<n:=Nat.div_lt_of_lt_mul (by rwa[Nat.mul_comm]at b);have a:k%z.size<z.size:=Nat.mod_lt _ f;have d:(madeCells z (n*z.size)).toList[k]?=some z[k%z.size]:=by
   simp[madeCells,b];rw[AJ z (k%z.size) a]
  rw[d];have i:∀(n q r:Nat),q<n->r<z.size->((List.replicate n z.toList).flatten)[q*z.size+r]?=z.toList[r]?:=by
   intro n;induction n with
   |zero=>intro q r h;omega|succ n g=>
    intro q r h c;rw[List.replicate_succ,oY];cases q with
    |zero=>rw[gC (by simpa using c)];simp|succ q=>
     rw[fT (by simp;rw[gR];omega)];simp only[Array.length_toList];rw[show(q+1)*z.size+r-z.size=q*z.size+r by rw[gR];omega];exact g q r (by omega) c
  have:=i n (k/z.size) (k%z.size) e a;rw[Nat.mul_comm,Nat.div_add_mod]at this;rw[this];simp[a]
 ·rw[lX (by simp[madeCells];omega),lX (by simp;omega)]
theorem yY4(N:Inv B C h w){t e:TypeId}{z:List AV}{bytes n:Nat}(U:P.underlying t=some (.slice e))(q:kK P e=some z)(I:wP P e=some bytes)(Q:eI P e=some n)(r:z.length=n)(X:0<n){k1 k2:IntKind}{l c:Int}(A:0<=l)(E:l<=c)(F:c.toNat*bytes<=bT)(g:c.toNat<=bT):∃D,(Instr.makeSlice t (.int k1 l) (.int k2 c)).run P w=.ok (.slice (some ⟨w.heap.size,0,none⟩) l.toNat c.toNat) (w.alloc (.cells (madeCells (((P.info? e).bind (·.zero)).getD undef).cells (c.toNat*n)) e))/\C.Le D/\Inv B D (h++[.arr z.length 0 (List.replicate l.toNat z) true]) (w.alloc (.cells (madeCells (((P.info? e).bind (·.zero)).getD undef).cells (c.toNat*n)) e))/\Rel D (.own h.length 0 l.toNat) (.slice (some ⟨w.heap.size,0,none⟩) l.toNat c.toNat):=by
 obtain⟨i,a,b,v,d⟩:=xy7 q C.im;have T:i.size=n:=by simpa[eI,b]using Q
 have K:i.bytes=bytes:=by simpa[wP,b]using I
 have s:a.cells.size=n:=by have:=d.1;simp at this;omega
 have V:(((P.info? e).bind (·.zero)).getD undef)=a:=by simp[b,v]
 rw[V];have J:(i.bytes:Int)*c<=281474976710656:=by
  rw[K];unfold bT at F;have L:c=(c.toNat:Int):=by omega
  rw[L,<-Int.natCast_mul,Nat.mul_comm];omega
 have k:=run_make (P:=P) w t e i a U b v k1 k2 l c A E J (by unfold bT at g;omega);rw[T]at k;have M:∀m,RelL (Cx.pure C.im) (List.replicate m z).flatten (List.replicate m a.cells.toList).flatten:=by
  intro m;induction m with
  |zero=>exact .nil|succ m W=>rw[List.replicate_succ,List.replicate_succ,oY,oY];exact d.append W
 have O:(madeCells a.cells (c.toNat*n)).toList=(List.replicate c.toNat a.cells.toList).flatten:=by rw[<-s];exact yX5 _ _ (by omega)
 have o:(madeCells a.cells (c.toNat*n)).toList.take (l.toNat*n)=(List.replicate l.toNat a.cells.toList).flatten:=by
  rw[O,show c.toNat=l.toNat+(c.toNat-l.toNat)by omega,<-List.replicate_append_replicate,HU];have Y:((List.replicate l.toNat a.cells.toList).flatten).length=l.toNat*n:=by simp[s]
  rw[List.take_append_of_le_length (by omega),pA (by omega)]
 obtain⟨x,f,y⟩:=NS N (rows:=List.replicate l.toNat z) (cap:=c.toNat) (size:=n) (e:=e) (cur:=madeCells a.cells (c.toNat*n)) (iA w _) (qU w _) (by simp;omega) (by unfold bT at g;unfold maxLen;omega) (fun a1 S=>by rw[List.eq_of_mem_replicate S];exact r) (by rw[size_madeCells]) (by rw[List.length_replicate,o];exact M _) (fun u p=>by
   rw[List.length_replicate,o]at p;obtain⟨Z,H,j⟩:=List.mem_flatten.1 p;rw[List.eq_of_mem_replicate H]at j;exact FD d (xy6 q) u j);rw[List.length_replicate]at f;exact⟨_,k,y,by rw[r];exact x,f⟩
end
section
variable{P:Program}{B:Base}{C D:Cx}{h:aA}{w w':World}{G:Gam}
def wH(n:Nat):Nat->Option (Nat×Nat):=fun i=>some (i*n,n)
theorem TM{n:Nat}(e:0<n):∀(a:List AV)(b:List AV)(k:Nat),b.length=k*n->dB n (a.map AV.cells)=true->eO (b++List.replicate (a.length*n) AV.junk) ((List.range' k a.length).map fun i=>(i*n,n)) a=some (b++(a.map AV.cells).flatten)
 |[],b,k,_,_=>by simp[eO]|v::a,b,k,c,f=>by
  simp only[iO,dB,bS,fU]at f;obtain⟨d,l⟩:=f;rw[hJ,List.range'_succ,iO];simp only[eO];rw[if_pos ⟨d,e,by simp[c];rw[gR];omega⟩];rw[uH _ _ _ (by simp[c,d];rw[gR];omega)];have g:(b++List.replicate ((a.length+1)*n) AV.junk).take (k*n)=b:=by rw[<-c];simp
  have j:(b++List.replicate ((a.length+1)*n) AV.junk).drop (k*n+v.cells.length)=List.replicate (a.length*n) AV.junk:=by
   rw[xM,NW (by omega),c,List.drop_replicate,d];rw[show(a.length+1)*n-(k*n+n-k*n)=a.length*n by rw[gR];omega];simp
  rw[g,j];have:=TM e a (b++v.cells) (k+1) (by rw[bX,c,d,gR];omega) l;rw[this];simp
theorem XP{n:Nat}:∀(a:List (Nat×Operand)),placesOf (wH n) a=some (a.map fun p=>(p.1*n,n))
 |[]=>rfl|(i,x)::r=>by simp[placesOf,wH,XP r]
theorem zx5{n:Nat}{b:List Value}(h:b.length=n):RelL C (List.replicate n .junk) b:=⟨by simp[h],fun i c v a _=>by
 rw[List.getElem?_replicate]at a;split at a;·cases a;exact .junk v
 ·cases a⟩
theorem run_buildSlice{t e:TypeId}{i:TypeInfo}{z:Value}(n:P.underlying t=some (.slice e))(k:P.info? e=some i)(o:i.zero=some z){b:Nat}(q:b*i.size<=16777216){l:Array (Nat×Value)}{Q:Array Value->Prop}(g:∀d:Array Value,d.size=b*i.size->∃a,Instr.fill (wH i.size) d l.toList=some a/\Q a)(w:World):∃a,Q a/\(Instr.buildSlice t b l).run P w=.ok (.slice (some ⟨w.heap.size,0,none⟩) b b) (w.alloc (.cells a e)):=by
 have m:(sizeOf e).run P w=.ok i.size w:=jR (by simp[eI,k]) w;have p:(zeroValue e).run P w=.ok z w:=by simp[zeroValue,typeInfo,k,o]
 simp only[Instr.buildSlice,Sem.run_bind,run_underlying n,Result.andThen_ok,m];rw[if_neg (by omega)];by_cases f:b*i.size=0
 ·obtain⟨a,this,c⟩:=g ((Array.range (b*i.size)).map fun j=>(#[]:Array Value)[j%(#[]:Array Value).size]!) (by simp);refine⟨a,c,?_⟩;unfold wH at this;simp only[if_pos f,Sem.run_bind,Sem.run_pure,Result.andThen_ok];rw[this];simp[newRow]
 ·obtain⟨a,this,c⟩:=g ((Array.range (b*i.size)).map fun j=>z.cells[j%z.cells.size]!) (by simp);refine⟨a,c,?_⟩;unfold wH at this;simp only[if_neg f,Sem.run_bind,p,Sem.run_pure,Result.andThen_ok];rw[this];simp[newRow]
theorem zF2{a:List (Nat×Operand)}{b n:Nat}(c:a.map (·.1)=List.range b):a.map (fun p=>(p.1*n,n))=(List.range' 0 a.length).map fun i=>(i*n,n):=by
 have d:a.length=b:=by have:=congrArg List.length c;simpa using this
 have:(a.map (·.1)).map (fun i=>(i*n,n))=(List.range b).map fun i=>(i*n,n):=by rw[c]
 rw[List.map_map]at this;rw[d,<-List.range_eq_range'];exact this
theorem WT:∀{a:List (List AV)},fW a=true->a.flatten.all bE=true
 |[],_=>rfl|r::b,h=>by
  simp only[fW,bS]at h;rw[oY,List.all_append,h.1,WT h.2];rfl
theorem BZ{n:Nat}:∀{c:List (List AV)},dB n c=true->∀b∈c,b.length=n
 |[],_,b,a=>by simp at a|r::d,h,b,a=>by
  simp only[dB,bS,fU]at h;rcases fE.1 a with rfl|a;·exact h.1
  ·exact BZ h.2 b a
theorem zh6(m:Inv B C h w){g:List (List AV)}{a:Array Value}{e:TypeId}{n:Nat}(y:∀d∈g,d.length=n)(H:RelL (Cx.pure C.im) g.flatten a.toList)(F:∀u∈a.toList,u.oneCell'=true):∃D,C.Le D/\Inv B D h (w.alloc (.cells a e))/\Rel D (.tsl g) (.slice (some ⟨w.heap.size,0,none⟩) g.length g.length):=by
 have E:∀o,C.im w.heap.size o=none:=fun o=>by cases f:C.im w.heap.size o with
  |none=>rfl|some u=>have:=rR (m.im _ _ _ f);omega
 have r:C.Le (C.withRow w.heap.size a.size a):=⟨fun b o v x=>by
  show(if b=w.heap.size/\o<a.size then a[o]? else C.im b o)=some v;rw[if_neg (fun e=>by rw[e.1,E]at x;cases x)];exact x,fun _ _ x=>x,fun _ _ _ x=>x⟩;have A:∀b o,b<w.heap.size->(C.withRow w.heap.size a.size a).im b o=C.im b o:=fun b o I=>by
  show(if b=w.heap.size/\o<a.size then a[o]? else C.im b o)=_;rw[if_neg (fun e=>by omega)]
 have t:∀b o u,(C.withRow w.heap.size a.size a).im b o=some u->(b=w.heap.size/\a[o]?=some u)\/C.im b o=some u:=fun b o u q=>by
  have s:(if b=w.heap.size/\o<a.size then a[o]? else C.im b o)=some u:=q;split at s;·rename_i e;exact .inl ⟨e.1,s⟩
  ·exact .inr s
 refine⟨C.withRow w.heap.size a.size a,r,?_,?_⟩
 ·refine m.extend ⟨r,A⟩ (iA w _) (fun b o u q=>?_) (fun b o u q=>?_) m.fr m.fv
  ·rcases t b o u q with⟨rfl,f⟩|f;·rw[cell_of_heap (qU w _)];exact f
   ·exact vT m (iA w _) b o u f
  ·rcases t b o u q with⟨rfl,f⟩|f;·exact F u (by
    obtain⟨J,z⟩:=nE.1 f;rw[<-z];simp)
   ·exact m.one b o u f
 ·have get:∀(i:Nat)d(j:Nat)c,g[i]?=some d->d[j]?=some c->∃u,a[i*n+j]?=some u/\Rel (Cx.pure C.im) c u:=fun i d j c k p=>by
   obtain⟨u,l,h4⟩:=H.get (JM g y i j d c k p);exact⟨u,by simpa using l,h4⟩
  refine .tsl g _ _ n (fun i j=>(a[i*n+j]?).getD undef) (fun i d k=>y d (fB k)) (fun i d j c k p=>?_) (fun i d j c k p=>?_)
  ·obtain⟨u,l,_⟩:=get i d j c k p;show(if w.heap.size=w.heap.size/\0+i*n+j<a.size then a[0+i*n+j]? else _)=_;rw[if_pos ⟨rfl,by have:=(nE.1 l).1;omega⟩,eR,l];rfl
  ·obtain⟨u,l,h4⟩:=get i d j c k p;show Rel _ c ((a[i*n+j]?).getD undef);rw[l];exact h4.mono (nN r.im)
theorem ym7(y:Inv B C h w){t e:TypeId}{n b:Nat}{h2:List AV}{own:Bool}(ht:P.underlying t=some (.slice e))(hn:eI P e=some n)(hz:kK P e=some h2){d:Array (Nat×Operand)}(L:d.toList.map (·.1)=List.range b){g:Operand->Value}{A:List AV}{v:AV}{H:aA}(f3:RelL C A ((d.toList.map (·.2)).map g))(f:cG G h (.bsl own n) A=some (v,H)):∃u D w',(Instr.buildSlice t b (d.map fun(i,x)=>(i,g x))).run P w=.ok u w'/\C.Le D/\Inv B D H w'/\Rel D v u/\Keep B w w':=by
 simp only[cG]at f;cases s:yB h A with
 |none=>simp[s]at f|some uh=>
  obtain⟨a,h1⟩:=uh;simp only[s]at f;split at f
  ·rename_i a1;obtain⟨o,s2,O,Q⟩:=a1;obtain⟨D,E,F,q,d4,d5⟩:=zt1 y s f3;obtain⟨i,zv,J,g1,_⟩:=FT (C:=C) hz;have z:i.size=n:=by simpa[eI,J]using hn
   have m:a.length=d.toList.length:=by have:=q.1;simpa using this
   have l:d.toList.length=b:=by have:=congrArg List.length L;simpa using this
   have I:=TM O a [] 0 (by simp) o;rw[kZ,kZ,m,<-zF2 L]at I;have a2:RelL (Cx.pure D.im) a (d.toList.map fun g2=>g g2.2):=by rw[List.map_map]at q;exact q
   have c3:(a.map AV.cells).flatten.length=a.length*n:=by rw[mH _ (BZ o)];simp
   have a3:∀j:Array Value,j.size=b*i.size->∃c,Instr.fill (wH i.size) j (d.map fun(x:Nat×Operand)=>(x.1,g x.2)).toList=some c/\RelL (Cx.pure D.im) (a.map AV.cells).flatten c.toList:=by
    intro j Z;obtain⟨c,U,V⟩:=OI (wH i.size) d.toList g _ (List.replicate (d.toList.length*n) .junk) j a _ (by rw[z];exact XP _) (zx5 (by simp;rw[Z,z,<-l];simp)) a2 I;refine⟨c,?_,V⟩;rw[<-U];simp
   obtain⟨c,k,M⟩:=run_buildSlice ht J g1 (by rw[z,<-l,<-m];exact Q) a3 w;have f1:b=(a.map AV.cells).length:=by simp;omega
   have K:=FD k (WT s2);split at f
   ·cases f;have r:c.toList.length=a.length*n:=by rw[<-k.1,c3]
    have N:c.toList.take ((a.map AV.cells).length*n)=c.toList:=pA (by simp at r⊢;omega);obtain⟨S,p,T⟩:=NS F (rows:=a.map AV.cells) (cap:=b) (size:=n) (e:=e) (cur:=c) (iA w _) (qU w _) (by omega) (by
     have:b*1<=b*n:=Nat.mul_le_mul_left _ O;have h4:b*n<=16777216:=by rw[<-l,<-m];exact Q
     unfold maxLen;omega) (BZ o) (by simp at r;rw[r,m,l]) (by rw[N];exact k) (by rw[N];exact K);refine⟨_,_,_,M,E.trans T,S,?_,jU y (iA w _)⟩;rw[kC]at p;rw[show b=a.length by omega]at p⊢;exact p
   ·cases f;obtain⟨h3,W,X,Y⟩:=zh6 (e:=e) F (BZ o) k K;refine⟨_,_,_,M,E.trans W,X,?_,jU y (iA w _)⟩;rw[f1];exact Y
  ·cases f
theorem ym6(y:Inv B C h w){t e:TypeId}{n b:Nat}{h2:List AV}{own:Bool}(ht:P.underlying t=some (.slice e))(hn:eI P e=some n)(hz:kK P e=some h2){d:Array (Nat×Operand)}(L:d.toList.map (·.1)=List.range b){g:Operand->Value}{A:List AV}{v:AV}{H:aA}(f3:RelL C A ((d.toList.map (·.2)).map g))(f:cG G h (.bslK own n) A=some (v,H)):∃u D w',(Instr.buildSlice t b (d.map fun(i,x)=>(i,g x))).run P w=.ok u w'/\C.Le D/\Inv B D H w'/\Rel D v u/\Keep B w w':=by
 simp only[cG]at f;cases s:PT h A with
 |none=>simp[s]at f|some uh=>
  obtain⟨a,h1⟩:=uh;simp only[s]at f;split at f
  ·rename_i a1;obtain⟨o,s2,O,Q⟩:=a1;obtain⟨D,E,F,q,d4,d5⟩:=yz9 y s f3;obtain⟨i,zv,J,g1,_⟩:=FT (C:=C) hz;have z:i.size=n:=by simpa[eI,J]using hn
   have m:a.length=d.toList.length:=by have:=q.1;simpa using this
   have l:d.toList.length=b:=by have:=congrArg List.length L;simpa using this
   have I:=TM O a [] 0 (by simp) o;rw[kZ,kZ,m,<-zF2 L]at I;have a2:RelL (Cx.pure D.im) a (d.toList.map fun g2=>g g2.2):=by rw[List.map_map]at q;exact q
   have c3:(a.map AV.cells).flatten.length=a.length*n:=by rw[mH _ (BZ o)];simp
   have a3:∀j:Array Value,j.size=b*i.size->∃c,Instr.fill (wH i.size) j (d.map fun(x:Nat×Operand)=>(x.1,g x.2)).toList=some c/\RelL (Cx.pure D.im) (a.map AV.cells).flatten c.toList:=by
    intro j Z;obtain⟨c,U,V⟩:=OI (wH i.size) d.toList g _ (List.replicate (d.toList.length*n) .junk) j a _ (by rw[z];exact XP _) (zx5 (by simp;rw[Z,z,<-l];simp)) a2 I;refine⟨c,?_,V⟩;rw[<-U];simp
   obtain⟨c,k,M⟩:=run_buildSlice ht J g1 (by rw[z,<-l,<-m];exact Q) a3 w;have f1:b=(a.map AV.cells).length:=by simp;omega
   have K:=FD k (WT s2);split at f
   ·cases f;have r:c.toList.length=a.length*n:=by rw[<-k.1,c3]
    have N:c.toList.take ((a.map AV.cells).length*n)=c.toList:=pA (by simp at r⊢;omega);obtain⟨S,p,T⟩:=NS F (rows:=a.map AV.cells) (cap:=b) (size:=n) (e:=e) (cur:=c) (iA w _) (qU w _) (by omega) (by
     have:b*1<=b*n:=Nat.mul_le_mul_left _ O;have h4:b*n<=16777216:=by rw[<-l,<-m];exact Q
     unfold maxLen;omega) (BZ o) (by simp at r;rw[r,m,l]) (by rw[N];exact k) (by rw[N];exact K);refine⟨_,_,_,M,E.trans T,S,?_,jU y (iA w _)⟩;rw[kC]at p;rw[show b=a.length by omega]at p⊢;exact p
   ·cases f;obtain⟨h3,W,X,Y⟩:=zh6 (e:=e) F (BZ o) k K;refine⟨_,_,_,M,E.trans W,X,?_,jU y (iA w _)⟩;rw[f1];exact Y
  ·cases f
end
end Go.Proofs.YtdebajodkallbaaGreatDoor
