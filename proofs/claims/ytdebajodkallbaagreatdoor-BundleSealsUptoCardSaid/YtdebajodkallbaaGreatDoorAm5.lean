/- The operations that make or turn somet -/
import Derived.Test.YtdebajodkallbaaGreatDoorAm4
import Derived.Lib.ConvBytes
import Derived.Lib.UnsafeStr
import Derived.RangeFuncCalls
namespace Go.Proofs.YtdebajodkallbaaGreatDoor
open Go.RowKit
section
variable{P:Program}{B:Base}{C D:Cx}{h:aA}{w w':World}{G:Gam}
theorem lE{s:Sem Value}{v:AV}{h':aA}(k:∃u D w',s.run P w=.ok u w'/\C.Le D/\Inv B D h' w'/\Rel D v u/\Keep B w w'):Left P B C w (Sem.run P (do pure (Next.value (<-s))) w) v h':=by
 obtain⟨u,D,w',k1,k2,k3,k4,k5⟩:=k;exact⟨.value u,u,D,w',by simp[k1],.inl rfl,k2,k3,k4,k5⟩
theorem VW{s:Sem Unit}{h':aA}(k:∃D w',s.run P w=.ok () w'/\C.Le D/\Inv B D h' w'/\Keep B w w'):Left P B C w (Sem.run P (do s;pure Next.skip) w) .junk h':=by
 obtain⟨D,w',k1,k2,k3,k4⟩:=k;exact⟨.skip,undef,D,w',by simp[k1],.inr ⟨rfl,rfl⟩,k2,k3,.junk _,k4⟩
theorem qW{b:List AV}{x:Value}(h:RelL C b [x]):∃a,b=[a]/\Rel C a x:=by cases b with
 |nil=>simp[RelL]at h|cons a c=>
  obtain⟨y,j,e,g,i⟩:=h.inv_cons;injection e with d f;subst d f;cases c with
  |nil=>exact⟨a,rfl,g⟩|cons _ _=>simp[RelL]at i
theorem zB{c:List AV}{x y:Value}(h:RelL C c [x,y]):∃a b,c=[a,b]/\Rel C a x/\Rel C b y:=by cases c with
 |nil=>simp[RelL]at h|cons a k=>
  obtain⟨z,l,e,g,i⟩:=h.inv_cons;injection e with d f;subst d f;obtain⟨b,rfl,j⟩:=qW i;exact⟨a,b,rfl,g,j⟩
theorem ZM{d:List AV}{x y z:Value}(h:RelL C d [x,y,z]):∃a b c,d=[a,b,c]/\Rel C a x/\Rel C b y/\Rel C c z:=by cases d with
 |nil=>simp[RelL]at h|cons a m=>
  obtain⟨_,n,e,i,j⟩:=h.inv_cons;injection e with f g;subst f g;obtain⟨b,c,rfl,k,l⟩:=zB j;exact⟨a,b,c,rfl,i,k,l⟩
theorem QS{b:List AV}(h:RelL C b []):b=[]:=by cases b with
 |nil=>rfl|cons a c=>simp[RelL]at h
theorem xq4(e:Inv B C h w){t:TypeId}{n:Nat}(f:eI P t=some n){a v:AV}{x y:Value}{h':aA}(m:Rel C a x)(o:Rel C v y)(b:aU n h a v=some h'):∃D w',(Instr.storeAt t x y).run P w=.ok () w'/\C.Le D/\Inv B D h' w'/\Keep B w w':=by
 unfold aU at b;split at b
 ·rename_i H;obtain⟨p,d,q⟩:=H;cases a with
  |ptr l K=>
   simp only at b;split at b
   ·rename_i V c;split at b
    ·rename_i g;cases b;obtain⟨w',k1,k2,k3⟩:=xr0 e f m o c p d q g;exact⟨C,w',k1,.refl C,k2,k3⟩
    ·cases b
   ·cases b|eptr l U i K=>
   simp only at b;split at b
   ·rename_i tg N O M c;split at b
    ·rename_i k;subst k;split at b
     ·rename_i L j;split at b
      ·rename_i g;cases b;obtain⟨w',k1,k2,k3⟩:=ZF (ne:=true) e f m o c j p d q g;exact⟨C,w',k1,.refl C,k2,k3⟩
      ·cases b
     ·cases b
    ·cases b
   split at b
   ·rename_i u T J;split at b
    ·rename_i N O M c;split at b
     ·rename_i k;subst k;split at b
      ·rename_i L j;split at b
       ·rename_i I;obtain⟨A,E,F⟩:=I;cases b;obtain⟨D,r,s,z,Q,S⟩:=tZ e J o;obtain⟨w',k1,k2,k3⟩:=ZF (ne:=false) s f (m.mono r) z c j E d F A;exact⟨D,w',k1,r,k2,k3⟩
       ·cases b
      ·cases b
     ·cases b
    ·cases b
   ·cases b|_=>simp at b
 ·cases b
theorem xa5(o:Inv B C h w){l:Nat}{x:Value}{r:TypeId}{v:AV}{h':aA}(E:Rel C (.ptr l 0) x)(j:cG G h .nxt [.ptr l 0]=some (v,h')):∃u D w',(Instr.next x true r).run P w=.ok u w'/\C.Le D/\Inv B D h' w'/\Rel D v u/\Keep B w w':=by
 simp only[cG]at j;split at j
 ·rename_i s m z;cases E with|ptr _ _ b k=>
  obtain⟨A,t,n,g⟩:=o.ok l _ z;rw[k]at t;cases t;split at j
  ·rename_i p;cases j;have q:(Instr.next (.pointer (some ⟨b,0,none⟩)) true r).run P w=.ok (.tuple #[.bool true,.int .i64 m,.int .i32 (Utf8.decode ⟨s.toArray⟩ m).1]) (World.put w b (.stringIter ⟨s.toArray⟩ (m+(Utf8.decode ⟨s.toArray⟩ m).2))):=by
    simp only[Instr.next,Sem.run_bind,getObj,Sem.run,g,Result.andThen_ok];rw[if_pos (by rw[mY];exact p)];simp[setObj,Sem.run,g,World.put,goInt]
   refine⟨_,C,_,q,.refl C,zA o z k (by simp[bJ,k]) g (fun c e f=>by simp) n ⟨b,k,n,BQ g⟩ (fun A y=>by simp[bJ,k]at y;exact y.symm) (fun _ _ _ _=>by simp),?_,yQ n g (fun c=>by simp)⟩;exact .tup _ _ rfl (fun i c u a d=>by match i with
    |0=>simp at a d;subst a d;exact .bool _|1=>simp at a d;subst a d;exact .int _ _|2=>simp at a d;subst a d;exact .int _ _|_+3=>simp at a)
  ·rename_i p;cases j;have q:(Instr.next (.pointer (some ⟨b,0,none⟩)) true r).run P w=.ok (.tuple #[.bool false]) w:=by
    simp only[Instr.next,Sem.run_bind,getObj,Sem.run,g,Result.andThen_ok];rw[if_neg (by rw[mY];exact p)];simp
   refine⟨_,C,_,q,.refl C,o,?_,Keep.refl _ _⟩;exact .tup _ _ rfl (fun i c u a d=>by match i with
    |0=>simp at a d;subst a d;exact .bool _|_+1=>simp at a)
 ·cases j
theorem yX6{l:Nat}{x:Value}(h:Rel C (.map l) x):∃b,C.bl l=some b/\x=.map (some b):=by cases h with|map _ b a=>exact⟨b,a,rfl⟩
theorem yZ6{x:Value}(h:Rel C .nilm x):x=.map none:=by cases h;rfl
theorem zR8{t:TypeId}{z:List AV}(e:kK P t=some z)(C:Cx):∃a,(∀w,(zeroValue t).run P w=.ok a w)/\RelL C z a.cells.toList:=by
 obtain⟨i,a,b,c,d⟩:=FT (C:=C) e;exact⟨a,fun w=>by simp[zeroValue,typeInfo,b,c],d⟩
def zX4(P:Program)(B:Base)(C:Cx)(h:aA)(w:World)(G:Gam)(e:TypeId)(o:Op)(d:AO)(f:List Operand):Prop:=∀(c:List AV)(v:AV)(h':aA)(b:Operand->Value)(a:Oper),(∀u,b (.const u)=u)->a.op=o->a.type=e->RelL C c (f.map b)->cG G h d c=some (v,h')->Left P B C w ((execOp b a).run P w) v h'
theorem yw8(f:Inv B C h w){own:Bool}{ty:TypeId}{o:Op}{Y:AO}{xs:List Operand}(d:IQ P own ty o=some (Y,xs)):zX4 P B C h w G ty o Y xs:=by
 intro d1 c3 h' H N hρ c2 l2 i c;have ex:execOp H N=execOp H {N with op:=o}:=by rw[<-c2]
 rw[ex];clear ex c2;unfold IQ at d;split at d;·
  rename_i e;split at d
  ·rename_i z u;cases d;have:=QS i;subst this;simp only[cG,aT,dF]at c;obtain⟨rfl,rfl⟩:=c;obtain⟨zv,z1,z2⟩:=zR8 u C;obtain⟨j,k,p⟩:=zh5 f z2 e;exact lE ⟨_,_,_,by simp[Instr.alloc,z1,newVar,newRow],p,j,k,jU f (iA w _)⟩
  ·cases d
 ·rename_i e x;cases d;obtain⟨a,rfl,y⟩:=qW i;simp only[cG]at c;split at c;·cases c
  ·rename_i d2 cs b3;cases c;have f3:=IM y (by rw[b3];simp);obtain⟨j,k,p⟩:=zh5 f f3 e;rw[b3]at j;exact lE ⟨_,_,_,by simp[Instr.box,newVar,newRow],p,j,k,jU f (iA w _)⟩
 ·rename_i t a x;split at d
  ·rename_i n r;cases d;obtain⟨va,X,rfl,q,v⟩:=zB i;simp only[cG,dJ,dF]at c;obtain⟨b1,he,rfl,rfl⟩:=c;exact VW (xq4 f r q v he)
  ·cases d
 ·split at d
  ·rename_i e he;split at d
   ·rename_i n r;cases d;have:=QS i;subst this;simp only[cG,aT,dF]at c;obtain⟨rfl,rfl⟩:=c;obtain⟨j,k,p⟩:=NT f n;refine⟨_,_,_,w,rfl,.inl rfl,p,j,?_,Keep.refl _ _⟩;rw[hρ];exact k
   ·cases d
  ·cases d
 ·cases d;have:=QS i;subst this;simp only[cG,aT,dF]at c;obtain⟨rfl,rfl⟩:=c;obtain⟨j,k,p⟩:=ye0 f;exact lE ⟨_,_,_,by simp[Instr.makeMap],p,j,k,jU f (iA w _)⟩
 ·rename_i t m j1 x;split at d
  ·rename_i kt et g;split at d
   ·rename_i e K;cases d;obtain⟨W,vk,X,rfl,q,v,J⟩:=ZM i;cases W with
    |map l=>
     simp only[cG]at c;split at c
     ·rename_i U;split at c
      ·rename_i j3 b1 T;split at c
       ·rename_i I L;simp only[dJ,dF]at c;obtain⟨e3,M,rfl,rfl⟩:=c;exact VW (zB5 f g K q v J U T L M)
       ·cases c
      ·cases c
     ·cases c|_=>simp[cG]at c
   ·cases d
  ·cases d
 ·rename_i t m j1 x;split at d
  ·rename_i kt et g;split at d
   ·rename_i e K;cases d;obtain⟨W,vk,X,rfl,q,v,J⟩:=ZM i;cases W with
    |map l=>
     simp only[cG]at c;split at c
     ·rename_i U;split at c
      ·rename_i j3 b1 T;split at c
       ·rename_i I L;simp only[dJ,dF]at c;obtain⟨e3,M,rfl,rfl⟩:=c;exact VW (zB5 f g K q v J U T L M)
       ·cases c
      ·cases c
     ·cases c|_=>simp[cG]at c
   ·cases d
  ·cases d
 ·rename_i t l d2;split at d
  ·rename_i e g;split at d
   ·rename_i z b n u E r;split at d
    ·rename_i F;cases d;obtain⟨vl,vc,rfl,q,v⟩:=zB i;cases vl<;>first|(simp[cG]at c;done)|skip
     cases vc<;>first|(simp[cG]at c;done)|skip
     rename_i k1 l1 k2 c1;simp only[cG]at c;split at c
     ·rename_i g1;cases c;obtain⟨q1,q2,q3,q4⟩:=g1;obtain⟨D,m1,m2,m3,m4⟩:=yY4 f (k1:=k1) (k2:=k2) g u E r F.1 F.2 q1 q2 q3 q4;have A:=fF q;have S:=fF v;refine lE ⟨_,D,_,?_,m2,m3,m4,jU f (iA w _)⟩;rw[A,S];exact m1
     ·cases c
    ·cases d
   ·cases d
  ·cases d
 ·rename_i t l3 n2;split at d
  ·rename_i e g;split at d
   ·rename_i n z r u;split at d
    ·rename_i M;cases d;exact lE (ym7 f g r u M i c)
    ·cases d
   ·cases d
  ·cases d
 ·rename_i args argTypes;split at d
  ·rename_i s x t Q f2 i2;have d3:args=#[s,x]:=by rw[<-oW];simpa using f2
   have f1:argTypes=#[t,Q]:=by rw[<-oW];simpa using i2
   subst d3 f1;have Z:∀{O:Bool}{n b:Nat}{e:TypeId}{z:List AV},P.underlying t=some (.slice e)->eI P e=some n->wP P e=some b->kK P e=some z->z.length=n->(O=true->P.underlying Q=some .string/\n=1)->(O=false->∃e,P.underlying Q=some (.slice e))->RelL C d1 ([s,x].map H)->cG G h (.app O n b) d1=some (c3,h')->Left P B C w ((execOp H {N with op:=.call {callee:=.builtin .append,args:=#[s,x],argTypes:=#[t,Q]}}).run P w) c3 h':=by
    intro O n b e z g r E u i3 k1 k2 i c;obtain⟨vs,X,rfl,q,v⟩:=zB i;simp only[cG]at c;split at c
    ·rename_i n1 g2;split at c
     ·rename_i i1;have:=zi8 (ty:=N.type) f g r E u i3 q v g2 i1 k1 k2 (ZJ e) c;have em:#[s,x].map H=#[H s,H x]:=by simp
      rw[<-em]at this;exact lE this
     ·cases c
    ·cases c
   split at d
   ·rename_i e g;split at d
    ·rename_i n b z S r E u V;split at d
     ·rename_i F;cases d;exact Z g r E u F.2 (fun e=>by cases e) (fun _=>⟨S,V⟩) i c
     ·cases d
    ·rename_i n b z r E u V;split at d
     ·rename_i F;cases d;exact Z g r E u F.2 (fun _=>⟨V,F.1⟩) (fun e=>by cases e) i c
     ·cases d
    ·cases d
   ·cases d
  ·cases d
 ·rename_i t x;split at d
  ·rename_i g;cases d;obtain⟨a,rfl,y⟩:=qW i;cases a<;>first|(simp[cG]at c;done)|skip
   rename_i s;simp only[cG,aT,dF]at c;obtain⟨rfl,rfl⟩:=c;obtain⟨j,k,p⟩:=yd9 f s;have A:=fM y;refine lE ⟨_,_,_,?_,p,j,k,jU f (iA w _)⟩;rw[A];simp[Instr.range,run_underlying g]
  ·rename_i kt et g;cases d;obtain⟨a,rfl,y⟩:=qW i;cases a<;>first|(simp[cG]at c;done)|skip
   case map m=>
    simp only[cG]at c;split at c
    ·rename_i I L;cases c;obtain⟨bm,b2,A⟩:=yX6 y;obtain⟨b',ms,ck,q,v,J,h4,h5,h6,h7⟩:=f.ok m _ L;rw[b2]at q;cases q;obtain⟨j,k,p⟩:=zh7 f (m:=some m) (mo:=some bm) I.length I.length ⟨bm,b2,rfl⟩;refine lE ⟨_,_,_,?_,p,j,k,jU f (iA w _)⟩;rw[A];have K:ck=I.length:=by omega
     subst K;simp[Instr.range,run_underlying g,getObj,Sem.run,J]
    ·cases c
   case nilm=>
    simp only[cG,aT,dF]at c;obtain⟨rfl,rfl⟩:=c;have A:=yZ6 y;obtain⟨j,k,p⟩:=zh7 f (m:=none) (mo:=none) 0 0 rfl;refine lE ⟨_,_,_,?_,p,j,k,jU f (iA w _)⟩;rw[A];simp[Instr.range,run_underlying g]
  ·cases d
 ·rename_i it;cases d;obtain⟨a,rfl,y⟩:=qW i;cases a with
  |ptr l j2=>cases j2 with
   |zero=>exact lE (xa5 (G:=G) f y c)|succ _=>simp[cG]at c
  |_=>simp[cG]at c
 ·cases d
theorem TP:∀{d:List (List AV)}{c:List UInt8},lP d=some c->d.flatten=c.map (fun b=>AV.int .u8 b.toNat)/\dB 1 d=true
 |[],c,h=>by simp only[lP,aT]at h;subst h;exact⟨rfl,rfl⟩|l::r,c,h=>by
  unfold lP at h;split at h;·rename_i a;cases a
  ·rename_i n k a;injection a with a f;subst a f;split at h
   ·rename_i j;simp only[dJ]at h;obtain⟨i,g,rfl⟩:=h;obtain⟨h4,h5⟩:=TP g;have e:((UInt8.ofNat n.toNat).toNat:Int)=n:=by
     rw[ID];have:n.toNat<256:=by omega
     rw[show 2^8=256 from rfl,Nat.mod_eq_of_lt this];omega
    refine⟨by simp only[oY,h4,iO,tL,kZ,e],by simp[dB,h5]⟩
   ·cases h
  ·cases h
theorem TR:∀{c:List UInt8}{a:List Value},RelL C (c.map fun b=>AV.int .u8 b.toNat) a->a=(c.map fun b=>(b.toNat:Int)).map (Value.int .u8)
 |[],a,h=>by
  have:=h.1;cases a with
  |nil=>rfl|cons _ _=>simp at this
 |b::c,a,h=>by
  obtain⟨y,f,rfl,d,e⟩:=h.inv_cons;rw[fF d,TR e];rfl
theorem zH1:∀(a:List UInt8)(s:ByteArray),(a.map fun b=>(b.toNat:Int)).foldl (fun r n=>r.push (UInt8.ofNat n.toNat)) s=⟨s.data++a.toArray⟩
 |[],s=>by simp|b::a,s=>by
  simp only[iO,List.foldl_cons];rw[zH1 a];refine ByteArray.ext ?_;simp[ByteArray.push]
theorem xm7(l:Inv B C h w){f a e:TypeId}(K:P.underlying f=some .string)(y:P.underlying a=some (.slice e))(z:P.underlying e=some (.int .u8)){s:List UInt8}(x:s.length<=bT):∃u D w',(convert f a (.string ⟨s.toArray⟩)).run P w=.ok u w'/\C.Le D/\Inv B D (h++[.arr 1 0 (s.map fun b=>[AV.int .u8 b.toNat]) true]) w'/\Rel D (.own h.length 0 s.length) u/\Keep B w w':=by
 have c:(⟨s.toArray⟩:ByteArray).size=s.length:=rfl;have E:=grownCap_ge w s.length 0 e;have H:=grownCap_le_maxLen w s.length 0 e (by unfold bT at x;unfold maxLen;omega);have n:=Lib.run_convert_string_bytes (P:=P) w f a e ⟨s.toArray⟩ K y z;have m:=Lib.bytesWorld_at_new w e ⟨s.toArray⟩;have j:(Lib.bytesCells w e ⟨s.toArray⟩).size=grownCap w s.length 0 e:=by simp[Lib.bytesCells,c];omega
 have o:(Lib.bytesCells w e ⟨s.toArray⟩).toList.take s.length=s.map fun b=>Value.int .u8 b.toNat:=by simp[Lib.bytesCells,c]
 rw[j]at m;rw[c]at n;have i:Below w.heap.size w (Lib.bytesWorld w e ⟨s.toArray⟩):=⟨rfl,rfl,rfl,by rw[Lib.bytesWorld_size];omega,fun k F=>Lib.bytesWorld_at_old w e _ k F⟩;have A:∀t:List UInt8,(t.map fun b=>[AV.int .u8 (b.toNat:Int)]).flatten=t.map fun b=>AV.int .u8 b.toNat:=by
  intro t;induction t with
  |nil=>rfl|cons b r d=>simp[d]
 have J:∀t:List UInt8,RelL (Cx.pure C.im) (t.map fun b=>AV.int .u8 b.toNat) (t.map fun b=>Value.int .u8 b.toNat):=by
  intro t;induction t with
  |nil=>exact .nil|cons b r d=>exact .cons (.int .u8 _) d
 obtain⟨q,g,v⟩:=zh4 (cv:=true) l (rows:=s.map fun b=>[AV.int .u8 b.toNat]) (cur:=Lib.bytesCells w e ⟨s.toArray⟩) (e:=e) (size:=1) (cap:=grownCap w s.length 0 e) i (by rw[m];simp[RowAt.fz]) (by simpa using E) H (fun L I=>by obtain⟨b,_,rfl⟩:=nY.1 I;rfl) (by rw[j,mB]) (by rw[kC,mB,o,A s];exact J s) (fun u p=>by
   rw[kC,mB,o]at p;obtain⟨b,_,rfl⟩:=nY.1 p;rfl) (ZI e _);rw[kC]at g;exact⟨_,_,_,n,v,q,g,jU l i⟩
theorem yf6(z:Inv B C h w){g i e:TypeId}(o:P.underlying g=some (.slice e))(v:P.underlying e=some (.int .u8))(u:P.underlying i=some .string){a:AV}{x:Value}{k:List (List AV)}{d:List UInt8}(q:Rel C a x)(n:rowsOf h a=some k)(s:lP k=some d):(convert g i x).run P w=.ok (.string ⟨d.toArray⟩) w:=by
 obtain⟨y,F⟩:=TP s;obtain⟨H,f,m⟩:=ZB (tx:=g) (str:=false) z q (by simpa[kF]using n) F (fun e=>by cases e) (fun _=>⟨e,o⟩);rw[y]at m;have j:=TR m;have E:∃p l c,x=.slice p l c:=by
  cases a<;>first|(simp[rowsOf]at n;done)|skip
  all_goals cases q<;>exact⟨_,_,_,rfl⟩
 obtain⟨p,l,c,rfl⟩:=E;rw[run_convert_bytes_string w g i e p l c o v u];have A:l=k.length:=by
  have:=f.len w;simp[Builtin.lenOf]at this;exact this
 cases p with
 |none=>
  have b:=f.cells;have h4:=f.newsLen;rw[run_firstCells_none]at b;simp only[Result.ok.injEq,and_true]at b;have h5:H=[]:=by
   have:=congrArg Array.toList b;simpa using this.symm
  rw[h5]at j;have t:d=[]:=by cases d with
   |nil=>rfl|cons _ _=>simp at j
  subst t;simp[Conv.bytesToString];rfl|some r=>
  have b:=f.cells;simp only[Builtin.firstCells,mB]at b;rw[<-A,j]at b;rw[run_bytesToString w r l c _ b,zH1];simp[ByteArray.empty,ByteArray.emptyWithCapacity];rfl
theorem yt1(f:Inv B C h w){t s ty e:TypeId}{n:Nat}{H:Bool}(O:P.underlying t=some (.slice e))(L:eI P e=some n){l T m:Nat}{a:AV}{x y:Value}{v:AV}{h':aA}(b:Rel C (.own l T m) x)(hy:Rel C a y)(Z:H=true->P.underlying s=some .string/\n=1)(a1:H=false->∃e,P.underlying s=some (.slice e))(d:cG G h (.cpy H n) [.own l T m,a]=some (v,h')):∃u D w',(Builtin.copy_ #[t,s] ty #[x,y]).run P w=.ok u w'/\C.Le D/\Inv B D h' w'/\Rel D v u/\Keep B w w':=by
 simp only[cG]at d;split at d
 ·rename_i sr c3;split at d
  ·rename_i M;obtain⟨g,i,s2⟩:=ZB (tx:=s) f hy c3 M Z a1;have I:=uK M;have b3:=mH sr I;split at d
   ·rename_i b2;subst b2;cases d;have b1:g=[]:=vC (by rw[i.newsLen];simp);subst b1;have K:=i.len w;have J:=i.cells;simp only[gQ]at K J;refine⟨.int .i64 0,C,w,?_,.refl C,f,.int _ _,.refl _ _⟩;cases b<;>simp[Builtin.copy_,run_underlying O,jR L,K,J,storeCells,goInt]
   ·rename_i E;split at d
    ·rename_i sz f3 c A;split at d
     ·rename_i X;obtain⟨rfl,c1,U,rfl⟩:=X;cases d;have f2:0<sr.length:=vD.2 E;cases b with
      |ownnil _ _ p=>omega|own _ _ _ r p d2=>
       rcases f.ok l _ A with⟨k1,_⟩|⟨r',j,k1,k2,k3,k4,k5,k6,k7,k8,S,k9,k10,k11⟩;·rw[p]at k1;cases k1
       ·rw[p]at k1;injection k1 with k1;cases k1;obtain⟨k11,k12⟩:=k11;subst k11;have hm:sr.length*r.size<=c.length*r.size:=kQ _ (by omega);have e3:c.length*r.size<=j.size:=by rw[k7];exact kQ _ k3
        have f1:=i.newsLen;have N:=zM0 (P:=P) k6 k7 0 g (by omega) i.one;have d3:=mH c k5;have Y:(c.drop sr.length).flatten=c.flatten.drop (sr.length*r.size):=by
         have V:c.flatten=(c.take sr.length).flatten++(c.drop sr.length).flatten:=by rw[<-HU,oZ]
         have W:(c.take sr.length).flatten.length=sr.length*r.size:=by rw[mH (n:=r.size) _ (fun x b=>k5 x (vF b)),lY,vH (by omega)]
         conv=>rhs;rw[V,xM,NW (by omega),W,Nat.sub_self]
         simp
        have a3:(sr++c.drop sr.length).flatten=c.flatten.take 0++sr.flatten++c.flatten.drop (0+sr.flatten.length):=by rw[HU,Y,b3];simp
        have q:(sr++c.drop sr.length).length=c.length:=by simp;omega
        have a2:Nat.min sr.length m=sr.length:=vH U;refine⟨.int .i64 sr.length,C,w.setRow r.block (j.toList.take 0++g++j.toList.drop (0+g.length)).toArray,?_,.refl C,?_,.int _ _,below_setRow k2 _⟩
        ·have d1:(sizeOf e:Sem Nat).run P w=.ok r.size w:=jR L w;simp at N;simp[Builtin.copy_,run_underlying O,d1,i.len w,a2,i.cells,goInt,N]
        ·have Q:(j.toList.take 0++g++j.toList.drop (0+g.length)).take (c.length*r.size)=(j.toList.take (c.length*r.size)).take 0++g++(j.toList.take (c.length*r.size)).drop (0+g.length):=by
          simp only[lA,kZ,eR];rw[AE,pA (by omega),List.drop_take]
         refine f.turn A (.refl C) (by simp) (fun k z _=>⟨setRow_other w r.block k _ (fun e=>z (by simp[bJ,p,e])),fun _=>rfl⟩) (fun k o u' F=>?_) f.one ?_ (fun k z=>.inl z) f.fr (TH f A)
         ·have E:k≠r.block:=fun e=>by subst e;rw[k9 rfl o]at F;cases F
          rw[cell_setRow_other w r.block _ ⟨k,o,none⟩ E];exact f.im _ _ _ F
         ·refine .inr ⟨r,_,p,k2,by rw[q];exact k3,k4,fun x b=>?_,UW k6,?_,?_,fun x b=>?_,k9,(fun e=>by cases e),rfl,k12.len (by rw[q];exact dA _)⟩
          ·rcases kD.1 b with b|b;·exact I x b
           ·exact k5 x (DQ b)
          ·simp;omega
          ·rw[a3,q];simp only;rw[Q];exact XX k8 s2 0
          ·rw[q]at b;simp only at b;rw[Q]at b;simp only[kD]at b;rcases b with(b|b)|b;·exact S x (vF b)
           ·exact i.one x b
           ·exact S x (DQ b)
     ·cases d
    ·cases d
  ·cases d
 ·cases d
theorem xo8{t e:TypeId}{n:Nat}(y:P.underlying t=some (.slice e))(s:eI P e=some n){a v:AV}{x:Value}(z:Rel C a x)(g c i:Option (IntKind×Int))(f:FO n a (dQ g) (dQ c) (dQ i)=some v):∃u,Rel C v u/\∀w,(Instr.sliceAt t x (bnd g) (bnd c) (bnd i)).run P w=.ok u w:=by
 cases a<;>first|exact zO3 (size:=some n) ⟨e,y,s⟩ z g c i f|skip
 rename_i l Q m;simp only[FO]at f;split at f
 ·rename_i K;obtain⟨A,o,E,F⟩:=K;cases f;cases i with
  |some q=>simp[dQ]at A|none=>
   have O:∃p d,x=.slice p m d/\m<=d/\(p=none\/∃b,p=some ⟨b,0,none⟩)/\Rel C (.own l Q ((dQ c).getD m).toNat) (.slice p ((dQ c).getD m).toNat d):=by cases z with
    |ownnil _ _ j=>
     refine⟨none,0,rfl,dA _,.inl rfl,?_⟩;have H:((dQ c).getD (↑(0:Nat))).toNat=0:=by omega
     rw[H];exact .ownnil _ _ j|own _ _ _ r j k=>exact⟨_,r.cap,rfl,k,.inr ⟨_,rfl⟩,.own _ _ _ r j (by omega)⟩
   obtain⟨p,d,rfl,k,M,N⟩:=O;have I:=KZ (P:=P) true m d g c k (by omega) (by rw[o];exact E) F;refine⟨_,N,fun w=>?_⟩;have J:=I w;simp only[Instr.sliceAt,Sem.run_bind,run_underlying y,Result.andThen_ok,Instr.slice];rw[show bnd (none:Option (IntKind×Int))=none from rfl,J];simp only[Result.andThen_ok,jR s,Sem.run_pure,o];have L:p.map (fun q=>q.add (0*n))=p:=by
    rcases M with rfl|⟨b,rfl⟩;·rfl
    ·simp[Addr.add_lit]
   simp only[Int.toNat_zero,L,ite_self,Nat.sub_zero]
 ·cases f
theorem xp3(j:Inv B C h w){t e:TypeId}{n:Nat}(o:P.underlying t=some (.slice e))(k:eI P e=some n){a v:AV}{x:Value}{h':aA}(p:Rel C a x)(d c f:Option (IntKind×Int))(b:FN n h a (dQ d) (dQ c) (dQ f)=some (v,h')):∃u D,(Instr.sliceAt t x (bnd d) (bnd c) (bnd f)).run P w=.ok u w/\C.Le D/\Inv B D h' w/\Rel D v u:=by
 unfold FN at b;split at b
 ·rename_i A g;cases b;obtain⟨u,i,y⟩:=xo8 o k p d c f g;exact⟨u,C,y w,.refl C,j,i⟩
 ·cases a<;>first|(cases b;done)|skip
  rename_i l I m;simp only at b;split at b
  ·rename_i H i z;simp only[dJ,dF]at b;obtain⟨A,g,rfl,rfl⟩:=b;obtain⟨D,q,r,s,E,F⟩:=tZ j z p;obtain⟨u,k1,k2⟩:=YF o k s d c f g;exact⟨u,D,k2 w,q,r,k1.mono D.frozen_le⟩
  ·cases b
end
section
variable{P:Program}{B:Base}{C D:Cx}{h:aA}{w w':World}{G:Gam}
def zk4(P:Program)(e:TypeId):Option TypeId:=match P.underlying e with
 |some (.struct f)=>match f.toList with
  |[c,d]=>match P.underlying c.type,P.underlying d.type with
   |some (.pointer b),some (.slice a)=>if b=e/\eI P a=some 1 then some a else none|_,_=>none
  |_=>none
 |_=>none
def zk3(P:Program)(e:TypeId):Option TypeId:=match zk4 P e with
 |some a=>some a|none=>match P.underlying e with
  |some (.struct b)=>match b.toList with
   |[g]=>zk4 P g.type|_=>none
  |_=>none
def OT(P:Program)(own:Bool):Op->Option (AO×List Operand)
 |.alloc e=>match kK P e,zk3 P e with
  |some [.nilp,.nils],some a=>some (.allocB e a,[])|_,_=>none
 |.box e x=>match zk3 P e with
  |some a=>some (.boxB e a,[x])|none=>none
 |.call {callee:=.builtin .append,args,argTypes}=>if own then(match args.toList,argTypes.toList with
  |[s,x],[t,c]=>match P.underlying t with
   |some (.slice e)=>match eI P e,wP P e,kK P e,P.underlying c with
    |some n,some b,some z,some (.slice _)=>if z.length=n then some (.appT false n b e,[s,x])else none|some n,some b,some z,some .string=>if n=1/\z.length=n then some (.appT true n b e,[s,x])else none|_,_,_,_=>none
   |_=>none
  |_,_=>none)else none|.call {callee:=.builtin .unsafeSliceData,args,..}=>match args.toList with
  |[x]=>some (.usd,[x])|_=>none
 |.call {callee:=.builtin .unsafeString,args,argTypes}=>match args.toList,argTypes.toList with
  |[p,n],[pt,_]=>match P.underlying pt with
   |some (.pointer e)=>if P.cellsOf e=1 then some (.ustr e,[p,n])else none|_=>none
  |_,_=>none
 |_=>none
theorem yn5(w:World)(p:Addr)(n:Nat)(a:Addr):(w.freeze p n).cell? a=w.cell? a:=by
 unfold World.freeze;split;·rfl
 ·simp only[World.cell?,zY];by_cases e:p.block=a.block
  ·rw[if_pos e];cases b:w.heap[a.block]? with
   |none=>rfl|some o=>cases o<;>rfl
  ·rw[if_neg e]
theorem zs9(w:World)(p:Addr)(n k:Nat)(a:k≠p.block):(w.freeze p n).heap[k]?=w.heap[k]?:=by
 unfold World.freeze;split;·rfl
 ·simp only[zY];rw[if_neg (fun e=>a e.symm)]
theorem zs8{n:Nat}(w:World){p:Addr}(a:n<=p.block)(k:Nat):Keep n w (w.freeze p k):=⟨Lib.below_freeze (Below.refl n w) a k,fun i c x=>by
 by_cases e:i=p.block
 ·subst e;unfold World.freeze;split;·exact x
  ·simp only[zY,bD,x];rfl
 ·rw[zs9 w p k i e];exact x⟩
theorem xv7(d:Inv B C h w){pt it ty e:TypeId}(K:P.underlying pt=some (.pointer e))(E:P.cellsOf e=1){l z:Nat}{c:List (List AV)}{a:List UInt8}{x:Value}(t:h[l]?=some (.arrT (some e) 1 z c true))(N:Rel C (.eptr l z 0 0) x)(V:0<c.length)(I:c.length<=bT)(A:lP c=some a):∃u D w',(Builtin.unsafeString_ #[pt,it] ty #[x,.int .i64 c.length]).run P w=.ok u w'/\C.Le D/\Inv B D (h.set l .dead) w'/\Rel D (.str a) u/\Keep B w w':=by cases N with|eptr _ _ _ _ r n=>
 rcases d.ok l _ t with⟨k1,k2⟩|⟨Z,p,k1,k2,k3,k4,k5,k6,k7,k8,Y,k9,k10,k11,k12⟩;·rw[n]at k1;cases k1
 ·rw[n]at k1;injection k1 with k1;cases k1;have F:=k12.1 e rfl;obtain⟨q,X⟩:=TP A;have H:=mH c k5;rw[k11,mB]at H k8 k7;have m:a.length=c.length:=by
   have:=congrArg List.length q;simp only[kC]at this;omega
  rw[q]at k8;have J:=TR k8;have y:=Lib.run_unsafeString_row (P:=P) w pt it ty e K E r.block p.size (by simp[World.shape?,k6,F]) a (by intro e;subst e;simp at m;omega) (by omega) (by unfold bT at I;omega) (fun j x s=>by
   have W:j<a.length:=(aV.1 s).1;have g:(p.toList.take c.length)[j]?=some (.int .u8 x.toNat):=by rw[J];simp[s]
   rw[fZ,if_pos (by omega)]at g;rw[Addr.add_lit,eR];have:=cell_of_heap k6 j;simp only[zZ]at g;exact this.trans g);refine⟨.string ⟨a.toArray⟩,C,w.freeze ⟨r.block,0,none⟩ a.length,?_,.refl C,?_,.str _,zs8 w k2 _⟩
  ·rw[m]at y;simpa[m]using y
  ·refine d.turn t (.refl C) ?_ (fun b i _=>⟨zs9 w _ _ b (fun e=>i (by simp[bJ,n,e])),fun _=>rfl⟩) (fun b o u L=>by rw[yn5];exact d.im _ _ _ L) d.one trivial (fun b i=>by cases i) d.fr (fun k O tg S T Q U f v M=>?_);·exact(zs8 (n:=B) w (p:=⟨r.block,0,none⟩) k2 a.length).below.size
   ·rw[iY]at f;split at f
    ·split at f;·cases f
     ·cases f
    ·exact d.fv k O tg S T Q U f v M
theorem zV1(g:Inv B C h w){own:Bool}{f1:Op}{ao:AO}{xs:List Operand}(d:OT P own f1=some (ao,xs)){S:List AV}{v:AV}{h':aA}{f:Operand->Value}{i:Oper}(g1:i.op=f1)(o:RelL C S (xs.map f))(c:dN G h ao S=some (v,h')):Left P B C w ((execOp f i).run P w) v h':=by
 have ex:execOp f i=execOp f {i with op:=f1}:=by rw[<-g1]
 rw[ex];clear ex g1;unfold OT at d;split at d;·
  rename_i e;split at d
  ·rename_i W q Y;cases d;have:=QS o;subst this;simp only[dN,AO.quiet,dE,bY,cG,aT,dF]at c;obtain⟨rfl,rfl⟩:=c;obtain⟨zv,z1,z2⟩:=zR8 q C;obtain⟨T,U,y⟩:=TD g (some W) 1;have z3:RelL (C.addAr h.length 0 none) [.nilp,.own h.length 0 0] zv.cells.toList:=by
    obtain⟨v1,m3,V,r1,r2⟩:=z2.inv_cons;obtain⟨v2,n1,rfl,r3,r4⟩:=r2.inv_cons;have:=r4.inv_nil;subst this;rw[V];cases r3;exact .cons (r1.mono y) (.cons U .nil)
   obtain⟨A,E,F⟩:=TC T z3 e (tg:=some e) (fun t j=>by injection j);rw[bX,vE]at E;rw[bX,vE]at A F;exact lE ⟨_,_,_,by simp[Instr.alloc,z1,newVar,newRow],y.trans F,A,E,jU g (iA w _)⟩
  ·cases d
 ·rename_i e x;split at d
  ·rename_i W Y;cases d;obtain⟨a,rfl,m⟩:=qW o;simp only[dN,AO.quiet,dE,bY,cG]at c;unfold zk2 at c;split at c;case h_2=>cases c
   cases c;obtain⟨T,U,y⟩:=TD g (some W) 1;have z2:=IM m (by simp[AV.cells]);have z3:RelL (C.addAr h.length 0 none) [.nilp,.own h.length 0 0] (f x).cells.toList:=by
    obtain⟨v1,m3,V,r1,r2⟩:=z2.inv_cons;obtain⟨v2,n1,rfl,r3,r4⟩:=r2.inv_cons;have:=r4.inv_nil;subst this;rw[V];cases r3;exact .cons (r1.mono y) (.cons U .nil)
   obtain⟨A,E,F⟩:=TC T z3 e (tg:=some e) (fun t j=>by injection j);rw[bX,vE]at E;rw[bX,vE]at A F;exact lE ⟨_,_,_,by simp[Instr.box,newVar,newRow],y.trans F,A,E,jU g (iA w _)⟩
  ·cases d
 ·rename_i args argTypes;split at d
  ·split at d
   ·rename_i s x t Q J d1;have H:args=#[s,x]:=by rw[<-oW];simpa using J
    have X:argTypes=#[t,Q]:=by rw[<-oW];simpa using d1
    subst H X;have f3:∀{O:Bool}{n b:Nat}{e:TypeId}{z:List AV},P.underlying t=some (.slice e)->eI P e=some n->wP P e=some b->kK P e=some z->z.length=n->(O=true->P.underlying Q=some .string/\n=1)->(O=false->∃e,P.underlying Q=some (.slice e))->RelL C S ([s,x].map f)->dN G h (.appT O n b e) S=some (v,h')->Left P B C w ((execOp f {i with op:=.call {callee:=.builtin .append,args:=#[s,x],argTypes:=#[t,Q]}}).run P w) v h':=by
     intro O n b e z j L K q l3 k1 k2 o c;obtain⟨vs,vx,rfl,I,M⟩:=zB o;simp only[dN,AO.quiet,dE,bY,cG]at c;split at c
     ·rename_i o2 j2;split at c
      ·rename_i l1;have:=zi8 (ty:=i.type) g j L K q l3 I M j2 l1 k1 k2 (te:=some e) (fun t j=>by injection j) c;have l:#[s,x].map f=#[f s,f x]:=by simp
       rw[<-l]at this;exact lE this
      ·cases c
     ·cases c
    split at d
    ·rename_i e j;split at d
     ·rename_i n b z e2 L K q c3;split at d
      ·rename_i u;cases d;exact f3 j L K q u (fun e=>by cases e) (fun _=>⟨e2,c3⟩) o c
      ·cases d
     ·rename_i n b z L K q c3;split at d
      ·rename_i u;cases d;exact f3 j L K q u.2 (fun _=>⟨c3,u.1⟩) (fun e=>by cases e) o c
      ·cases d
     ·cases d
    ·cases d
   ·cases d
  ·cases d
 ·rename_i args argTypes;split at d
  ·rename_i x J;have H:args=#[x]:=by rw[<-oW];simpa using J
   subst H;cases d;obtain⟨a,rfl,m⟩:=qW o;simp only[dN,AO.quiet,bD]at c;have l:#[x].map f=#[f x]:=by simp
   cases a<;>first|(simp[dH]at c;done)|skip
   case nils=>
    simp only[dH,aT,dF]at c;obtain⟨rfl,rfl⟩:=c;have d2:f x=.slice none 0 0:=by generalize N:f x=f2 at m;cases m;rfl
    have:=Lib.run_unsafeSliceData_nil (P:=P) (w:=w) argTypes i.type 0 0;rw[<-d2,<-l]at this;exact lE ⟨_,C,w,this,.refl C,g,.nilp,.refl _ _⟩
   case own e3 h3 n=>
    simp only[dH]at c;split at c
    ·rename_i g2 k;split at k
     ·rename_i Y;subst Y;split at k
      ·rename_i p1 sz n2 wr Z;split at k
       ·rename_i l2;subst l2;cases k;cases c;have d2:f x=.slice none 0 0:=by
         generalize N:f x=f2 at m;cases m with
         |ownnil _ _ _=>rfl|own _ _ _ r hr i2=>
          rcases g.ok e3 _ Z with⟨k1,_⟩|⟨r',n3,k1,k2,k3,k4,k5,k6,k7,k8,o1,k9,k10,k11,k12⟩;·rw[hr]at k1;cases k1
          ·exact absurd rfl (k12.2 (fun e=>by cases e))
        have:=Lib.run_unsafeSliceData_nil (P:=P) (w:=w) argTypes i.type 0 0;rw[<-d2,<-l]at this;exact lE ⟨_,C,w,this,.refl C,g,.nilp,.refl _ _⟩
       ·cases k
      ·cases k
     ·rename_i j1;cases k;cases c;generalize N:f x=f2 at m;cases m with
      |ownnil _ _ _=>exact absurd rfl j1|own _ _ _ r hr i2=>
       have:=Lib.run_unsafeSliceData_row (P:=P) (w:=w) argTypes i.type ⟨r.block,0,none⟩ n r.cap (by omega);rw[<-N,<-l]at this;refine lE ⟨_,C,w,this,.refl C,g,?_,.refl _ _⟩;have:=Rel.eptr (C:=C) e3 h3 0 0 r hr;simpa using this
    ·cases c
  ·cases d
 ·rename_i args argTypes;split at d
  ·rename_i p n pt it J d1;have H:args=#[p,n]:=by rw[<-oW];simpa using J
   have X:argTypes=#[pt,it]:=by rw[<-oW];simpa using d1
   subst H X;split at d
   ·rename_i e hp;split at d
    ·rename_i i3;cases d;obtain⟨a,b,rfl,I,M⟩:=zB o;have l:#[p,n].map f=#[f p,f n]:=by simp
     simp only[dN,AO.quiet,dE,bY]at c;cases a<;>first|(simp[cG]at c;done)|skip
     case nilp=>
      cases b<;>first|(simp[cG]at c;done)|skip
      rename_i d3 g2;cases d3<;>first|(simp[cG]at c;done)|skip
      simp only[cG]at c;split at c
      ·rename_i k;subst k;cases c;have:=Lib.run_unsafeString_none (P:=P) w pt it i.type none;rw[<-fF M]at this;have j3:f p=.pointer none:=by generalize N:f p=f2 at I;cases I;rfl
       rw[<-j3,<-l]at this;exact lE ⟨_,C,w,this,.refl C,g,.str [],.refl _ _⟩
      ·cases c
     case eptr e3 h3 m1 m2=>
      cases m1<;>first|(simp[cG]at c;done)|skip
      cases m2<;>first|(simp[cG]at c;done)|skip
      cases b<;>first|(simp[cG]at c;done)|skip
      rename_i d3 g2;cases d3<;>first|(simp[cG]at c;done)|skip
      simp only[cG]at c;split at c
      ·rename_i tg n2 o3 Z;split at c
       ·rename_i u;obtain⟨rfl,rfl,c1,rfl,c2⟩:=u;simp only[dJ,dF]at c;obtain⟨bs,i1,rfl,rfl⟩:=c;have:=xv7 (ty:=i.type) (it:=it) g hp i3 Z I c1 c2 i1;rw[<-fF M,<-l]at this;exact lE this
       ·cases c
      ·cases c
    ·cases d
   ·cases d
  ·cases d
 ·cases d
end
section
variable{P:Program}{B:Base}{C D:Cx}{h:aA}{w w':World}{G:Gam}
theorem Inv.same(c:Inv B C h w){l:Nat}{g d:Blk}(i:h[l]?=some g)(r:BlkOK B C w l d)(p:∀b,bJ C l d=some b->bJ C l g=some b)(q:∀m tg o f n wr,d=.arrX m tg o f n wr->∀v,f<v->C.ar l v=none):Inv B C (h.set l d) w:=by
 refine c.turn i (.refl C) (dA _) (fun _ _ _=>⟨rfl,fun _=>rfl⟩) c.im c.one r (fun b k=>.inl (p b k)) c.fr (fun k m tg o f n wr a v j=>?_);rw[iY]at a;by_cases e:l=k
 ·subst e;rw[if_pos rfl,if_pos (aV.1 i).1]at a;injection a with a;exact q _ _ _ _ _ _ a v j
 ·rw[if_neg e]at a;exact c.fv k _ _ _ _ _ _ a v j
theorem zS0:∀{f c e d:List AV},bU h f=some e->bU h c=some d->bU h (f++c)=some (e++d)
 |[],c,e,d,b,g=>by simp only[bU]at b;cases b;exact g|a::f,c,e,d,b,g=>by
  simp only[bU]at b;split at b
  ·rename_i v i k1 k2;cases b;simp only[tL,bU,k1,zS0 k2 g]
  ·cases b
theorem zS1:∀{d c:List AV},bU h d=some c->c.length=d.length
 |[],c,b=>by simp only[bU]at b;cases b;rfl|a::d,c,b=>by
  simp only[bU]at b;split at b
  ·rename_i v e k1 k2;cases b;simp[zS1 k2]
  ·cases b
theorem zS3:∀{c b:List (List AV)},sQ h c=some b->bU h c.flatten=some b.flatten/\b.length=c.length/\∀n:Nat,(∀r∈c,r.length=n)->∀r∈b,r.length=n
 |[],b,a=>by simp only[sQ]at a;cases a;exact⟨rfl,rfl,fun _ _ r f=>by cases f⟩|r::l,b,a=>by
  simp only[sQ]at a;split at a
  ·rename_i v m k1 k2;cases a;obtain⟨i,j,k⟩:=zS3 k2;refine⟨by simpa using zS0 k1 i,by simp[j],fun n e x d=>?_⟩;rcases fE.1 d with rfl|d;·rw[zS1 k1];exact e r (by simp)
   ·exact k n (fun y g=>e y (by simp[g])) x d
  ·cases a
theorem zs7:∀(i:List Nat)(h:aA){l d f:Nat}{tg:Option TypeId}{c:List (List AV)}{wr:Bool},h[l]?=some (.arrX true tg d f c wr)->(eS h i)[l]?=some (.arrX true tg d f c wr)
 |[],_,_,_,_,_,_,_,a=>a|k::g,h,l,d,f,tg,c,wr,a=>by
  refine zs7 g _ ?_;unfold mI;split
  ·rename_i n m o j p b;rw[iY];by_cases e:k=l;·subst e;rw[a]at b;injection b with b;cases b
   ·rw[if_neg e];exact a
  ·exact a
theorem xo6(d:Inv B C h w){v:AV}{q:aA}(a:YL h v=some q):∃D,C.Le D/\Inv B D q w:=by
 unfold YL at a;split at a
 ·rename_i l b2 Q;split at a
  ·rename_i tg Z a3 g wr s;simp only[dJ]at a;obtain⟨H,f,rfl⟩:=a;obtain⟨D,o,k,L,p,t⟩:=EE (dX g.flatten) d;have m:=zs7 (dX g.flatten) h s;obtain⟨I,i,J⟩:=zS3 f;refine⟨D,o,k.same m ?_ (fun b x=>x) (fun S a2 a1 b1 Y b3 e v f=>?_)⟩
   ·rcases k.ok l _ m with⟨k1,k2⟩|⟨r,n,k1,k2,k3,k4,k5,k6,k7,k8,z,k9,k10,k11,k12⟩
    ·subst k2;simp only[sQ,aT]at f;exact .inl ⟨k1,f.symm⟩
    ·have A:RelL C g.flatten (n.toList.take (g.length*r.size)):=by
      rcases d.ok l _ s with⟨c,E⟩|⟨X,K,c,E,T,U,V,j,W,F,_⟩;·rw[p]at k1;rw[k1]at c;cases c
      ·rw[p]at k1;rw[k1]at c;injection c with c;cases c;rw[k6]at j;injection j with j;cases j;exact F
     have y:=FV d (I:=D.im) o.im g.flatten H.flatten _ t I A;refine .inr ⟨r,n,k1,k2,by rw[i];exact k3,k4,J _ k5,k6,k7,?_,?_,k9,?_,k11,k12.len (by rw[i];exact dA _)⟩;·rw[i];exact y
     ·rw[i];exact z
     ·rw[i];exact k10
   ·injection e with O N M u;subst u;exact k.fv l _ _ _ _ _ _ m v f
  ·cases a;exact⟨C,.refl C,d⟩
 ·cases a;exact⟨C,.refl C,d⟩
theorem YM:∀{k:List AV}{C:Cx}{h c:aA},Inv B C h w->yU h k=some c->∃D,C.Le D/\Inv B D c w
 |[],C,h,c,d,b=>by simp only[yU]at b;cases b;exact⟨C,.refl C,d⟩|a::l,C,h,c,d,b=>by
  simp only[yU]at b;split at b
  ·rename_i m j;obtain⟨D,e,f⟩:=xo6 d j;obtain⟨E,g,i⟩:=YM f b;exact⟨E,e.trans g,i⟩
  ·cases b
theorem xp4(d:Inv B C h w){p j c:Nat}{q:Bool}{tg:Option TypeId}{r:List (List AV)}{wr:Bool}(e:h[p]?=some (.arrX q tg j c r wr)):Inv B (C.addAr p (c+1) none) (h.set p (.arr j (c+1) [] true)) w/\Rel (C.addAr p (c+1) none) (.own p (c+1) 0) (.slice none 0 0)/\C.Le (C.addAr p (c+1) none):=by
 have m:C.ar p (c+1)=none:=d.fv p _ _ _ _ _ _ e (c+1) (by omega);have i:=JH (w:=w) none m;have g:(C.addAr p (c+1) none).ar p (c+1)=some none:=by simp[Cx.addAr]
 have n:p<h.length:=(aV.1 e).1;refine⟨?_,.ownnil _ _ g,i.le⟩;refine d.turn e i.le (dA _) (fun _ _ _=>⟨rfl,fun _=>rfl⟩) d.im d.one (.inl ⟨g,rfl⟩) (fun b l=>by simp[bJ,g]at l) (fun k a=>?_) (fun k y E A F z H a v o=>?_)
 ·have:=d.fr k a;refine⟨this.1,fun v=>?_⟩;simp only[Cx.addAr];rw[if_neg (by omega)];exact this.2 v
 ·simp only[Cx.addAr];rw[iY]at a;by_cases f:p=k
  ·subst f;rw[if_pos rfl,if_pos n]at a;injection a with a;injection a with u t s a;subst a;rw[if_neg (by omega)];exact d.fv p _ _ _ _ _ _ e v (by omega)
  ·rw[if_neg f]at a;rw[if_neg (fun x=>f x.1.symm)];exact d.fv k _ _ _ _ _ _ a v o
theorem xf5(f:Inv B C h w){k:PK}{A q:List AV}{E:List Value}{p:aA}(i:RelL C A E)(c:BP k h A=some (p,q)):∃D,C.Le D/\Inv B D p w/\RelL D q E:=by cases k with
 |settle=>
  simp only[BP,dJ,dF]at c;obtain⟨K,u,rfl,rfl⟩:=c;obtain⟨D,n,t⟩:=YM f u;exact⟨D,n,t,i.mono n⟩|nest=>
  have z:some (h,A)=some (p,q)->∃D,C.Le D/\Inv B D p w/\RelL D q E:=fun e=>by injection e with e;injection e with d g;subst d g;exact⟨C,.refl C,f,i⟩
  simp only[BP]at c;split at c
  ·rename_i l U b1 b2 v;split at c
   ·rename_i tg T f1 S o;split at c;·exact z c
    ·injection c with c;injection c with d g;subst d g;refine⟨C,.refl C,f.same o ?_ (fun b L=>L) (fun N c3 c2 f2 c1 f3 e v M=>?_),i⟩
     ·rcases f.ok l _ o with⟨k1,k2⟩|⟨r,I,k1,k2,k3,k4,k5,k6,k7,k8,k9⟩;·exact .inl ⟨k1,k2⟩
      ·exact .inr ⟨r,I,k1,k2,k3,k4,k5,k6,k7,k8.mono C.frozen_le,k9⟩
     ·injection e with Z Y X d;subst d;exact f.fv l _ _ _ _ _ _ o v M
   ·exact z c
  ·exact z c|frzv=>
  simp only[BP]at c;split at c
  ·rename_i a v;simp only[dJ,dF]at c;obtain⟨⟨e3,K⟩,u,rfl,rfl⟩:=c;obtain⟨g1,H,rfl,x,y⟩:=i.inv_cons;obtain⟨g2,H,rfl,O,Q⟩:=y.inv_cons;have:=Q.inv_nil;subst this;obtain⟨D,n,t,J,V,W⟩:=tZ f u O;exact⟨D,n,t,.cons (x.mono n) (.cons (J.mono (Cx.frozen_le D)) .nil)⟩
  ·cases c|spare m=>
  simp only[BP,aT,dF]at c;obtain⟨rfl,rfl⟩:=c;obtain⟨s,F,j⟩:=NT f m;exact⟨_,j,s,i.mono j⟩|slot b3=>
  simp only[BP]at c;split at c
  ·rename_i r;split at c
   ·rename_i N tg T U S wr o;injection c with c;injection c with d g;subst d g;obtain⟨s,F,j⟩:=xp4 f o;obtain⟨v,H,rfl,x,y⟩:=i.inv_cons;cases x;exact⟨_,j,s,.cons F (y.mono j)⟩
   ·cases c
  ·injection c with c;injection c with d g;subst d g;exact⟨C,.refl C,f,i⟩
theorem zH0:∀{l:List PK}{C:Cx}{h b:aA}{c d:List AV}{e:List Value},Inv B C h w->RelL C c e->wB l h c=some (b,d)->∃D,C.Le D/\Inv B D b w/\RelL D d e
 |[],C,h,b,c,d,e,i,j,a=>by simp only[wB]at a;injection a with a;injection a with f g;subst f g;exact⟨C,.refl C,i,j⟩|k::l,C,h,b,c,d,e,i,j,a=>by
  simp only[wB]at a;split at a
  ·rename_i r s q;obtain⟨D,m,n,o⟩:=xf5 i j q;obtain⟨E,f,g,p⟩:=zH0 n o a;exact⟨E,m.trans f,g,p⟩
  ·cases a
def IR(P:Program)(own:Bool):Op->Option (AO×List Operand)
 |.buildSlice t b a=>match P.underlying t with
  |some (.slice e)=>(match eI P e,kK P e with
   |some n,some _=>if a.toList.map (·.1)=List.range b then some (.bslK own n,a.toList.map (·.2))else none|_,_=>none)|_=>none
 |_=>none
theorem yb2(l:Inv B C h w){o:Op}{d:AO}{k:List Operand}{own:Bool}(a:IR P own o=some (d,k)){j:List AV}{v:AV}{h':aA}{c:Operand->Value}{b:Oper}(i:b.op=o)(q:RelL C j (k.map c))(g:dN G h d j=some (v,h')):Left P B C w ((execOp c b).run P w) v h':=by
 have f:execOp c b=execOp c {b with op:=o}:=by rw[<-i]
 rw[f];clear f i;unfold IR at a;split at a
 ·rename_i t u x;split at a
  ·rename_i e r;split at a
   ·rename_i n z m s;split at a
    ·rename_i p;cases a;simp only[dN,AO.quiet,dE,bY]at g;exact lE (ym6 l r m s p q g)
    ·cases a
   ·cases a
  ·cases a
 ·cases a
end
section
variable{P:Program}{B:Base}{C D:Cx}{h h':aA}{w w':World}{G:Gam}
theorem zw9(a:Inv B C h w)(s:h'.length=h.length)(d:∀(l:Nat)e,h'[l]?=some e->e=.dead\/h[l]?=some e):Inv B C h' w:=by
 refine⟨a.im,a.one,fun k x c=>?_,fun k j x m b f g i h4=>?_,fun k r=>a.fr k (by omega),fun k n tg p q o wr c=>?_,a.hB,a.low,a.gl,a.tb,fun k x c=>by have:=a.rcl k x c;omega,a.cle⟩
 ·rcases d k x c with rfl|c;·trivial
  ·exact a.ok k x c
 ·rcases d k x f with rfl|f;·simp[bJ]at i
  ·rcases d j m g with rfl|g;·simp[bJ]at h4
   ·exact a.inj k j x m b f g i h4
 ·rcases d k _ c with c|c;·cases c
  ·exact a.fv k n tg p q o wr c
theorem zw8(b:Inv B C h w)(l:Nat):Inv B C (h.set l .dead) w:=by
 refine zw9 b (by simp) fun k x a=>?_;rw[iY]at a;split at a
 ·split at a;·injection a with a;exact .inl a.symm
  ·cases a
 ·exact .inr a
theorem find_born{a:Array MapEntry}(b:∀(i:Nat)m,a[i]?=some m->m.born=i){i:Nat}{m:MapEntry}(c:a[i]?=some m):a.find? (fun e=>e.born==i)=some m:=by
 obtain⟨f,d⟩:=nE.1 c;rw[Array.find?_eq_some_iff_getElem];refine⟨by simp[b i m c],i,f,d,fun j k=>?_⟩;have g:a[j]?=some (a[j]'(by omega)):=by simp
 have:=b j _ g;simp;omega
theorem yx6(o:Inv B C h w){l:Nat}{x:Value}{v:AV}(L:Rel C (.ptr l 0) x)(a:AY h l=some v):∃u,(Instr.entry x).run P w=.ok u w/\Rel C v u:=by
 unfold AY at a;split at a
 ·rename_i m n seen M I;split at a
  ·rename_i i S K J;split at a
   ·rename_i U;split at a
    ·rename_i k u p;cases a;cases L with|ptr _ _ b z=>
     obtain⟨s,V,g,T,y,h4⟩:=o.ok l _ I;rw[z]at g;cases g;obtain⟨Q,h5,rfl⟩:=h4;obtain⟨s,e,t,k1,k2,k3,k4,k5,k6,k7⟩:=o.ok m _ J;rw[h5]at k1;cases k1;have H:i<e.size:=by rw[<-k4];exact(aV.1 p).1
     have r:e[i]?=some e[i]:=by simp[H]
     have F:=find_born k7 r;have E:t=M:=by omega
     obtain⟨N,O⟩:=k5 i k u _ p r;have A:seen.toArray.back?=some i:=by rw[<-K];simp[List.back?_toArray]
     refine⟨.tuple #[e[i].key,e[i].val],?_,.tup _ _ rfl fun j c q d f=>?_⟩;·simp[Instr.entry,getObj,Sem.run,y,A,k3,E,F]
     ·match j with
      |0=>simp at d f;subst d f;exact N.mono C.frozen_le|1=>simp at d f;subst d f;exact O.mono C.frozen_le|_+2=>simp at d
    ·cases a
   ·cases a
  ·cases a
 ·cases a
theorem run_choose(q:Question)(w:World):(choose q).run P w=.ok (if q.forced then 0 else q.cut (w.tape w.drawn q)) (if q.forced then w else{w with drawn:=w.drawn+1}):=by
 unfold choose;simp only[Sem.run];split<;>rfl
theorem yY5(p:Inv B C h w){l:Nat}{c2:Value}{ty:TypeId}{V:List (AV×aA)}(hx:Rel C (.ptr l 0) c2)(k:mV h l=some V):∃r c1 w',r∈V/\(Instr.next c2 false ty).run P w=.ok c1 w'/\Inv B C r.2 w'/\Rel C r.1 c1/\Keep B w w':=by
 have b3:Rel C (.tup [.bool false]) (.tuple #[.bool false]):=.tup _ _ rfl fun j c g1 d n=>by match j with
  |0=>simp at d n;subst d n;exact .bool _|_+1=>simp at d
 unfold mV at k;cases hx with|ptr _ _ b q=>
 split at k
 ·rename_i f3 seen U J;cases k;obtain⟨N,mo,o,u,A,h4⟩:=p.ok l _ J;rw[q]at o;cases o;cases h4;exact⟨_,_,w,mN.2 rfl,by simp[Instr.next,getObj,Sem.run,A],zw8 p l,b3,Keep.refl _ _⟩
 ·rename_i f2 f3 seen U J;split at k
  ·rename_i O hm;split at k
   ·rename_i d;obtain⟨i2,rfl⟩:=d;obtain⟨N,mo,o,u,A,h4⟩:=p.ok l _ J;rw[q]at o;cases o;obtain⟨t,h5,rfl⟩:=h4;obtain⟨N,f,g,k1,k2,k3,k4,k5,k6,k7⟩:=p.ok f2 _ hm;rw[h5]at k1;cases k1;have hn:f.size=U:=by omega
    have c3:g=U:=by omega
    subst c3;have Q:∀e∈f,e.born<g:=fun e m=>by
     obtain⟨i,v,x⟩:=Array.mem_iff_getElem.1 m;have:=k7 i e (by simp[v,x]);omega
    have e1:(!seen.toArray.isEmpty&&!f.isEmpty&&f.all fun e=>decide (e.born>=g))=false:=by
     by_cases h0:f.size=0;·simp[Array.isEmpty,h0]
     ·have F:(f.all fun e=>decide (e.born>=g))=false:=by
       rw[Bool.eq_false_iff];intro F;rw[Array.all_eq_true]at F;have o:=F 0 (by omega);have u:=Q _ (Array.getElem_mem (xs:=f) (i:=0) (by omega));simp at o;omega
      simp[F]
    have hold:∀a:Array MapEntry,(∀e∈a,e∈f)->a.filter (fun e=>decide (e.born<g))=a/\a.filter (fun e=>decide (e.born>=g))=#[]:=fun a K=>by
     constructor;·rw[Array.filter_eq_self];intro e m;simp[Q e (K e m)]
     ·rw[Array.filter_eq_empty_iff];intro e m;have:=Q e (K e m);simp;omega
    generalize z:f.filter (fun e=>!seen.toArray.contains e.born)=a;have a2:∀e∈a,e∈f:=fun e m=>by rw[<-z]at m;exact(Array.mem_filter.1 m).1
    obtain⟨e3,f1⟩:=hold a a2;have L:∀(g2:Nat->Sem Value),(Instr.next (.pointer (some ⟨b,0,none⟩)) false ty).run P w=(do match((if a.isEmpty then#[none]else#[])++a.map some)[<-choose (.mapNext ((if a.isEmpty then(#[none]:Array (Option MapEntry))else#[])++a.map some).size)]? with
       |some (some e)=>setObj b (.mapIter (some t) g (seen.toArray.push e.born) g);pure (.tuple #[.bool true,e.key,e.val])|some none=>pure (.tuple #[.bool false])|none=>stuck "Next: no such candidate":Sem Value).run P w:=fun _=>by
     simp only[Instr.next,Sem.run_bind,getObj,Sem.run,A,Result.andThen_ok,k3,e1,dE,bY];rw[z,e3,f1];simp;rfl
    replace L:=L (fun _=>stuck "");split at k
    ·rename_i I;cases k;have K:a=#[]:=by
      rw[<-z,Array.filter_eq_empty_iff];intro e m;obtain⟨i,v,x⟩:=Array.mem_iff_getElem.1 m;have H:=k7 i e (by simp[v,x]);have b1:i∉(List.range g).filter fun i=>!seen.contains i:=by rw[I];simp
      simp only[nX,lM,not_and,lK,Bool.not_eq_false]at b1;have:=b1 (by omega);simp[H]at this⊢;exact this
     subst K;refine⟨_,_,w,mN.2 rfl,?_,zw8 p l,b3,Keep.refl _ _⟩;rw[L];simp[Sem.run_bind,Question.forced]
    ·rename_i s is I;cases k;have S:a.isEmpty=false:=by
      have y:s∈(List.range g).filter fun i=>!seen.contains i:=by rw[I];simp
      simp only[nX,lM]at y;have a1:s<f.size:=by omega
      have:f[s]∈a:=by
       rw[<-z,Array.mem_filter];refine⟨Array.getElem_mem a1,?_⟩;rw[k7 s _ (by simp[a1]:f[s]?=some f[s])];simpa using y.2
      cases d2:a.isEmpty with
      |false=>rfl|true=>rw[Array.isEmpty_iff.1 d2]at this;simp at this
     have b2:0<a.size:=by
      rcases IB a.size with e|e;·rw[NU e]at S;simp at S
      ·exact e
     generalize Y:(if(Question.mapNext a.size).forced then 0 else(Question.mapNext a.size).cut (w.tape w.drawn (.mapNext a.size)))=c;generalize T:(if(Question.mapNext a.size).forced then w else{w with drawn:=w.drawn+1})=M;have d:c<a.size:=by
      rw[<-Y];split;·exact b2
      ·exact Nat.mod_lt _ b2
     have W:Below w.heap.size w M:=by
      rw[<-T];split;·exact Below.refl _ _
      ·exact⟨rfl,rfl,rfl,dA _,fun i3 hk=>rfl⟩
     have e2:M.heap=w.heap:=by rw[<-T];split<;>rfl
     have d1:a[c]'d∈f:=a2 _ (Array.getElem_mem d);obtain⟨i,v,x⟩:=Array.mem_iff_getElem.1 d1;have a3:f[i]?=some (a[c]'d):=by simp[v,x]
     have X:=k7 i _ a3;have y:i∈(List.range g).filter fun i=>!seen.contains i:=by
      simp only[nX,lM];refine⟨by omega,?_⟩;have:a[c]'d∈f.filter (fun e=>!seen.toArray.contains e.born):=by rw[z];exact Array.getElem_mem d
      have:=(Array.mem_filter.1 this).2;rw[X]at this;simpa using this
     rw[I]at y;have d3:i<O.length:=by omega
     have Z:O[i]?=some O[i]:=by simp[d3]
     obtain⟨r1,r2⟩:=k5 i _ _ _ Z a3;have E:M.heap[b]?=some (.mapIter (some t) g seen.toArray g):=by rw[e2];exact A
     refine⟨_,.tuple #[.bool true,(a[c]'d).key,(a[c]'d).val],World.put M b (.mapIter (some t) g (seen.toArray.push i) g),nY.2 ⟨i,y,rfl⟩,?_,?_,?_,?_⟩
     ·rw[L];simp only[S,dE,bY,Array.empty_append,Array.size_map,Sem.run_bind,run_choose,Result.andThen_ok];rw[Y,T];simp[d,setObj,Sem.run,E,World.put,X]
     ·exact zA (p.grow W) J q (by simp[bJ,q]) E (fun c e i1=>by simp) u ⟨b,some t,q,u,by rw[BQ E];simp,t,h5,rfl⟩ (fun N H=>by simp[bJ,q]at H;exact H.symm) (fun _ _ _ _=>by simp)
     ·rw[Z];refine .tup _ _ rfl fun j c g1 d n=>?_;match j with
      |0=>simp at d n;subst d n;exact .bool _|1=>simp at d n;subst d n;exact r1.mono C.frozen_le|2=>simp at d n;subst d n;exact r2.mono C.frozen_le|_+3=>simp at d
     ·exact(jU p W).trans (yQ u E (fun c=>by simp))
   ·cases k
  ·cases k
 ·cases k
end
section
variable{P:Program}{B:Base}{C D:Cx}{h h':aA}{w w':World}{G:Gam}
def zb1(P:Program)(f:Bool)(d:Nat):Prop:=∀(t:TypeId)(b:List EK)(c:Nat)(e:Array Value),iC P d t=some b->eI P t=some b.length->c+b.length<=e.size->∀k w,(do let a<-part t e c;Instr.checkKey f (k+d) t a:Sem Unit).run P w=.ok () w
theorem zs3{i:TypeId->Option (List EK)}:∀(b:List Field)(d:Nat)(c:List EK),qS P i b d=some c->∀f∈b,f.name≠ "_"/\∃k1,i f.type=some k1/\eI P f.type=some k1.length/\f.offset+k1.length<=d+c.length
 |[],_,_,_,f,a=>by simp at a|g::b,d,c,h,f,a=>by
  simp only[qS]at h;split at h;·cases h
  ·rename_i e;simp only[not_or,Decidable.not_not]at e;split at h
   ·rename_i k1 j;split at h
    ·rename_i l;simp only[dJ]at h;obtain⟨k2,k,rfl⟩:=h;rcases fE.1 a with rfl|a;·exact⟨e.1,k1,j,l,by simp;omega⟩
     ·obtain⟨m,k3,n,o,p⟩:=zs3 b _ k2 k f a;exact⟨m,k3,n,o,by simp;omega⟩
    ·cases h
   ·cases h
theorem yi8{d b:Type}{a:Sem d}{f:d->Sem b}{w:World}{r:b}(h:(do let x<-a;f x:Sem b).run P w=.ok r w):∀{c:Type}(g:b->Sem c),(do let x<-a;let y<-f x;g y:Sem c).run P w=(g r).run P w:=by
 intro c g;simp only[Sem.run_bind]at h⊢;generalize a.run P w=e at h⊢;cases e with
 |halt _ _=>simp[Result.andThen]at h|ok x i=>
  simp only[Result.andThen_ok]at h⊢;rw[h];rfl
theorem zl1{i:Bool}{d:Nat}(h:zb1 P i d){t:TypeId}{a:Array Field}(n:P.underlying t=some (.struct a)){e:List EK}(l:qS P (iC P d) a.toList 0=some e){b:Array Value}(v:b.size=e.length)(k:Nat)(w:World):(Instr.checkKey i (k+d+1) t (.agg b)).run P w=.ok () w:=by
 rw[Instr.checkKey];simp only[Sem.run_bind,run_underlying n,Result.andThen_ok];rw[<-Array.forIn_toList];have c:=zs3 a.toList 0 e l;generalize a.toList=L at c;induction L with
 |nil=>simp|cons f L o=>
  obtain⟨m,k1,q,r,z⟩:=c f (by simp);have p:=h f.type k1 f.offset b q r (by omega) k w;have y:=fun(u:Type)(g:Unit->Sem u)=>yi8 p g;simp only[Sem.run_bind]at p;simp only[List.forIn_cons,Sem.run_bind,m,ne_eq,not_false_eq_true,bD];generalize(part f.type b f.offset).run P w=s at p⊢;cases s with
  |halt _ _=>simp[Result.andThen]at p|ok x A=>
   simp only[Result.andThen_ok]at p⊢;rw[p];simp only[Result.andThen_ok,Sem.run_pure];exact o fun g j=>c g (by simp[j])
theorem zl0(c:Bool):∀d,zb1 P c d
 |0=>fun t l g i h=>by simp[iC]at h|d+1=>by
  intro t l g i h p s k w;have f:∀(o:l.length=1)(e:lS P t=some false)(j:∀x,(Instr.checkKey c (k+d+1) t x).run P w=.ok () w),(do let a<-part t i g;Instr.checkKey c (k+(d+1)) t a:Sem Unit).run P w=.ok () w:=by
   intro o e j;have n:g<i.size:=by omega
   simp[part,uG e,n];exact j _
  simp only[iC]at h;cases b:P.underlying t with
  |none=>simp[b]at h|some m=>
   cases m<;>simp only[b]at h<;>(first|cases h|skip);case some.bool.refl=>exact f rfl (by simp[lS,b]) fun x=>by simp only[Instr.checkKey,Sem.run_bind,run_underlying b,Result.andThen_ok];rfl
   case some.int.refl q=>exact f rfl (by simp[lS,b]) fun x=>by simp only[Instr.checkKey,Sem.run_bind,run_underlying b,Result.andThen_ok];rfl
   case some.string.refl=>exact f rfl (by simp[lS,b]) fun x=>by simp only[Instr.checkKey,Sem.run_bind,run_underlying b,Result.andThen_ok];rfl
   case some.struct r=>
    split at h;·cases h
    ·have e:lS P t=some true:=by simp[lS,b]
     simp only[part,Sem.run_bind,uG e,Result.andThen_ok,bD,jR p,Sem.run_pure];rw[show k+(d+1)=k+d+1 by omega];exact zl1 (zl0 c d) b h (by simp;omega) k w
theorem xIO{t:TypeId}{d:Array Field}{a:List EK}(e:P.underlying t=some (.struct d))(g:iC P 100 t=some a){f:Array Value}(i:f.size=a.length)(c:Bool)(w:World):(Instr.checkKey c 10000 t (.agg f)).run P w=.ok () w:=by
 have b:(if P.stoodInHeld t then none else qS P (iC P 99) d.toList 0)=some a:=by
  have:iC P (99+1) t=some a:=g;rw[zs2 e]at this;exact this
 split at b;·cases b
 ·exact zl1 (zl0 c 99) e b i 9900 w
theorem zh8{f:TypeId}{E:Array Field}(t:P.underlying f=some (.struct E)){l:List EK}(q:iC P 100 f=some l){o:Array Value}{g:List AV}(x:RelL C g o.toList)(c:g.length=l.length):∀(e:List (AV×AV))(d:List MapEntry)(n:Nat)(r:Option AV),e.length=d.length->(∀(i:Nat)k v m,e[i]?=some (k,v)->d[i]?=some m->Rel C k m.key/\Rel C v m.val)->xH l g e=some r->match r with
   |some v=>∃i u,(∀w,(Instr.findAsking f (.agg o) d n).run P w=.ok (some (i,u)) w)/\Rel C v u|none=>∀w,(Instr.findAsking f (.agg o) d n).run P w=.ok none w
 |[],[],n,r,_,_,h=>by simp[xH]at h;subst h;intro w;rfl|[],_::_,_,_,c,_,_=>by simp at c|_::_,[],_,_,c,_,_=>by simp at c|(y,v)::e,m::d,n,r,J,s,h=>by
  obtain⟨L,M⟩:=s 0 y v m rfl rfl;have j:=zh8 t q x c e d (n+1) r (by simpa using J) (fun i k v m F H=>s (i+1) k v m (by simpa using F) (by simpa using H));cases y<;>simp only[xH]at h<;>(first|cases h|skip);rename_i z;split at h
  ·rename_i I;obtain⟨N,A,K⟩:=tJ L;have p:∀b w,gX l g z=some b->(Op.equal f (.agg o) m.key).run P w=.ok b w:=fun b w a=>by rw[A];exact UO t q x K c I a w
   split at h
   ·rename_i a;cases h;exact⟨n,m.val,fun w=>by simp[Instr.findAsking,p true w a],M⟩
   ·rename_i a;have j:=j h;cases r with
    |none=>intro w;simp only[Instr.findAsking,Sem.run_bind,p false w a,Result.andThen_ok,dE,bY];exact j w|some v=>
     obtain⟨i,u,k1,k2⟩:=j;exact⟨i,u,fun w=>by simp only[Instr.findAsking,Sem.run_bind,p false w a,Result.andThen_ok,dE,bY];exact k1 w,k2⟩
   ·cases h
  ·cases h
theorem JL{a:TypeId}{b:Array Field}(c:P.underlying a=some (.struct b)){xs:Array Value}{ms:List MapEntry}{r:Option (Nat×Value)}{w:World}(h:(Instr.findAsking a (.agg xs) ms).run P w=.ok r w):(Instr.findKey a (.agg xs) ms).run P w=.ok r w:=by
 simp only[Instr.findKey,Sem.run_bind,run_underlying c,Result.andThen_ok];cases ms with
 |nil=>
  simp only[Instr.findAsking,Sem.run_pure,Result.ok.injEq]at h;simp[Instr.findNow,h.1]|cons m ms=>
  have:Instr.findNow (.struct b) (.agg xs) (m::ms) 0=none:=by simp[Instr.findNow,Instr.sameNow]
  rw[this];exact h
theorem yW5(W:Inv B C h w){o:List EK}{t F J:TypeId}{U:Array Field}(E:P.underlying t=some (.map F J))(e:P.underlying F=some (.struct U))(l:iC P 100 F=some o){z:AV}(hz:CL P J=some z){j:Bool}{m k v:AV}{x y:Value}(N:Rel C m x)(hy:Rel C k y)(c:dH h (.lookA o j z) [m,k]=some v):∃u,Rel C v u/\(Instr.lookup t x y j).run P w=.ok u w:=by
 obtain⟨H,a1,Q⟩:=zM8 (C:=C) hz;cases k<;>simp only[dH]at c<;>(first|cases c|skip);rename_i T;split at c
 ·rename_i X;obtain⟨S,rfl,O⟩:=tJ hy;have A:S.size=o.length:=by have:=O.1;simp at this;omega
  have fin:∀{r:Option AV}{u:Option Value},(match r,u with|some a,some b=>Rel C a b|none,none=>True|_,_=>False)->v=(if j then .tup [r.getD z,.bool r.isSome]else r.getD z)->∃d,Rel C v d/\d=(if j then .tuple #[u.getD H,.bool u.isSome]else u.getD H):=by
   intro r u s Y;refine⟨_,?_,rfl⟩;subst Y;have K:Rel C (r.getD z) (u.getD H):=by cases r<;>cases u<;>first|exact s.elim|exact a1|exact s
   have f:r.isSome=u.isSome:=by cases r<;>cases u<;>first|exact s.elim|rfl
   cases j with
   |false=>exact K|true=>
    simp only[bD];refine .tup _ _ rfl fun i a3 b1 g n=>?_;match i with
    |0=>simp at g n;subst g n;exact K|1=>simp at g n;subst g n;rw[f];exact .bool _|_+2=>simp at g
  cases m<;>simp only at c<;>(first|cases c|skip);case map a2=>
   split at c
   ·rename_i I Z;cases N with|map _ b V=>
     obtain⟨b',ms,ck,f,L,M,h4,h5,_⟩:=W.ok a2 _ Z;rw[V]at f;cases f;cases q:xH o T I with
     |none=>simp[q]at c|some r=>
      simp only[q,fC,aT]at c;have p:=zh8 e l O X I ms.toList 0 r (by simpa using h4) (fun i k v m f L=>by
       have:=h5 i k v m f (by simpa using L);exact⟨this.1.mono C.frozen_le,this.2.mono C.frozen_le⟩) q;cases r with
      |none=>
       simp only at p;obtain⟨d,k1,k2⟩:=fin (r:=none) (u:=none) trivial (by rw[<-c]);refine⟨d,k1,?_⟩;rw[k2];simp[Instr.lookup,run_underlying E,getObj,Sem.run,M,xIO e l A,JL e (p w),Q]|some v'=>
       obtain⟨i,u,q1,q2⟩:=p;obtain⟨d,k1,k2⟩:=fin (r:=some v') (u:=some u) q2 (by rw[<-c]);refine⟨d,k1,?_⟩;rw[k2];simp[Instr.lookup,run_underlying E,getObj,Sem.run,M,xIO e l A,JL e (q1 w)]
   ·cases c
  case agg.isTrue.nilm.refl=>
   cases N;obtain⟨d,k1,k2⟩:=fin (r:=none) (u:=none) trivial rfl;refine⟨d,k1,?_⟩;rw[k2];have:=JL (P:=P) (xs:=S) (ms:=[]) (r:=none) (w:=w) e rfl;simp[Instr.lookup,run_underlying E,xIO e l A,this,Q]
 ·cases c
theorem zq4:∀{f:List EK}{d e:List AV}{g i:List Value},gX f d e=some true->d.length=f.length->e.length=f.length->RelL C d g->RelL C e i->g=i/\∀n,(g.zip i).all (fun(x,y)=>Instr.sameBits n x y)=true
 |[],d,e,g,i,_,l,m,o,q=>by
  have:d=[]:=vC l;have:e=[]:=vC m;subst d;subst e;rw[o.inv_nil,q.inv_nil];exact⟨rfl,fun n=>rfl⟩|k::f,[],_,_,_,_,l,_,_,_=>by simp at l|k::f,_::_,[],_,_,_,_,m,_,_=>by simp at m|k::f,a::d,b::e,g,i,c,l,m,o,q=>by
  obtain⟨x,g,rfl,p,t⟩:=o.inv_cons;obtain⟨y,i,rfl,r,u⟩:=q.inv_cons;have v:x=y/\(∀n,Instr.sameBits n x y=true)/\gX f d e=some true:=by
   cases k<;>cases a<;>cases b<;>simp only[gX]at c<;>(first|cases c|skip)
   ·split at c;·rename_i j;subst j;rw[jJ p,jJ r];exact⟨rfl,fun n=>by cases n<;>simp[Instr.sameBits],c⟩
    ·simp at c
   ·split at c
    ·rename_i s;split at c;·rename_i j;subst s j;rw[fF p,fF r];exact⟨rfl,fun n=>by cases n<;>simp[Instr.sameBits],c⟩
     ·simp at c
    ·cases c
   ·split at c;·rename_i j;subst j;rw[fM p,fM r];exact⟨rfl,fun n=>by cases n<;>(simp only[Instr.sameBits];rw[beq_toListBytes];simp),c⟩
    ·simp at c
  obtain⟨rfl,k2,k3⟩:=v;obtain⟨rfl,k5⟩:=zq4 k3 (by simpa using l) (by simpa using m) t u;exact⟨rfl,fun n=>by simp only[List.zip_cons_cons,qJ,k2 n,eF];exact k5 n⟩
theorem zi9{s:TypeId}{Y:Array Field}(N:P.underlying s=some (.struct Y)){t:List EK}(I:iC P 100 s=some t){f:Array Value}{p:List AV}(F:RelL C p f.toList)(o:p.length=t.length)(b1:Rel C (.agg p) (.agg f)){v:AV}{y:Value}(O:Rel C v y):∀(g:List (AV×AV))(e:List MapEntry)(n:Nat)(r:List (AV×AV)),g.length=e.length->(∀(i:Nat)k v m,g[i]?=some (k,v)->e[i]?=some m->Rel C k m.key/\Rel C v m.val)->xI t p v g=some r->(∃i u key,(∀w,(Instr.findAsking s (.agg f) e n).run P w=.ok (some (n+i,u)) w)/\(e[i]?).map (·.key)=some key/\Instr.sameBits 10000 key (.agg f)=true/\i<e.length/\r.length=e.length/\(∀(j:Nat)k v m,r[j]?=some (k,v)->(e.modify i fun m=>{m with key:=.agg f,val:=y})[j]?=some m->Rel C k m.key/\Rel C v m.val))\/((∀w,(Instr.findAsking s (.agg f) e n).run P w=.ok none w)/\r=g++[(.agg p,v)])
 |[],[],n,r,_,_,h=>by simp[xI]at h;subst h;exact .inr ⟨fun w=>rfl,rfl⟩|[],_::_,_,_,o,_,_=>by simp at o|_::_,[],_,_,o,_,_=>by simp at o|(Q,v')::g,m::e,n,r,K,L,h=>by
  obtain⟨H,r2⟩:=L 0 Q v' m rfl rfl;have M:∀(i:Nat)k v m,g[i]?=some (k,v)->e[i]?=some m->Rel C k m.key/\Rel C v m.val:=fun i k v m c d=>L (i+1) k v m (by simpa using c) (by simpa using d);cases Q<;>simp only[xI]at h<;>(first|cases h|skip);rename_i W;split at h
  ·rename_i J;obtain⟨vs,A,S⟩:=tJ H;have E:∀b w,gX t p W=some b->(Op.equal s (.agg f) m.key).run P w=.ok b w:=fun b w l=>by rw[A];exact UO N I F S o J l w
   split at h
   ·rename_i l;cases h;obtain⟨s1,s2⟩:=zq4 l o J F S;have b2:f=vs:=by rw[<-oW];exact s1
    subst b2;refine .inl ⟨0,m.val,m.key,fun w=>by simp[Instr.findAsking,E true w l],rfl,?_,by simp,by simpa using K,fun j a b q c d=>?_⟩
    ·rw[A];simp only[Instr.sameBits,beq_self_eq_true,eF];exact s2 9999
    ·cases j with
     |zero=>
      simp at c d;obtain⟨rfl,rfl⟩:=c;subst d;refine⟨?_,O⟩;rw[<-A];exact H|succ j=>simp at c d;exact M j a b q c d
   ·rename_i l;simp only[dJ]at h;obtain⟨X,Z,rfl⟩:=h;rcases zi9 N I F o b1 O g e (n+1) X (by simpa using K) M Z with⟨i,u,key,x,z,T,a4,U,V⟩|⟨x,z⟩
    ·refine .inl ⟨i+1,u,key,fun w=>?_,by simpa using z,T,by simp;omega,by simp[U],fun j a b q c d=>?_⟩
     ·simp only[Instr.findAsking,Sem.run_bind,E false w l,Result.andThen_ok,dE,bY];rw[x w];congr 3;omega
     ·cases j with
      |zero=>simp at c d;obtain⟨rfl,rfl⟩:=c;subst d;exact⟨H,r2⟩|succ j=>simp at c d;exact V j a b q c d
    ·refine .inr ⟨fun w=>?_,by simp[z]⟩;simp only[Instr.findAsking,Sem.run_bind,E false w l,Result.andThen_ok,dE,bY];exact x w
   ·cases h
  ·cases h
theorem zG6:∀{e:List EK}{c:List AV}{b:List Value},yN e c=true->RelL C c b->RelL D c b
 |[],[],b,_,d=>by rw[d.inv_nil];exact .nil|[],_::_,_,h,_=>by simp[yN]at h|_::_,[],_,h,_=>by simp[yN]at h|k::e,a::c,b,h,d=>by
  obtain⟨x,b,rfl,f,g⟩:=d.inv_cons;simp only[yN,bS]at h;exact .cons (zy2 h.1 f) (zG6 h.2 g)
theorem yX7(hi:Inv B C h w){t O et:TypeId}{x:List EK}{fs:Array Field}(ht:P.underlying t=some (.map O et))(u:P.underlying O=some (.struct fs))(K:iC P 100 O=some x){l:Nat}{g:List AV}{v e1:AV}{e2 e3 z:Value}{J:aA}{n I:List (AV×AV)}(hx:Rel C (.map l) e2)(hy:Rel C (.agg g) e3)(hz:Rel C v z)(g2:yN x g=true)(f3:g.length=x.length)(hf:frz h v=some (e1,J))(L:J[l]?=some (.map n))(hp:xI x g e1 n=some I):∃D w',(Instr.mapUpdate t e2 e3 z).run P w=.ok () w'/\C.Le D/\Inv B D (J.set l (.map I)) w'/\Keep B w w':=by
 obtain⟨D,W,H,X,Y,d5⟩:=tZ hi hf hz;obtain⟨f,rfl,c2⟩:=tJ hy;have c1:f.size=x.length:=by have:=c2.1;simp at this;omega
 cases hx with|map _ b Z=>
  obtain⟨V,y,r,Q,o,a,S,T,U,A⟩:=H.ok l _ L;rw[Y,Z]at Q;cases Q;have d:D.bl l=some b:=by rw[Y];exact Z
  have N:RelL (Cx.pure D.im) g f.toList:=zG6 g2 c2;have c3:Rel (Cx.pure D.im) (.agg g) (.agg f):=.agg g f (by simpa using N.1) fun i c q hc hq=>N.2 i c q hc (by simpa using hq);have g1:n.length=y.toList.length:=by simpa using S
  rcases zi9 u K N f3 c3 X n y.toList 0 I g1 (fun i k v m p q=>T i k v m p (by simpa using q)) hp with⟨i,u0,key,E,F,b3,b4,b5,b6⟩|⟨E,F⟩
  ·have M:(Instr.mapUpdate t (.map (some b)) (.agg f) z).run P w=.ok () (World.put w b (.map (y.modify i fun m=>{m with key:=.agg f,val:=z}) r)):=by
    have hg:(y[i]?).map (·.key)=some key:=by simpa using F
    simp only[Instr.mapUpdate,Sem.run_bind,run_underlying ht,Result.andThen_ok,getObj,Sem.run,a,xIO u K c1,JL u (E w),eR];simp[hg,Instr.keyThatStays,b3,setObj,Sem.run,a,World.put]
   refine⟨D,_,M,W,zA H L d (by simp[bJ,d]) a (fun c e f1=>by simp) o ?_ (fun V s=>by simp[bJ,d]at s;exact s.symm) (fun _ _ _ _=>by simp),yQ o a (fun c=>by simp)⟩;refine⟨b,_,r,d,o,BQ a,?_,(fun j k v m p q=>?_),by simpa using U,fun j m q=>?_⟩;·simpa using b5
   ·refine b6 j k v m p ?_;rw[<-Array.toList_modify,zZ];exact q
   ·rw[zY]at q;split at q
    ·simp only[dJ]at q;obtain⟨m0,q1,rfl⟩:=q;exact A j m0 q1
    ·exact A j m q
  ·subst F;have M:(Instr.mapUpdate t (.map (some b)) (.agg f) z).run P w=.ok () (World.put w b (.map (y.push {key:=.agg f,val:=z,born:=r}) (r+1))):=by
    simp only[Instr.mapUpdate,Sem.run_bind,run_underlying ht,Result.andThen_ok,getObj,Sem.run,a,xIO u K c1,JL u (E w)];simp[setObj,Sem.run,a,World.put]
   refine⟨D,_,M,W,zA H L d (by simp[bJ,d]) a (fun c e f1=>by simp) o ?_ (fun V s=>by simp[bJ,d]at s;exact s.symm) (fun _ _ _ _=>by simp),yQ o a (fun c=>by simp)⟩;refine⟨b,_,r+1,d,o,BQ a,by simp[S],(fun j k' v' m p q=>?_),by simp[U],fun j m q=>?_⟩;rotate_left
   ·rw[DN]at q;split at q
    ·rename_i e;cases q;show r=j;omega
    ·exact A j m q
   by_cases hj:j<n.length
   ·rw[gC hj]at p;rw[DN,if_neg (by omega)]at q;exact T j k' v' m p q
   ·rw[fT (by omega)]at p;have f2:j-n.length=0:=by
     rcases IB (j-n.length)with e|e;·exact e
     ·rw[lX (by simp;omega)]at p;cases p
    rw[f2]at p;simp at p;obtain⟨rfl,rfl⟩:=p;rw[DN,if_pos (by omega)]at q;cases q;exact⟨c3,X⟩
end
structure Holds(I:Nat->Nat->Option Value)(w:World):Prop where
 cell:∀b o u,I b o=some u->w.cell? ⟨b,o,none⟩=some u
 one:∀b o u,I b o=some u->u.oneCell'=true
structure Grown(w:World)(I J:Nat->Nat->Option Value):Prop where
 up:∀b o u,I b o=some u->J b o=some u
 down:∀b o u,J b o=some u->b<w.heap.size->I b o=some u
structure GvHolds(gv:Gv)(I:Nat->Nat->Option Value)(w:World):Prop where
 gl:∀g r,gv g=some r->Rel (Cx.pure I) (.fptr r 0) (.pointer (some ⟨g,0,none⟩))tb:∀g cs,gv.tb g=some cs->∃T fz,w.heap[g]?=some (.cells cs.toArray T fz)
def dW(P:Program)(c:Gv)(f:FuncId)(F:List AV->Option AV):Prop:=∀(I:Nat->Nat->Option Value)(w:World)(a:List AV)(r:AV)(b:Array Value),Holds I w->GvHolds c I w->RelL (Cx.pure I) a b.toList->F a=some r->Calls P f b w fun e w'=>∃v J,e=.returned v/\Grown w I J/\Holds J w'/\Rel (Cx.pure J) r v/\Below w.heap.size w w'
def fA(P:Program)(c:Gv)(f:FuncId)(F:List AV->aA->Option (AV×aA)):Prop:=∀(B:Base)(C:Cx)(h:aA)(w:World)(a:List AV)(r:AV)(h':aA)(b:Array Value),B.gv=c->Inv B C h w->RelL C a b.toList->F a h=some (r,h')->Calls P f b w fun e w'=>∃v D,e=.returned v/\C.Le D/\Inv B D h' w'/\Rel D r v/\Keep B w w'
def YOK(P:Program)(B:Base)(Y:Nat->List AV->aA->Option (AV×aA)):Prop:=∀(a:Base),B.Up a->∀(k:Nat)(c:List AV)(h:aA)(v:AV)(h':aA),Y k c h=some (v,h')->∀(C:Cx)(w:World)(b:Nat)(d:Array Value),C.bl k=some b->Inv a C h w->RelL C c d.toList->YieldAt Fence.wide 0 P b d w fun e w'=>∃u D,e=.returned u/\C.Le D/\Inv a D h' w'/\Rel D v u/\Keep a w w'
def BU(F:RdF)(y:List AV->aA->Option (AV×aA)):Nat->Nat->aA->aA->Prop
 |0,_,_,_=>False|N+1,j,h,h'=>match F j h with
  |none=>False|some (none,a)=>h'=a|some (some c,a)=>match y c a with
   |some (.bool true,b)=>BU F y N (j+1) b h'|some (.bool false,b)=>h'=b|_=>False
def zd5(P:Program)(d:Gv)(f:FuncId)(F:ItF):Prop:=∀(B:Base)(C:Cx)(h h':aA)(w:World)(a:List AV)(c:Array Value)(k b N:Nat)(Y:Nat->List AV->aA->Option (AV×aA)),B.gv=d->Inv B C h w->RelL C a c.toList->C.bl k=some b->YOK P B Y->BU (F a h) (Y k) N 0 h h'->Calls P f (#[.func (.yield b) #[] #[]]++c) w fun e w'=>∃v D,e=.returned v/\C.Le D/\Inv B D h' w'/\Keep B w w'
def CT.OK(P:Program)(a:Gv)(f:FuncId):CT->Prop
 |.pure F=>dW P a f F|.gen F=>fA P a f F|.iter F=>zd5 P a f F
def Enters(P:Program)(f:FuncId):Prop:=∀a w,(callFunc f a).run P w=.ok (.enter f a) w
structure GamOK(P:Program)(gv:Gv)(G:Gam):Prop where
 enters:∀f c,G f=some c->Enters P f
 ok:∀f c,G f=some c->c.OK P gv f
 noy:∀k args h,G.y k args h=none
structure GamB(P:Program)(B:Base)(G:Gam):Prop where
 enters:∀f c,G f=some c->Enters P f
 ok:∀f c,G f=some c->c.OK P B.gv f
 y:YOK P B G.y
theorem GamOK.b{P:Program}{B:Base}{G:Gam}(h:GamOK P B.gv G):GamB P B G:=⟨h.enters,h.ok,fun a _ k b c v h' e=>by rw[h.noy]at e;cases e⟩
theorem GamB.up{P:Program}{B D:Base}{G:Gam}(h:GamB P B G)(a:B.Up D):GamB P D G:=by
 refine⟨h.enters,?_,fun E b=>h.y E (a.trans b)⟩;obtain⟨d,c,rfl,_,_⟩:=a;exact h.ok
section
variable{P:Program}{B:Base}{C D:Cx}{h:aA}{w w':World}{G:Gam}
theorem Inv.holds(a:Inv B C h w):Holds C.im w:=⟨a.im,a.one⟩
mutual theorem zN3:∀{v:AV}{u:Value},scalar v=true->Rel C v u->Rel D v u
 |.bool b,u,_,h=>by rw[jJ h];exact .bool b|.int k n,u,_,h=>by rw[fF h];exact .int k n|.str s,u,_,h=>by rw[fM h];exact .str s|.tup e,u,d,h=>by cases h with|tup p us j h=>exact .tup _ _ j (fun i c v f g=>zN4 (by simpa[scalar]using d) (us:=us.toList) ⟨by simpa using j,fun i c v f g=>h i c v f (by simpa using g)⟩|>.2 i c v f (by simpa using g))
 |.agg _,_,d,_|.sl _,_,d,_|.tsl _,_,d,_|.nils,_,d,_|.own _ _ _,_,d,_|.win _ _ _ _,_,d,_|.ptr _ _,_,d,_|.fptr _ _,_,d,_|.eptr _ _ _ _,_,d,_|.gptr _ _,_,d,_|.nilp,_,d,_|.map _,_,d,_|.nilm,_,d,_|.fn _ _,_,d,_|.mth _ _,_,d,_|.nilf,_,d,_|.iface _ _,_,d,_|.nili,_,d,_|.yld _,_,d,_|.junk,_,d,_=>by simp[scalar]at d theorem zN4:∀{e:List AV}{us:List Value},RT e=true->RelL C e us->RelL D e us
 |[],us,_,h=>by rw[h.inv_nil];exact .nil|a::o,us,d,h=>by
  obtain⟨u,q,rfl,l,m⟩:=h.inv_cons;simp only[RT,bS]at d;exact .cons (zN3 d.1 l) (zN4 d.2 m)end
theorem yn4(m:GamB P B G)(i:Inv B C h w){f:FuncId}{d:List AV}{j:Array Value}{r:AV}{h':aA}(s:RelL C d j.toList)(a:eD G f d h=some (r,h')):Calls P f j w fun e w'=>∃v D,e=.returned v/\C.Le D/\Inv B D h' w'/\Rel D r v/\Keep B w w':=by
 unfold eD at a;split at a
 ·rename_i F k;have N:dW P B.gv f F:=m.ok f _ k;split at a
  ·rename_i t Q;split at a
   ·rename_i S E;have K:yB h d=some (t,eS h (dX d)):=by simp[yB,Q]
    obtain⟨D,z,c,A,T,U⟩:=zt1 i K s;have n:=N D.im w t S j c.holds ⟨c.gl,fun g y L=>(c.tb g y L).2⟩ A E;split at a
    ·rename_i O;cases a;refine n.mono fun e w' l=>?_;obtain⟨v,J,k1,k2,k3,k4,k5⟩:=l;exact⟨v,C,k1,.refl C,i.grow k5,zN3 O k4,jU i k5⟩
    ·cases a;refine n.mono fun e w' l=>?_;obtain⟨v,J,k1,k2,k3,k4,k5⟩:=l;have q:D.Le {D with im:=J}:=⟨k2.up,fun _ _ x=>x,fun _ _ _ x=>x⟩;have I:Ext w D {D with im:=J}:=⟨q,fun b o H=>by
     show J b o=D.im b o;cases p:D.im b o with
     |some u=>exact k2.up _ _ _ p|none=>cases M:J b o with
      |none=>rfl|some u=>have:=k2.down _ _ _ M H;rw[p]at this;cases this⟩;exact⟨v,{D with im:=J},k1,z.trans q,c.extend I k5 k3.cell k3.one c.fr c.fv,k4.mono ⟨fun _ _ _ x=>x,(fun _ _ x=>by cases x),(fun _ _ _ x=>by cases x)⟩,jU i k5⟩
   ·cases a
  ·cases a
 ·rename_i F k;exact m.ok f _ k B C h w d r h' j rfl i s a
 ·cases a
def TV:Op->Option (AO×List Operand)
 |.call {callee:=.value (.func f),args,..}=>some (.call f,args.toList)|.call {callee:=.value x,args,..}=>some (.callv,x::args.toList)|_=>none
def OU(P:Program):Op->Option (AO×List Operand)
 |.entry g=>some (.ent,[g])|.lookup t x i j=>match P.underlying t with
  |some (.map a f)=>(match P.underlying a with
   |some (.struct _)=>(match iC P 100 a,CL P f with
    |some b,some z=>some (.lookA b j z,[x,i])|_,_=>none)|_=>none)|_=>none
 |.mapUpdate t m k v=>match P.underlying t with
  |some (.map a _)=>(match P.underlying a with
   |some (.struct _)=>(iC P 100 a).map fun b=>(.mapupA b,[m,k,v])|_=>none)|_=>none
 |.insert t m k v=>match P.underlying t with
  |some (.map a _)=>(match P.underlying a with
   |some (.struct _)=>(iC P 100 a).map fun b=>(.mapupA b,[m,k,v])|_=>none)|_=>none
 |.binOp c t x (.const (.slice none 0 0)) _=>match P.underlying t with
  |some (.slice _)=>(match c with
   |.eql=>some (.isnil false,[x])|.neq=>some (.isnil true,[x])|_=>none)|_=>none
 |.binOp c t x (.const .nilIface) _=>match P.underlying t with
  |some (.interface _)=>(match c with
   |.eql=>some (.isnili false,[x])|.neq=>some (.isnili true,[x])|_=>none)|_=>none
 |.convert s d x=>match P.underlying s,P.underlying d with
  |some (.slice e),some .string=>(match P.underlying e with
   |some (.int .u8)=>some (.b2s,[x])|_=>none)|some .string,some (.slice e)=>(match P.underlying e with
   |some (.int .u8)=>some (.s2b,[x])|_=>none)|_,_=>none
 |.call {callee:=.builtin .copy,args,argTypes}=>match args.toList,argTypes.toList with
  |[s,x],[t,l]=>(match P.underlying t with
   |some (.slice e)=>(match eI P e,P.underlying l with
    |some n,some (.slice _)=>some (.cpy false n,[s,x])|some n,some .string=>if n=1 then some (.cpy true n,[s,x])else none|_,_=>none)|_=>none)|_,_=>none
 |_=>none
def TW(P:Program)(own:Bool):Op->Option (AO×List Operand)
 |.slice t x b a c=>if own then(match P.underlying t with
  |some (.slice e)=>(match eI P e with
   |some n=>some (.slcf n b.isSome a.isSome c.isSome,x::(b.toList++a.toList++c.toList))|none=>none)|_=>none)else none|_=>none
def IS(P:Program)(own:Bool)(o:Oper):Option (AO×List Operand):=match TV o.op with
 |some r=>some r|none=>match TW P own o.op with
  |some r=>some r|none=>match OT P own o.op with
   |some r=>some r|none=>match IQ P own o.type o.op with
    |some r=>some r|none=>match OU P o.op with
     |some r=>some r|none=>iQ P o.op
def wU(P:Program)(R:Value->World->Prop):Result Next->Prop
 |.ok (.value u) w'=>R u w'|.ok .skip w'=>R undef w'|.ok (.enter f b) w'=>Calls P f b w' fun e a=>∃v,e=.returned v/\R v a|.ok (.round l f g c d) w'=>RoundIn Fence.wide 0 P l f g c d w' fun e a=>∃v,e=.returned v/\R v a|_=>False
theorem WQ(f:FuncId)(args:Array Value)(a:Array Value):Deferred.ofValue (.func (.func f) #[] a) args=(pure {target:=.fn (.func f) a,args:=args}:Sem Deferred):=by simp[Deferred.ofValue]
theorem UL(d:GamB P B G)(k:Inv B C h w){f:FuncId}{b:List AV}{a:Array Value}{r:AV}{h':aA}(l:RelL C b a.toList)(g:eD G f b h=some (r,h')):wU P (fun u w'=>∃D,C.Le D/\Inv B D h' w'/\Rel D r u/\Keep B w w') ((callFunc f a).run P w):=by
 have j:Enters P f:=by cases i:G f with
  |none=>simp[eD,i]at g|some c=>exact d.enters f c i
 rw[j a w];exact(yn4 d k l g).mono fun e w'⟨v,D,k1,k2⟩=>⟨v,k1,D,k2⟩
theorem xm4(a:BinOp)(t:TypeId)(x y:Operand)(p q:Option Addr)(l c d b:Nat)(w:World):(eqGuard a t x y (.slice p l c) (.slice q d b)).run P w=.ok () w:=by cases a<;>simp[eqGuard]
theorem xm5{t e:TypeId}{p:Option Addr}{l c:Nat}(d:Nat)(a:P.underlying t=some (.slice e)):(Op.equalIn (d+1) t (.slice p l c) (.slice none 0 0)).run P w=.ok (!p.isSome) w:=by
 rw[Op.equalIn];simp only[Sem.run_bind,run_underlying a,Result.andThen_ok];cases p<;>rfl
theorem xm6{t:TypeId}{e:_}{x:Value}(d:Nat)(a:P.underlying t=some (.interface e)){b:Bool}(c:(x=.nilIface/\b=false)\/((∃s v,x=.iface s v)/\b=true)):(Op.equalIn (d+1) t x .nilIface).run P w=.ok (!b) w:=by
 rw[Op.equalIn];simp only[Sem.run_bind,run_underlying a,Result.andThen_ok];rcases c with⟨rfl,rfl⟩|⟨⟨s,v,rfl⟩,rfl⟩<;>rfl
theorem xs5{a:AV}{x:Value}{b:Bool}(c:Rel C a x)(h:FR a=some b):(x=.nilIface/\b=false)\/((∃s v,x=.iface s v)/\b=true):=by
 cases a<;>first|(simp[FR]at h;done)|skip
 case nili=>simp only[FR,aT]at h;subst h;cases c;exact .inl ⟨rfl,rfl⟩
 case iface t v=>simp only[FR,aT]at h;subst h;cases c;exact .inr ⟨⟨_,_,rfl⟩,rfl⟩
theorem xs6{a:AV}{x:Value}{b:Bool}(d:Rel C a x)(h:there a=some b):∃p l c,x=.slice p l c/\p.isSome=b:=by
 cases a<;>first|(simp[there]at h;done)|skip
 case nils=>simp only[there,aT]at h;subst h;cases d;exact⟨_,_,_,rfl,rfl⟩
 case sl e=>cases e with
  |nil=>simp[there]at h|cons r f=>simp only[there,aT]at h;subst h;cases d;exact⟨_,_,_,rfl,rfl⟩
 case tsl e=>cases e with
  |nil=>simp[there]at h|cons r f=>simp only[there,aT]at h;subst h;cases d;exact⟨_,_,_,rfl,rfl⟩
 case own l g n=>cases n with
  |zero=>simp[there]at h|succ n=>simp only[there,aT]at h;subst h;cases d;exact⟨_,_,_,rfl,rfl⟩
theorem zB4{d:List EK}{t b f:TypeId}{g:Array Field}{m k x:Operand}{e:List AV}{v:AV}{h':aA}{ρ:Operand->Value}{S:Sem Next}(o:S=(do Instr.mapUpdate t (ρ m) (ρ k) (ρ x);pure Next.skip))(q:Inv B C h w)(A:P.underlying t=some (.map b f))(E:P.underlying b=some (.struct g))(r:iC P 100 b=some d)(z:RelL C e ([m,k,x].map ρ))(a:dN G h (.mapupA d) e=some (v,h')):wU P (fun u w'=>∃D,C.Le D/\Inv B D h' w'/\Rel D v u/\Keep B w w') (S.run P w):=by
 obtain⟨H,F,M,rfl,i,j,n⟩:=ZM z;simp only[dN,AO.quiet,dE,bY]at a;cases H<;>first|(simp[cG]at a;done)|skip
 cases F<;>first|(simp[cG]at a;done)|skip
 rename_i l I;simp only[cG]at a;split at a
 ·rename_i c;split at a
  ·rename_i u L p;split at a
   ·rename_i J s;simp only[dJ,dF]at a;obtain⟨K,y,rfl,rfl⟩:=a;obtain⟨D,w',k1,k2,k3,k4⟩:=yX7 q A E r i j n c.1 c.2 p s y;subst o;have:Sem.run P (do Instr.mapUpdate t (ρ m) (ρ k) (ρ x);pure Next.skip) w=.ok .skip w':=by simp[k1]
    rw[this];exact⟨D,k2,k3,.junk _,k4⟩
   ·cases a
  ·cases a
 ·cases a
theorem yY7(p:Inv B C h w){i:Oper}{M:AO}{U:List Operand}(c:OU P i.op=some (M,U)){T:List AV}{v:AV}{h':aA}{f:Operand->Value}(hρ:∀u,f (.const u)=u)(q:RelL C T (U.map f))(d:dN G h M T=some (v,h')):wU P (fun u w'=>∃D,C.Le D/\Inv B D h' w'/\Rel D v u/\Keep B w w') ((execOp f i).run P w):=by
 have r:∀a3,i.op=a3->execOp f i=execOp f {i with op:=a3}:=fun a3 e=>by rw[<-e]
 unfold OU at c;split at c
 ·rename_i it g;cases c;obtain⟨a,rfl,z⟩:=qW q;cases a<;>first|(simp[dN,AO.quiet,dH]at d;done)|skip
  rename_i a2 d1;cases d1 with
  |succ _=>simp[dN,AO.quiet,dH]at d|zero=>
   simp only[dN,AO.quiet,bD,dH]at d;split at d
   ·rename_i v0 hv;cases d;obtain⟨u,k1,k2⟩:=yx6 (P:=P) p z hv;rw[r _ g];have:(execOp f {i with op:=.entry it}).run P w=.ok (.value u) w:=by
     have E:∀S:Sem Value,S.run P w=.ok u w->Sem.run P (do pure (Next.value (<-S))) w=.ok (.value u) w:=fun S y=>by simp[y]
     exact E (Instr.entry (f it)) k1
    rw[this];exact⟨C,.refl C,p,k2,Keep.refl _ _⟩
   ·cases d
 ·rename_i t x b1 ok g;split at c
  ·rename_i kt et l;split at c
   ·rename_i fs K;split at c
    ·rename_i ks f2 H hz;cases c;obtain⟨m,k,rfl,F,W⟩:=zB q;simp only[dN,AO.quiet,bD]at d;split at d
     ·rename_i v0 hv;cases d;obtain⟨u,k1,k2⟩:=yW5 p l K H hz F W hv;rw[r _ g];have:(execOp f {i with op:=.lookup t x b1 ok}).run P w=.ok (.value u) w:=by
       have E:∀S:Sem Value,S.run P w=.ok u w->Sem.run P (do pure (Next.value (<-S))) w=.ok (.value u) w:=fun S y=>by simp[y]
       exact E (Instr.lookup t (f x) (f b1) ok) k2
      rw[this];exact⟨C,.refl C,p,k1,Keep.refl _ _⟩
     ·cases d
    ·cases c
   ·cases c
  ·cases c
 ·rename_i t m k x g;split at c
  ·rename_i kt et l;split at c
   ·rename_i fs K;simp only[dJ,dF]at c;obtain⟨ks,H,rfl,rfl⟩:=c;rw[r _ g];exact zB4 (ρ:=f) (S:=execOp f {i with op:=.mapUpdate t m k x}) rfl p l K H q d
   ·cases c
  ·cases c
 ·rename_i t m k x g;split at c
  ·rename_i kt et l;split at c
   ·rename_i fs K;simp only[dJ,dF]at c;obtain⟨ks,H,rfl,rfl⟩:=c;rw[r _ g];exact zB4 (ρ:=f) (S:=execOp f {i with op:=.insert t m k x}) rfl p l K H q d
   ·cases c
  ·cases c
 ·rename_i op t x yt g;split at c
  ·rename_i e l;have L:∀j:Bool,(op=if j then .neq else .eql)->M=.isnil j->U=[x]->wU P (fun u w'=>∃D,C.Le D/\Inv B D h' w'/\Rel D v u/\Keep B w w') ((execOp f i).run P w):=by
    rintro j Z rfl rfl;obtain⟨a,rfl,z⟩:=qW q;simp only[dN,AO.quiet,bD,dH]at d;cases o:there a with
    |none=>simp[o]at d|some b=>
     simp only[o,fC,aT,dF]at d;obtain⟨rfl,rfl⟩:=d;obtain⟨d2,a2,b2,A,hp⟩:=xs6 z o;rw[r _ g];have:(execOp f {i with op:=.binOp op t x (.const (.slice none 0 0)) yt}).run P w=.ok (.value (.bool (if j then b else !b))) w:=by
      have E:∀S:Sem Value,S.run P w=.ok (.bool (if j then b else !b)) w->Sem.run P (do pure (Next.value (<-S))) w=.ok (.value (.bool (if j then b else !b))) w:=fun S y=>by simp[y]
      refine E (do eqGuard op t x (.const (.slice none 0 0)) (f x) (f (.const (.slice none 0 0)));binOp op t (f x) (f (.const (.slice none 0 0))):Sem Value) ?_;rw[hρ,A];have J:=xm5 (P:=P) (w:=w) (p:=d2) (l:=a2) (c:=b2) 9999 l;rw[hp]at J;subst Z;cases j<;>simp[xm4,binOp,Op.equal,Op.maxDepth,J]
     rw[this];exact⟨C,.refl C,p,.bool _,Keep.refl _ _⟩
   split at c
   ·simp only[aT,dF]at c;exact L false rfl c.1.symm c.2.symm
   ·simp only[aT,dF]at c;exact L true rfl c.1.symm c.2.symm
   ·cases c
  ·cases c
 ·rename_i op t x yt g;split at c
  ·rename_i e l;have L:∀j:Bool,(op=if j then .neq else .eql)->M=.isnili j->U=[x]->wU P (fun u w'=>∃D,C.Le D/\Inv B D h' w'/\Rel D v u/\Keep B w w') ((execOp f i).run P w):=by
    rintro j Z rfl rfl;obtain⟨a,rfl,z⟩:=qW q;simp only[dN,AO.quiet,bD,dH]at d;cases o:FR a with
    |none=>simp[o]at d|some b=>
     simp only[o,fC,aT,dF]at d;obtain⟨rfl,rfl⟩:=d;have A:=xs5 z o;rw[r _ g];have:(execOp f {i with op:=.binOp op t x (.const .nilIface) yt}).run P w=.ok (.value (.bool (if j then b else !b))) w:=by
      have E:∀S:Sem Value,S.run P w=.ok (.bool (if j then b else !b)) w->Sem.run P (do pure (Next.value (<-S))) w=.ok (.value (.bool (if j then b else !b))) w:=fun S y=>by simp[y]
      refine E (do eqGuard op t x (.const .nilIface) (f x) (f (.const .nilIface));binOp op t (f x) (f (.const .nilIface)):Sem Value) ?_;rw[hρ];have J:=xm6 (P:=P) (w:=w) 9999 l A;subst Z;rcases A with⟨A,rfl⟩|⟨⟨s,u,A⟩,rfl⟩<;>rw[A]at J⊢<;>cases j<;>simp[eqGuard,binOp,Op.equal,Op.maxDepth,J]
     rw[this];exact⟨C,.refl C,p,.bool _,Keep.refl _ _⟩
   split at c
   ·simp only[aT,dF]at c;exact L false rfl c.1.symm c.2.symm
   ·simp only[aT,dF]at c;exact L true rfl c.1.symm c.2.symm
   ·cases c
  ·cases c
 ·rename_i s e3 x g;split at c
  ·rename_i e hs X;split at c
   ·rename_i Y;cases c;obtain⟨a,rfl,z⟩:=qW q;simp only[dN,AO.quiet,bD,dH]at d;cases N:rowsOf h a with
    |none=>simp[N]at d|some d3=>cases o:lP d3 with
     |none=>simp[N,o]at d|some bs=>
      simp only[N,o,fC,aT,dF]at d;obtain⟨rfl,rfl⟩:=d;have:=yf6 p hs Y X z N o;rw[r _ g];simp only[execOp,Sem.run_bind,this,Result.andThen_ok];exact⟨C,.refl C,p,.str _,Keep.refl _ _⟩
   ·cases c
  ·rename_i e hs X;split at c
   ·rename_i Y;cases c;obtain⟨a,rfl,z⟩:=qW q;cases a with
    |str s=>
     simp only[dN,AO.quiet,dE,bY,cG]at d;split at d
     ·rename_i o;injection d with d;injection d with e1 V;subst e1 V;have A:=fM z;obtain⟨u,D,w',k1,k2,k3,k4,k5⟩:=xm7 (P:=P) p hs X Y o;rw[r _ g];simp only[execOp,Sem.run_bind,A,k1,Result.andThen_ok];exact⟨D,k2,k3,k4,k5⟩
     ·cases d|_=>simp[dN,AO.quiet,cG]at d
   ·cases c
  ·cases c
 ·rename_i args argTypes g;split at c
  ·rename_i s x t Q c2 c3;have b3:args=#[s,x]:=by rw[<-oW];simpa using c2
   have c1:argTypes=#[t,Q]:=by rw[<-oW];simpa using c3
   subst b3 c1;have cp:∀{O:Bool}{n:Nat}{e:TypeId},P.underlying t=some (.slice e)->eI P e=some n->(O=true->P.underlying Q=some .string/\n=1)->(O=false->∃e,P.underlying Q=some (.slice e))->RelL C T ([s,x].map f)->dN G h (.cpy O n) T=some (v,h')->wU P (fun u w'=>∃D,C.Le D/\Inv B D h' w'/\Rel D v u/\Keep B w w') ((execOp f i).run P w):=by
    intro O n e l I k1 k2 q d;obtain⟨a,b,rfl,F,W⟩:=zB q;simp only[dN,AO.quiet,dE,bY]at d;cases a<;>first|(simp[cG]at d;done)|skip
    rename_i a2 f1 m;obtain⟨u,D,w',g1,g2,g3,g4,g5⟩:=yt1 (ty:=i.type) p l I F W k1 k2 d;rw[r _ g];have em:#[s,x].map f=#[f s,f x]:=by simp
    rw[<-em]at g1;have:(execOp f {i with op:=.call {callee:=.builtin .copy,args:=#[s,x],argTypes:=#[t,Q]}}).run P w=.ok (.value u) w':=by
     have e:∀(S:Sem Value),S.run P w=.ok u w'->Sem.run P (do pure (Next.value (<-S))) w=.ok (.value u) w':=fun S y=>by simp[y]
     exact e _ g1
    rw[this];exact⟨D,g2,g3,g4,g5⟩
   split at c
   ·rename_i e l;split at c
    ·rename_i n V I a1;cases c;exact cp l I (fun e=>by cases e) (fun _=>⟨V,a1⟩) q d
    ·rename_i n I a1;split at c
     ·rename_i F;cases c;exact cp l I (fun _=>⟨a1,F⟩) (fun e=>by cases e) q d
     ·cases c
    ·cases c
   ·cases c
  ·cases c
 ·cases c
theorem xc4(K:GamB P B G)(j:Inv B C h w){own:Bool}{i:Oper}{I:AO}{U:List Operand}(c:IS P own i=some (I,U)){s:List AV}{v:AV}{h':aA}{g:Operand->Value}(O:∀u,g (.const u)=u)(d2:∀f,g (.func f)=.func (.func f) #[] #[])(m:RelL C s (U.map g))(d:dN G h I s=some (v,h')):wU P (fun u w'=>∃D,C.Le D/\Inv B D h' w'/\Rel D v u/\Keep B w w') ((execOp g i).run P w):=by
 unfold IS at c;split at c;·
  rename_i r A;cases c;have z:∀o,i.op=o->execOp g i=execOp g {i with op:=o}:=fun o e=>by rw[<-e]
  unfold TV at A;split at A
  ·rename_i f args _ q;cases A;simp only[dN,AO.quiet,dE,bY,cG]at d;have E:RelL C s (args.map g).toList:=by simpa using m
   have:=UL K j E d;rw[z _ q];simpa[execOp,resolve,d2,WQ,invoke]using this
  ·rename_i x args _ f3 q;cases A;simp only[dN,AO.quiet,dE,bY]at d;cases s with
   |nil=>simp[cG]at d|cons a J=>
    obtain⟨u,us,e,p,H⟩:=m.inv_cons;simp only[iO,List.cons.injEq]at e;obtain⟨rfl,rfl⟩:=e;cases a<;>first|(simp[cG]at d;done)|skip
    case yld e3=>
     simp only[cG]at d;generalize F:g x=y at p;cases p with|yld _ b hb=>
      obtain⟨fn,f1,Y,Z,q1,q2⟩:=K.y B (.refl B) e3 J h v h' d C w b (args.map g) hb j (by simpa using H);rw[z _ q];have L:(execOp g {i with op:=.call {callee:=.value x,args:=args,argTypes:=‹_›}}).run P w=.ok (.round b fn f1 Y Z) w:=by simpa[execOp,resolve,F,Deferred.ofValue,invoke]using q1
      rw[L];refine RoundIn.mono q2 fun e w' hk=>?_;obtain⟨u,D,k1,k2⟩:=hk;exact⟨u,k1,D,k2⟩
    case mth f v0=>
     simp only[cG]at d;generalize F:g x=y at p;cases p with|mth _ _ y0 h0=>
      have E:RelL C (v0::J) (#[y0]++args.map g).toList:=by
       rw[Array.toList_append];exact RelL.cons h0 (by simpa using H)
      have:=UL K j E d;rw[z _ q];simpa[execOp,resolve,F,Deferred.ofValue,invoke]using this
    rename_i f b2;simp only[cG]at d;generalize F:g x=y at p;cases p with|fn _ _ cs hl c2=>
     have E:RelL C (J++b2) (args.map g++cs).toList:=by
      rw[Array.toList_append];exact RelL.append (by simpa using H) ⟨by simpa using hl,fun d3 b1 v c hv=>c2 d3 b1 v c (by simpa using hv)⟩
     have:=UL K j E d;rw[z _ q];simpa[execOp,resolve,F,WQ,invoke]using this
  ·cases A
 ·rename_i f2;split at c
  ·rename_i r k;cases c;have z:∀o,i.op=o->execOp g i=execOp g {i with op:=o}:=fun o e=>by rw[<-e]
   unfold TW at k;split at k
   ·rename_i t x Q N T q;split at k
    ·split at k
     ·rename_i e ht;split at k
      ·rename_i n hn;cases k;simp only[dN,AO.quiet,dE,bY]at d;cases s with
       |nil=>simp[RelL]at m|cons a J=>
        obtain⟨y,us,e,p,H⟩:=m.inv_cons;injection e with e1 L;subst e1 L;simp only[cG]at d;split at d
        ·rename_i g1 r g2 b3;obtain⟨l',r',m',V,W,X,rfl,rfl,rfl⟩:=zO2 H b3;obtain⟨u,D,k1,k2,k3,k4⟩:=xp3 j ht hn p l' r' m' d;rw[z _ q];have e9:∀(S:Sem Value),S.run P w=.ok u w->Sem.run P (do pure (Next.value (<-S))) w=.ok (.value u) w:=fun S hS=>by simp[hS]
         have:(execOp g {i with op:=.slice t x Q N T}).run P w=.ok (.value u) w:=by
          refine e9 (Instr.sliceAt t (g x) (Q.map g) (N.map g) (T.map g)) ?_;rw[V,W,X];exact k1
         rw[this];exact⟨D,k2,k3,k4,Keep.refl _ _⟩
        ·cases d
      ·cases k
     ·cases k
    ·cases k
   ·cases k
  split at c
  ·rename_i r c1;cases c;obtain⟨n,u,D,w',k1,k2,k3⟩:=zV1 (G:=G) j c1 rfl m d;rw[k1];rcases k2 with rfl|⟨rfl,rfl⟩;·exact⟨D,k3⟩
   ·exact⟨D,k3⟩
  split at c
  ·rename_i r l;cases c;have M:I.quiet=false:=by
    unfold IQ at l;split at l<;>(try split at l)<;>(try split at l)<;>(try split at l)<;>(try split at l)<;>(first|(cases l;done)|(cases l;rfl))
   simp only[dN,M,dE,bY]at d;obtain⟨n,u,D,w',k1,k2,k3⟩:=yw8 j l s v h' g i O rfl rfl m d;rw[k1];rcases k2 with rfl|⟨rfl,rfl⟩;·exact⟨D,k3⟩
   ·exact⟨D,k3⟩
  ·split at c
   ·rename_i r c3;cases c;exact yY7 j c3 O m d
   have M:I.quiet=true:=by
    unfold iQ at c;split at c<;>(try split at c)<;>(try split at c)<;>(try split at c)<;>(try split at c)<;>(try split at c)<;>(try split at c)<;>(try split at c)<;>(first|(cases c;done)|(cases c;rfl))
   simp only[dN,M,bD]at d;split at d
   ·rename_i v' d1;simp only[aT,dF]at d;obtain⟨rfl,rfl⟩:=d;obtain⟨u,k1,k2⟩:=xg2 j c s v' g i rfl m d1;rw[k2 w (Below.refl _ _)];exact⟨C,.refl C,j,k1,Keep.refl _ _⟩
   ·cases d
end
end Go.Proofs.YtdebajodkallbaaGreatDoor
