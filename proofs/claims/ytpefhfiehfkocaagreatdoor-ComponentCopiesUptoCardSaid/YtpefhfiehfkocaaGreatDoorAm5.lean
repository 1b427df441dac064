/- The operations that make or turn somet -/
import Derived.Test.YtpefhfiehfkocaaGreatDoorAm3
import Derived.Lib.ConvBytes
import Derived.Lib.UnsafeStr
import Derived.RangeFuncCalls
namespace Go.Proofs.YtpefhfiehfkocaaGreatDoor
open Go.RowKit
section
variable{P:Program}{B:Base}{C D:Cx}{h:aA}{w w':World}{G:Gam}
theorem kS{s:Sem Value}{v:AV}{h':aA}(k:∃u D w',s.run P w=.ok u w'/\C.Le D/\Inv B D h' w'/\Rel D v u/\Keep B w w'):Left P B C w (Sem.run P (do pure (Next.value (<-s))) w) v h':=by
 obtain⟨u,D,w',k1,k2,k3,k4,k5⟩:=k;exact⟨.value u,u,D,w',by simp[k1],.inl rfl,k2,k3,k4,k5⟩
theorem YX{s:Sem Unit}{h':aA}(k:∃D w',s.run P w=.ok () w'/\C.Le D/\Inv B D h' w'/\Keep B w w'):Left P B C w (Sem.run P (do s;pure Next.skip) w) .junk h':=by
 obtain⟨D,w',k1,k2,k3,k4⟩:=k;exact⟨.skip,undef,D,w',by simp[k1],.inr ⟨rfl,rfl⟩,k2,k3,.junk _,k4⟩
theorem oS{b:List AV}{x:Value}(h:RelL C b [x]):∃a,b=[a]/\Rel C a x:=by cases b with
 |nil=>simp[RelL]at h|cons a c=>
  obtain⟨y,j,e,g,i⟩:=h.inv_cons;injection e with d f;subst d f;cases c with
  |nil=>exact⟨a,rfl,g⟩|cons _ _=>simp[RelL]at i
theorem vR{c:List AV}{x y:Value}(h:RelL C c [x,y]):∃a b,c=[a,b]/\Rel C a x/\Rel C b y:=by cases c with
 |nil=>simp[RelL]at h|cons a k=>
  obtain⟨z,l,e,g,i⟩:=h.inv_cons;injection e with d f;subst d f;obtain⟨b,rfl,j⟩:=oS i;exact⟨a,b,rfl,g,j⟩
theorem UK{d:List AV}{x y z:Value}(h:RelL C d [x,y,z]):∃a b c,d=[a,b,c]/\Rel C a x/\Rel C b y/\Rel C c z:=by cases d with
 |nil=>simp[RelL]at h|cons a m=>
  obtain⟨_,n,e,i,j⟩:=h.inv_cons;injection e with f g;subst f g;obtain⟨b,c,rfl,k,l⟩:=vR j;exact⟨a,b,c,rfl,i,k,l⟩
theorem SB{b:List AV}(h:RelL C b []):b=[]:=by cases b with
 |nil=>rfl|cons a c=>simp[RelL]at h
theorem xv8(e:Inv B C h w){t:TypeId}{n:Nat}(f:dU P t=some n){a v:AV}{x y:Value}{h':aA}(m:Rel C a x)(o:Rel C v y)(b:bB n h a v=some h'):∃D w',(Instr.storeAt t x y).run P w=.ok () w'/\C.Le D/\Inv B D h' w'/\Keep B w w':=by
 unfold bB at b;split at b
 ·rename_i H;obtain⟨p,d,q⟩:=H;cases a with
  |ptr l K=>
   simp only at b;split at b
   ·rename_i V c;split at b
    ·rename_i g;cases b;obtain⟨w',k1,k2,k3⟩:=xw1 e f m o c p d q g;exact⟨C,w',k1,.refl C,k2,k3⟩
    ·cases b
   ·cases b|eptr l U i K=>
   simp only at b;split at b
   ·rename_i tg N O M c;split at b
    ·rename_i k;subst k;split at b
     ·rename_i L j;split at b
      ·rename_i g;cases b;obtain⟨w',k1,k2,k3⟩:=yb9 (ne:=true) e f m o c j p d q g;exact⟨C,w',k1,.refl C,k2,k3⟩
      ·cases b
     ·cases b
    ·cases b
   split at b
   ·rename_i u T J;split at b
    ·rename_i N O M c;split at b
     ·rename_i k;subst k;split at b
      ·rename_i L j;split at b
       ·rename_i I;obtain⟨A,E,F⟩:=I;cases b;obtain⟨D,r,s,z,Q,S⟩:=tA e J o;obtain⟨w',k1,k2,k3⟩:=yb9 (ne:=false) s f (m.mono r) z c j E d F A;exact⟨D,w',k1,r,k2,k3⟩
       ·cases b
      ·cases b
     ·cases b
    ·cases b
   ·cases b|_=>simp at b
 ·cases b
theorem xc0(o:Inv B C h w){l:Nat}{x:Value}{r:TypeId}{v:AV}{h':aA}(E:Rel C (.ptr l 0) x)(j:bC G h .nxt [.ptr l 0]=some (v,h')):∃u D w',(Instr.next x true r).run P w=.ok u w'/\C.Le D/\Inv B D h' w'/\Rel D v u/\Keep B w w':=by
 simp only[bC]at j;split at j
 ·rename_i s m z;cases E with|ptr _ _ b k=>
  obtain⟨A,t,n,g⟩:=o.ok l _ z;rw[k]at t;cases t;split at j
  ·rename_i p;cases j;have q:(Instr.next (.pointer (some ⟨b,0,none⟩)) true r).run P w=.ok (.tuple #[.bool true,.int .i64 m,.int .i32 (Utf8.decode ⟨s.toArray⟩ m).1]) (World.put w b (.stringIter ⟨s.toArray⟩ (m+(Utf8.decode ⟨s.toArray⟩ m).2))):=by
    simp only[Instr.next,Sem.run_bind,getObj,Sem.run,g,Result.andThen_ok];rw[if_pos (by rw[nB];exact p)];simp[setObj,Sem.run,g,World.put,goInt]
   refine⟨_,C,_,q,.refl C,tU o z k (by simp[aU,k]) g (fun c e f=>by simp) n ⟨b,k,n,vK g⟩ (fun A y=>by simp[aU,k]at y;exact y.symm) (fun _ _ _ _=>by simp),?_,tN n g (fun c=>by simp)⟩;exact .tup _ _ rfl (fun i c u a d=>by match i with
    |0=>simp at a d;subst a d;exact .bool _|1=>simp at a d;subst a d;exact .int _ _|2=>simp at a d;subst a d;exact .int _ _|_+3=>simp at a)
  ·rename_i p;cases j;have q:(Instr.next (.pointer (some ⟨b,0,none⟩)) true r).run P w=.ok (.tuple #[.bool false]) w:=by
    simp only[Instr.next,Sem.run_bind,getObj,Sem.run,g,Result.andThen_ok];rw[if_neg (by rw[nB];exact p)];simp
   refine⟨_,C,_,q,.refl C,o,?_,Keep.refl _ _⟩;exact .tup _ _ rfl (fun i c u a d=>by match i with
    |0=>simp at a d;subst a d;exact .bool _|_+1=>simp at a)
 ·cases j
theorem yZ2{l:Nat}{x:Value}(h:Rel C (.map l) x):∃b,C.bl l=some b/\x=.map (some b):=by cases h with|map _ b a=>exact⟨b,a,rfl⟩
theorem xa8{x:Value}(h:Rel C .nilm x):x=.map none:=by cases h;rfl
theorem ye6{t:TypeId}{z:List AV}(e:kC P t=some z)(C:Cx):∃a,(∀w,(zeroValue t).run P w=.ok a w)/\RelL C z a.cells.toList:=by
 obtain⟨i,a,b,c,d⟩:=GN (C:=C) e;exact⟨a,fun w=>by simp[zeroValue,typeInfo,b,c],d⟩
def yj2(P:Program)(B:Base)(C:Cx)(h:aA)(w:World)(G:Gam)(e:TypeId)(o:Op)(d:AO)(f:List Operand):Prop:=∀(c:List AV)(v:AV)(h':aA)(b:Operand->Value)(a:Oper),(∀u,b (.const u)=u)->a.op=o->a.type=e->RelL C c (f.map b)->bC G h d c=some (v,h')->Left P B C w ((execOp b a).run P w) v h'
theorem yG6(f:Inv B C h w){own:Bool}{ty:TypeId}{o:Op}{Y:AO}{xs:List Operand}(d:JM P own ty o=some (Y,xs)):yj2 P B C h w G ty o Y xs:=by
 intro d1 c3 h' H N hρ c2 j3 i c;have ex:execOp H N=execOp H {N with op:=o}:=by rw[<-c2]
 rw[ex];clear ex c2;unfold JM at d;split at d;·
  rename_i e;split at d
  ·rename_i z u;cases d;have:=SB i;subst this;simp only[bC,aE,aR]at c;obtain⟨rfl,rfl⟩:=c;obtain⟨zv,z1,z2⟩:=ye6 u C;obtain⟨j,k,p⟩:=zm7 f z2 e;exact kS ⟨_,_,_,by simp[Instr.alloc,z1,newVar,newRow],p,j,k,jK f (gY w _)⟩
  ·cases d
 ·rename_i e x;cases d;obtain⟨a,rfl,y⟩:=oS i;simp only[bC]at c;split at c;·cases c
  ·rename_i d2 cs b3;cases c;have f3:=JI y (by rw[b3];simp);obtain⟨j,k,p⟩:=zm7 f f3 e;rw[b3]at j;exact kS ⟨_,_,_,by simp[Instr.box,newVar,newRow],p,j,k,jK f (gY w _)⟩
 ·rename_i t a x;split at d
  ·rename_i n r;cases d;obtain⟨va,X,rfl,q,v⟩:=vR i;simp only[bC,bS,aR]at c;obtain⟨b1,he,rfl,rfl⟩:=c;exact YX (xv8 f r q v he)
  ·cases d
 ·split at d
  ·rename_i e he;split at d
   ·rename_i n r;cases d;have:=SB i;subst this;simp only[bC,aE,aR]at c;obtain⟨rfl,rfl⟩:=c;obtain⟨j,k,p⟩:=zn0 f n;refine⟨_,_,_,w,rfl,.inl rfl,p,j,?_,Keep.refl _ _⟩;rw[hρ];exact k
   ·cases d
  ·cases d
 ·cases d;have:=SB i;subst this;simp only[bC,aE,aR]at c;obtain⟨rfl,rfl⟩:=c;obtain⟨j,k,p⟩:=yo1 f;exact kS ⟨_,_,_,by simp[Instr.makeMap],p,j,k,jK f (gY w _)⟩
 ·rename_i t m i3 x;split at d
  ·rename_i kt et g;split at d
   ·rename_i e K;cases d;obtain⟨W,vk,X,rfl,q,v,J⟩:=UK i;cases W with
    |map l=>
     simp only[bC]at c;split at c
     ·rename_i U;split at c
      ·rename_i j2 b1 T;split at c
       ·rename_i I L;simp only[bS,aR]at c;obtain⟨e3,M,rfl,rfl⟩:=c;exact YX (zN8 f g K q v J U T L M)
       ·cases c
      ·cases c
     ·cases c|_=>simp[bC]at c
   ·cases d
  ·cases d
 ·rename_i t m i3 x;split at d
  ·rename_i kt et g;split at d
   ·rename_i e K;cases d;obtain⟨W,vk,X,rfl,q,v,J⟩:=UK i;cases W with
    |map l=>
     simp only[bC]at c;split at c
     ·rename_i U;split at c
      ·rename_i j2 b1 T;split at c
       ·rename_i I L;simp only[bS,aR]at c;obtain⟨e3,M,rfl,rfl⟩:=c;exact YX (zN8 f g K q v J U T L M)
       ·cases c
      ·cases c
     ·cases c|_=>simp[bC]at c
   ·cases d
  ·cases d
 ·rename_i t l d2;split at d
  ·rename_i e g;split at d
   ·rename_i z b n u E r;split at d
    ·rename_i F;cases d;obtain⟨vl,vc,rfl,q,v⟩:=vR i;cases vl<;>first|(simp[bC]at c;done)|skip
     cases vc<;>first|(simp[bC]at c;done)|skip
     rename_i k1 l1 k2 c1;simp only[bC]at c;split at c
     ·rename_i g1;cases c;obtain⟨q1,q2,q3,q4⟩:=g1;obtain⟨D,m1,m2,m3,m4⟩:=xa2 f (k1:=k1) (k2:=k2) g u E r F.1 F.2 q1 q2 q3 q4;have A:=dK q;have S:=dK v;refine kS ⟨_,D,_,?_,m2,m3,m4,jK f (gY w _)⟩;rw[A,S];exact m1
     ·cases c
    ·cases d
   ·cases d
  ·cases d
 ·rename_i t l2 n1;split at d
  ·rename_i e g;split at d
   ·rename_i n z r u;split at d
    ·rename_i M;cases d;exact kS (yu0 f g r u M i c)
    ·cases d
   ·cases d
  ·cases d
 ·rename_i args argTypes;split at d
  ·rename_i s x t Q f2 i1;have d3:args=#[s,x]:=by rw[<-oE];simpa using f2
   have f1:argTypes=#[t,Q]:=by rw[<-oE];simpa using i1
   subst d3 f1;have Z:∀{O:Bool}{n b:Nat}{e:TypeId}{z:List AV},P.underlying t=some (.slice e)->dU P e=some n->vP P e=some b->kC P e=some z->z.length=n->(O=true->P.underlying Q=some .string/\n=1)->(O=false->∃e,P.underlying Q=some (.slice e))->RelL C d1 ([s,x].map H)->bC G h (.app O n b) d1=some (c3,h')->Left P B C w ((execOp H {N with op:=.call {callee:=.builtin .append,args:=#[s,x],argTypes:=#[t,Q]}}).run P w) c3 h':=by
    intro O n b e z g r E u i2 k1 k2 i c;obtain⟨vs,X,rfl,q,v⟩:=vR i;simp only[bC]at c;split at c
    ·rename_i l3 g2;split at c
     ·rename_i g3;have:=zo3 (ty:=N.type) f g r E u i2 q v g2 g3 k1 k2 (zf8 e) c;have em:#[s,x].map H=#[H s,H x]:=by simp
      rw[<-em]at this;exact kS this
     ·cases c
    ·cases c
   split at d
   ·rename_i e g;split at d
    ·rename_i n b z S r E u V;split at d
     ·rename_i F;cases d;exact Z g r E u F.2 (fun e=>by cases e) (fun _=>⟨S,V⟩) i c
     ·cases d
    ·rename_i n b z r E u V;split at d
     ·rename_i F;cases d;exact Z g r E u F.2 (fun _=>⟨V,F.1⟩) (fun e=>by cases e) i c
     ·cases d
    ·cases d
   ·cases d
  ·cases d
 ·rename_i t x;split at d
  ·rename_i g;cases d;obtain⟨a,rfl,y⟩:=oS i;cases a<;>first|(simp[bC]at c;done)|skip
   rename_i s;simp only[bC,aE,aR]at c;obtain⟨rfl,rfl⟩:=c;obtain⟨j,k,p⟩:=yo0 f s;have A:=eD y;refine kS ⟨_,_,_,?_,p,j,k,jK f (gY w _)⟩;rw[A];simp[Instr.range,run_underlying g]
  ·rename_i kt et g;cases d;obtain⟨a,rfl,y⟩:=oS i;cases a<;>first|(simp[bC]at c;done)|skip
   case map m=>
    simp only[bC]at c;split at c
    ·rename_i I L;cases c;obtain⟨bm,b2,A⟩:=yZ2 y;obtain⟨b',ms,ck,q,v,J,h4,h5,h6,h7⟩:=f.ok m _ L;rw[b2]at q;cases q;obtain⟨j,k,p⟩:=zm9 f (m:=some m) (mo:=some bm) I.length I.length ⟨bm,b2,rfl⟩;refine kS ⟨_,_,_,?_,p,j,k,jK f (gY w _)⟩;rw[A];have K:ck=I.length:=by omega
     subst K;simp[Instr.range,run_underlying g,getObj,Sem.run,J]
    ·cases c
   case nilm=>
    simp only[bC,aE,aR]at c;obtain⟨rfl,rfl⟩:=c;have A:=xa8 y;obtain⟨j,k,p⟩:=zm9 f (m:=none) (mo:=none) 0 0 rfl;refine kS ⟨_,_,_,?_,p,j,k,jK f (gY w _)⟩;rw[A];simp[Instr.range,run_underlying g]
  ·cases d
 ·rename_i it;cases d;obtain⟨a,rfl,y⟩:=oS i;cases a with
  |ptr l j1=>cases j1 with
   |zero=>exact kS (xc0 (G:=G) f y c)|succ _=>simp[bC]at c
  |_=>simp[bC]at c
 ·cases d
theorem WM:∀{d:List (List AV)}{c:List UInt8},qZ d=some c->d.flatten=c.map (fun b=>AV.int .u8 b.toNat)/\dH 1 d=true
 |[],c,h=>by simp only[qZ,aE]at h;subst h;exact⟨rfl,rfl⟩|l::r,c,h=>by
  unfold qZ at h;split at h;·rename_i a;cases a
  ·rename_i n k a;injection a with a f;subst a f;split at h
   ·rename_i j;simp only[bS]at h;obtain⟨i,g,rfl⟩:=h;obtain⟨h4,h5⟩:=WM g;have e:((UInt8.ofNat n.toNat).toNat:Int)=n:=by
     rw[UInt8.toNat_ofNat'];have:n.toNat<256:=by omega
     rw[show 2^8=256 from rfl,Nat.mod_eq_of_lt this];omega
    refine⟨by simp only[oF,h4,fE,qW,jU,e],by simp[dH,h5]⟩
   ·cases h
  ·cases h
theorem WO:∀{c:List UInt8}{a:List Value},RelL C (c.map fun b=>AV.int .u8 b.toNat) a->a=(c.map fun b=>(b.toNat:Int)).map (Value.int .u8)
 |[],a,h=>by
  have:=h.1;cases a with
  |nil=>rfl|cons _ _=>simp at this
 |b::c,a,h=>by
  obtain⟨y,f,rfl,d,e⟩:=h.inv_cons;rw[dK d,WO e];rfl
theorem zT1:∀(a:List UInt8)(s:ByteArray),(a.map fun b=>(b.toNat:Int)).foldl (fun r n=>r.push (UInt8.ofNat n.toNat)) s=⟨s.data++a.toArray⟩
 |[],s=>by simp|b::a,s=>by
  simp only[fE,List.foldl_cons];rw[zT1 a];refine ByteArray.ext ?_;simp[ByteArray.push]
theorem xp8(l:Inv B C h w){f a e:TypeId}(K:P.underlying f=some .string)(y:P.underlying a=some (.slice e))(z:P.underlying e=some (.int .u8)){s:List UInt8}(x:s.length<=dJ):∃u D w',(convert f a (.string ⟨s.toArray⟩)).run P w=.ok u w'/\C.Le D/\Inv B D (h++[.arr 1 0 (s.map fun b=>[AV.int .u8 b.toNat]) true]) w'/\Rel D (.own h.length 0 s.length) u/\Keep B w w':=by
 have c:(⟨s.toArray⟩:ByteArray).size=s.length:=rfl;have E:=grownCap_ge w s.length 0 e;have H:=grownCap_le_maxLen w s.length 0 e (by unfold dJ at x;unfold maxLen;omega);have n:=Lib.run_convert_string_bytes (P:=P) w f a e ⟨s.toArray⟩ K y z;have m:=Lib.bytesWorld_at_new w e ⟨s.toArray⟩;have j:(Lib.bytesCells w e ⟨s.toArray⟩).size=grownCap w s.length 0 e:=by simp[Lib.bytesCells,c];omega
 have o:(Lib.bytesCells w e ⟨s.toArray⟩).toList.take s.length=s.map fun b=>Value.int .u8 b.toNat:=by simp[Lib.bytesCells,c]
 rw[j]at m;rw[c]at n;have i:Below w.heap.size w (Lib.bytesWorld w e ⟨s.toArray⟩):=⟨rfl,rfl,rfl,by rw[Lib.bytesWorld_size];omega,fun k F=>Lib.bytesWorld_at_old w e _ k F⟩;have A:∀t:List UInt8,(t.map fun b=>[AV.int .u8 (b.toNat:Int)]).flatten=t.map fun b=>AV.int .u8 b.toNat:=by
  intro t;induction t with
  |nil=>rfl|cons b r d=>simp[d]
 have J:∀t:List UInt8,RelL (Cx.pure C.im) (t.map fun b=>AV.int .u8 b.toNat) (t.map fun b=>Value.int .u8 b.toNat):=by
  intro t;induction t with
  |nil=>exact .nil|cons b r d=>exact .cons (.int .u8 _) d
 obtain⟨q,g,v⟩:=zm6 (cv:=true) l (rows:=s.map fun b=>[AV.int .u8 b.toNat]) (cur:=Lib.bytesCells w e ⟨s.toArray⟩) (e:=e) (size:=1) (cap:=grownCap w s.length 0 e) i (by rw[m];simp[RowAt.fz]) (by simpa using E) H (fun L I=>by obtain⟨b,_,rfl⟩:=jE.1 I;rfl) (by rw[j,sQ]) (by rw[kG,sQ,o,A s];exact J s) (fun u p=>by
   rw[kG,sQ,o]at p;obtain⟨b,_,rfl⟩:=jE.1 p;rfl) (zf7 e _);rw[kG]at g;exact⟨_,_,_,n,v,q,g,jK l i⟩
theorem yp7(z:Inv B C h w){g i e:TypeId}(o:P.underlying g=some (.slice e))(v:P.underlying e=some (.int .u8))(u:P.underlying i=some .string){a:AV}{x:Value}{k:List (List AV)}{d:List UInt8}(q:Rel C a x)(n:rowsOf h a=some k)(s:qZ k=some d):(convert g i x).run P w=.ok (.string ⟨d.toArray⟩) w:=by
 obtain⟨y,F⟩:=WM s;obtain⟨H,f,m⟩:=zf1 (tx:=g) (str:=false) z q (by simpa[lZ]using n) F (fun e=>by cases e) (fun _=>⟨e,o⟩);rw[y]at m;have j:=WO m;have E:∃p l c,x=.slice p l c:=by
  cases a<;>first|(simp[rowsOf]at n;done)|skip
  all_goals cases q<;>exact⟨_,_,_,rfl⟩
 obtain⟨p,l,c,rfl⟩:=E;rw[run_convert_bytes_string w g i e p l c o v u];have A:l=k.length:=by
  have:=f.len w;simp[Builtin.lenOf]at this;exact this
 cases p with
 |none=>
  have b:=f.cells;have h4:=f.newsLen;rw[run_firstCells_none]at b;simp only[Result.ok.injEq,and_true]at b;have h5:H=[]:=by
   have:=congrArg Array.toList b;simpa using this.symm
  rw[h5]at j;have t:d=[]:=by cases d with
   |nil=>rfl|cons _ _=>simp at j
  subst t;simp[Conv.bytesToString];rfl|some r=>
  have b:=f.cells;simp only[Builtin.firstCells,sQ]at b;rw[<-A,j]at b;rw[run_bytesToString w r l c _ b,zT1];simp[ByteArray.empty,ByteArray.emptyWithCapacity];rfl
theorem yA2(f:Inv B C h w){t s ty e:TypeId}{n:Nat}{H:Bool}(O:P.underlying t=some (.slice e))(L:dU P e=some n){l T m:Nat}{a:AV}{x y:Value}{v:AV}{h':aA}(b:Rel C (.own l T m) x)(hy:Rel C a y)(Z:H=true->P.underlying s=some .string/\n=1)(a1:H=false->∃e,P.underlying s=some (.slice e))(d:bC G h (.cpy H n) [.own l T m,a]=some (v,h')):∃u D w',(Builtin.copy_ #[t,s] ty #[x,y]).run P w=.ok u w'/\C.Le D/\Inv B D h' w'/\Rel D v u/\Keep B w w':=by
 simp only[bC]at d;split at d
 ·rename_i sr c3;split at d
  ·rename_i M;obtain⟨g,i,s2⟩:=zf1 (tx:=s) f hy c3 M Z a1;have I:=tS M;have b3:=lR sr I;split at d
   ·rename_i b2;subst b2;cases d;have b1:g=[]:=uL (by rw[i.newsLen];simp);subst b1;have K:=i.len w;have J:=i.cells;simp only[kN]at K J;refine⟨.int .i64 0,C,w,?_,.refl C,f,.int _ _,.refl _ _⟩;cases b<;>simp[Builtin.copy_,run_underlying O,jC L,K,J,storeCells,goInt]
   ·rename_i E;split at d
    ·rename_i sz f3 c A;split at d
     ·rename_i X;obtain⟨rfl,c1,U,rfl⟩:=X;cases d;have f2:0<sr.length:=zH.2 E;cases b with
      |ownnil _ _ p=>omega|own _ _ _ r p d2=>
       rcases f.ok l _ A with⟨k1,_⟩|⟨r',j,k1,k2,k3,k4,k5,k6,k7,k8,S,k9,k10,k11⟩;·rw[p]at k1;cases k1
       ·rw[p]at k1;injection k1 with k1;cases k1;obtain⟨k11,k12⟩:=k11;subst k11;have hm:sr.length*r.size<=c.length*r.size:=kH _ (by omega);have e3:c.length*r.size<=j.size:=by rw[k7];exact kH _ k3
        have f1:=i.newsLen;have N:=zX1 (P:=P) k6 k7 0 g (by omega) i.one;have d3:=lR c k5;have Y:(c.drop sr.length).flatten=c.flatten.drop (sr.length*r.size):=by
         have V:c.flatten=(c.take sr.length).flatten++(c.drop sr.length).flatten:=by rw[<-IM,sO]
         have W:(c.take sr.length).flatten.length=sr.length*r.size:=by rw[lR (n:=r.size) _ (fun x b=>k5 x (sN b)),sM,wN (by omega)]
         conv=>rhs;rw[V,IK,OL (by omega),W,Nat.sub_self]
         simp
        have a3:(sr++c.drop sr.length).flatten=c.flatten.take 0++sr.flatten++c.flatten.drop (0+sr.flatten.length):=by rw[IM,Y,b3];simp
        have q:(sr++c.drop sr.length).length=c.length:=by simp;omega
        have a2:Nat.min sr.length m=sr.length:=wN U;refine⟨.int .i64 sr.length,C,w.setRow r.block (j.toList.take 0++g++j.toList.drop (0+g.length)).toArray,?_,.refl C,?_,.int _ _,below_setRow k2 _⟩
        ·have d1:(sizeOf e:Sem Nat).run P w=.ok r.size w:=jC L w;simp at N;simp[Builtin.copy_,run_underlying O,d1,i.len w,a2,i.cells,goInt,N]
        ·have Q:(j.toList.take 0++g++j.toList.drop (0+g.length)).take (c.length*r.size)=(j.toList.take (c.length*r.size)).take 0++g++(j.toList.take (c.length*r.size)).drop (0+g.length):=by
          simp only[List.take_zero,jU,eT];rw[uN,lN (by omega),List.drop_take]
         refine f.turn A (.refl C) (by simp) (fun k z _=>⟨setRow_other w r.block k _ (fun e=>z (by simp[aU,p,e])),fun _=>rfl⟩) (fun k o u' F=>?_) f.one ?_ (fun k z=>.inl z) f.fr (VU f A)
         ·have E:k≠r.block:=fun e=>by subst e;rw[k9 rfl o]at F;cases F
          rw[cell_setRow_other w r.block _ ⟨k,o,none⟩ E];exact f.im _ _ _ F
         ·refine .inr ⟨r,_,p,k2,by rw[q];exact k3,k4,fun x b=>?_,YE k6,?_,?_,fun x b=>?_,k9,(fun e=>by cases e),rfl,k12.len (by rw[q];exact bP _)⟩
          ·rcases iK.1 b with b|b;·exact I x b
           ·exact k5 x (DE b)
          ·simp;omega
          ·rw[a3,q];simp only;rw[Q];exact zc3 k8 s2 0
          ·rw[q]at b;simp only at b;rw[Q]at b;simp only[iK]at b;rcases b with(b|b)|b;·exact S x (sN b)
           ·exact i.one x b
           ·exact S x (DE b)
     ·cases d
    ·cases d
  ·cases d
 ·cases d
theorem xs7{t e:TypeId}{n:Nat}(y:P.underlying t=some (.slice e))(s:dU P e=some n){a v:AV}{x:Value}(z:Rel C a x)(g c i:Option (IntKind×Int))(f:GD n a (dA g) (dA c) (dA i)=some v):∃u,Rel C v u/\∀w,(Instr.sliceAt t x (bnd g) (bnd c) (bnd i)).run P w=.ok u w:=by
 cases a<;>first|exact ya4 (size:=some n) ⟨e,y,s⟩ z g c i f|skip
 rename_i l Q m;simp only[GD]at f;split at f
 ·rename_i K;obtain⟨A,o,E,F⟩:=K;cases f;cases i with
  |some q=>simp[dA]at A|none=>
   have O:∃p d,x=.slice p m d/\m<=d/\(p=none\/∃b,p=some ⟨b,0,none⟩)/\Rel C (.own l Q ((dA c).getD m).toNat) (.slice p ((dA c).getD m).toNat d):=by cases z with
    |ownnil _ _ j=>
     refine⟨none,0,rfl,bP _,.inl rfl,?_⟩;have H:((dA c).getD (↑(0:Nat))).toNat=0:=by omega
     rw[H];exact .ownnil _ _ j|own _ _ _ r j k=>exact⟨_,r.cap,rfl,k,.inr ⟨_,rfl⟩,.own _ _ _ r j (by omega)⟩
   obtain⟨p,d,rfl,k,M,N⟩:=O;have I:=MQ (P:=P) true m d g c k (by omega) (by rw[o];exact E) F;refine⟨_,N,fun w=>?_⟩;have J:=I w;simp only[Instr.sliceAt,Sem.run_bind,run_underlying y,Result.andThen_ok,Instr.slice];rw[show bnd (none:Option (IntKind×Int))=none from rfl,J];simp only[Result.andThen_ok,jC s,Sem.run_pure,o];have L:p.map (fun q=>q.add (0*n))=p:=by
    rcases M with rfl|⟨b,rfl⟩;·rfl
    ·simp[Addr.add_lit]
   simp only[Int.toNat_zero,L,ite_self,Nat.sub_zero]
 ·cases f
theorem xt1(j:Inv B C h w){t e:TypeId}{n:Nat}(o:P.underlying t=some (.slice e))(k:dU P e=some n){a v:AV}{x:Value}{h':aA}(p:Rel C a x)(d c f:Option (IntKind×Int))(b:GC n h a (dA d) (dA c) (dA f)=some (v,h')):∃u D,(Instr.sliceAt t x (bnd d) (bnd c) (bnd f)).run P w=.ok u w/\C.Le D/\Inv B D h' w/\Rel D v u:=by
 unfold GC at b;split at b
 ·rename_i A g;simp only[aE,aR]at b;obtain⟨rfl,rfl⟩:=b;obtain⟨u,i,y⟩:=xs7 o k p d c f g;exact⟨u,C,y w,.refl C,j,i⟩
 ·cases a<;>first|(cases b;done)|skip
  rename_i l I m;simp only at b;split at b
  ·rename_i H i z;simp only[bS,aR]at b;obtain⟨A,g,rfl,rfl⟩:=b;obtain⟨D,q,r,s,E,F⟩:=tA j z p;obtain⟨u,k1,k2⟩:=zd2 o k s d c f g;exact⟨u,D,k2 w,q,r,k1.mono D.frozen_le⟩
  ·cases b
end
section
variable{P:Program}{B:Base}{C D:Cx}{h:aA}{w w':World}{G:Gam}
def zq2(P:Program)(e:TypeId):Option TypeId:=match P.underlying e with
 |some (.struct f)=>match f.toList with
  |[c,d]=>match P.underlying c.type,P.underlying d.type with
   |some (.pointer b),some (.slice a)=>if b=e/\dU P a=some 1 then some a else none|_,_=>none
  |_=>none
 |_=>none
def zq1(P:Program)(e:TypeId):Option TypeId:=match zq2 P e with
 |some a=>some a|none=>match P.underlying e with
  |some (.struct b)=>match b.toList with
   |[g]=>zq2 P g.type|_=>none
  |_=>none
def PC(P:Program)(own:Bool):Op->Option (AO×List Operand)
 |.alloc e=>match kC P e,zq1 P e with
  |some [.nilp,.nils],some a=>some (.allocB e a,[])|_,_=>none
 |.box e x=>match zq1 P e with
  |some a=>some (.boxB e a,[x])|none=>none
 |.call {callee:=.builtin .append,args,argTypes}=>if own then(match args.toList,argTypes.toList with
  |[s,x],[t,c]=>match P.underlying t with
   |some (.slice e)=>match dU P e,vP P e,kC P e,P.underlying c with
    |some n,some b,some z,some (.slice _)=>if z.length=n then some (.appT false n b e,[s,x])else none|some n,some b,some z,some .string=>if n=1/\z.length=n then some (.appT true n b e,[s,x])else none|_,_,_,_=>none
   |_=>none
  |_,_=>none)else none|.call {callee:=.builtin .unsafeSliceData,args,..}=>match args.toList with
  |[x]=>some (.usd,[x])|_=>none
 |.call {callee:=.builtin .unsafeString,args,argTypes}=>match args.toList,argTypes.toList with
  |[p,n],[pt,_]=>match P.underlying pt with
   |some (.pointer e)=>if P.cellsOf e=1 then some (.ustr e,[p,n])else none|_=>none
  |_,_=>none
 |_=>none
theorem yv0(w:World)(p:Addr)(n:Nat)(a:Addr):(w.freeze p n).cell? a=w.cell? a:=by
 unfold World.freeze;split;·rfl
 ·simp only[World.cell?,wH];by_cases e:p.block=a.block
  ·rw[if_pos e];cases b:w.heap[a.block]? with
   |none=>rfl|some o=>cases o<;>rfl
  ·rw[if_neg e]
theorem zy0(w:World)(p:Addr)(n k:Nat)(a:k≠p.block):(w.freeze p n).heap[k]?=w.heap[k]?:=by
 unfold World.freeze;split;·rfl
 ·simp only[wH];rw[if_neg (fun e=>a e.symm)]
theorem zx9{n:Nat}(w:World){p:Addr}(a:n<=p.block)(k:Nat):Keep n w (w.freeze p k):=⟨Lib.below_freeze (Below.refl n w) a k,fun i c x=>by
 by_cases e:i=p.block
 ·subst e;unfold World.freeze;split;·exact x
  ·simp only[wH,aM,x];rfl
 ·rw[zy0 w p k i e];exact x⟩
theorem xC6(d:Inv B C h w){pt it ty e:TypeId}(K:P.underlying pt=some (.pointer e))(E:P.cellsOf e=1){l z:Nat}{c:List (List AV)}{a:List UInt8}{x:Value}(t:h[l]?=some (.arrT (some e) 1 z c true))(N:Rel C (.eptr l z 0 0) x)(V:0<c.length)(I:c.length<=dJ)(A:qZ c=some a):∃u D w',(Builtin.unsafeString_ #[pt,it] ty #[x,.int .i64 c.length]).run P w=.ok u w'/\C.Le D/\Inv B D (h.set l .dead) w'/\Rel D (.str a) u/\Keep B w w':=by cases N with|eptr _ _ _ _ r n=>
 rcases d.ok l _ t with⟨k1,k2⟩|⟨Z,p,k1,k2,k3,k4,k5,k6,k7,k8,Y,k9,k10,k11,k12⟩;·rw[n]at k1;cases k1
 ·rw[n]at k1;injection k1 with k1;cases k1;have F:=k12.1 e rfl;obtain⟨q,X⟩:=WM A;have H:=lR c k5;rw[k11,sQ]at H k8 k7;have m:a.length=c.length:=by
   have:=congrArg List.length q;simp only[kG]at this;omega
  rw[q]at k8;have J:=WO k8;have y:=Lib.run_unsafeString_row (P:=P) w pt it ty e K E r.block p.size (by simp[World.shape?,k6,F]) a (by intro e;subst e;simp at m;omega) (by omega) (by unfold dJ at I;omega) (fun j x s=>by
   have W:j<a.length:=(aF.1 s).1;have g:(p.toList.take c.length)[j]?=some (.int .u8 x.toNat):=by rw[J];simp[s]
   rw[fS,if_pos (by omega)]at g;rw[Addr.add_lit,eT];have:=cell_of_heap k6 j;simp only[uJ]at g;exact this.trans g);refine⟨.string ⟨a.toArray⟩,C,w.freeze ⟨r.block,0,none⟩ a.length,?_,.refl C,?_,.str _,zx9 w k2 _⟩
  ·rw[m]at y;simpa[m]using y
  ·refine d.turn t (.refl C) ?_ (fun b i _=>⟨zy0 w _ _ b (fun e=>i (by simp[aU,n,e])),fun _=>rfl⟩) (fun b o u L=>by rw[yv0];exact d.im _ _ _ L) d.one trivial (fun b i=>by cases i) d.fr (fun k O tg S T Q U f v M=>?_);·exact(zx9 (n:=B) w (p:=⟨r.block,0,none⟩) k2 a.length).below.size
   ·rw[iZ]at f;split at f
    ·split at f;·cases f
     ·cases f
    ·exact d.fv k O tg S T Q U f v M
theorem yh4(g:Inv B C h w){own:Bool}{f1:Op}{ao:AO}{xs:List Operand}(d:PC P own f1=some (ao,xs)){S:List AV}{v:AV}{h':aA}{f:Operand->Value}{i:Oper}(g1:i.op=f1)(o:RelL C S (xs.map f))(c:cG G h ao S=some (v,h')):Left P B C w ((execOp f i).run P w) v h':=by
 have ex:execOp f i=execOp f {i with op:=f1}:=by rw[<-g1]
 rw[ex];clear ex g1;unfold PC at d;split at d;·
  rename_i e;split at d
  ·rename_i W q Y;cases d;have:=SB o;subst this;simp only[cG,AO.quiet,bM,bH,bC,aE,aR]at c;obtain⟨rfl,rfl⟩:=c;obtain⟨zv,z1,z2⟩:=ye6 q C;obtain⟨T,U,y⟩:=VO g (some W) 1;have z3:RelL (C.addAr h.length 0 none) [.nilp,.own h.length 0 0] zv.cells.toList:=by
    obtain⟨v1,m2,V,r1,r2⟩:=z2.inv_cons;obtain⟨v2,m3,rfl,r3,r4⟩:=r2.inv_cons;have:=r4.inv_nil;subst this;rw[V];cases r3;exact .cons (r1.mono y) (.cons U .nil)
   obtain⟨A,E,F⟩:=VN T z3 e (tg:=some e) (fun t j=>by injection j);rw[iS,IR]at E;rw[iS,IR]at A F;exact kS ⟨_,_,_,by simp[Instr.alloc,z1,newVar,newRow],y.trans F,A,E,jK g (gY w _)⟩
  ·cases d
 ·rename_i e x;split at d
  ·rename_i W Y;cases d;obtain⟨a,rfl,m⟩:=oS o;simp only[cG,AO.quiet,bM,bH,bC]at c;unfold zp8 at c;split at c;case h_2=>cases c
   cases c;obtain⟨T,U,y⟩:=VO g (some W) 1;have z2:=JI m (by simp[AV.cells]);have z3:RelL (C.addAr h.length 0 none) [.nilp,.own h.length 0 0] (f x).cells.toList:=by
    obtain⟨v1,m2,V,r1,r2⟩:=z2.inv_cons;obtain⟨v2,m3,rfl,r3,r4⟩:=r2.inv_cons;have:=r4.inv_nil;subst this;rw[V];cases r3;exact .cons (r1.mono y) (.cons U .nil)
   obtain⟨A,E,F⟩:=VN T z3 e (tg:=some e) (fun t j=>by injection j);rw[iS,IR]at E;rw[iS,IR]at A F;exact kS ⟨_,_,_,by simp[Instr.box,newVar,newRow],y.trans F,A,E,jK g (gY w _)⟩
  ·cases d
 ·rename_i args argTypes;split at d
  ·split at d
   ·rename_i s x t Q J d1;have H:args=#[s,x]:=by rw[<-oE];simpa using J
    have X:argTypes=#[t,Q]:=by rw[<-oE];simpa using d1
    subst H X;have f3:∀{O:Bool}{n b:Nat}{e:TypeId}{z:List AV},P.underlying t=some (.slice e)->dU P e=some n->vP P e=some b->kC P e=some z->z.length=n->(O=true->P.underlying Q=some .string/\n=1)->(O=false->∃e,P.underlying Q=some (.slice e))->RelL C S ([s,x].map f)->cG G h (.appT O n b e) S=some (v,h')->Left P B C w ((execOp f {i with op:=.call {callee:=.builtin .append,args:=#[s,x],argTypes:=#[t,Q]}}).run P w) v h':=by
     intro O n b e z j L K q l2 k1 k2 o c;obtain⟨vs,vx,rfl,I,M⟩:=vR o;simp only[cG,AO.quiet,bM,bH,bC]at c;split at c
     ·rename_i o1 j1;split at c
      ·rename_i j3;have:=zo3 (ty:=i.type) g j L K q l2 I M j1 j3 k1 k2 (te:=some e) (fun t j=>by injection j) c;have l:#[s,x].map f=#[f s,f x]:=by simp
       rw[<-l]at this;exact kS this
      ·cases c
     ·cases c
    split at d
    ·rename_i e j;split at d
     ·rename_i n b z e2 L K q c3;split at d
      ·rename_i u;cases d;exact f3 j L K q u (fun e=>by cases e) (fun _=>⟨e2,c3⟩) o c
      ·cases d
     ·rename_i n b z L K q c3;split at d
      ·rename_i u;cases d;exact f3 j L K q u.2 (fun _=>⟨c3,u.1⟩) (fun e=>by cases e) o c
      ·cases d
     ·cases d
    ·cases d
   ·cases d
  ·cases d
 ·rename_i args argTypes;split at d
  ·rename_i x J;have H:args=#[x]:=by rw[<-oE];simpa using J
   subst H;cases d;obtain⟨a,rfl,m⟩:=oS o;simp only[cG,AO.quiet,aM]at c;have l:#[x].map f=#[f x]:=by simp
   cases a<;>first|(simp[bV]at c;done)|skip
   case nils=>
    simp only[bV,aE,aR]at c;obtain⟨rfl,rfl⟩:=c;have d2:f x=.slice none 0 0:=by generalize N:f x=f2 at m;cases m;rfl
    have:=Lib.run_unsafeSliceData_nil (P:=P) (w:=w) argTypes i.type 0 0;rw[<-d2,<-l]at this;exact kS ⟨_,C,w,this,.refl C,g,.nilp,.refl _ _⟩
   case own e3 g3 n=>
    simp only[bV]at c;split at c
    ·rename_i g2 k;split at k
     ·rename_i Y;subst Y;split at k
      ·rename_i o3 sz n1 wr Z;split at k
       ·rename_i l1;subst l1;cases k;cases c;have d2:f x=.slice none 0 0:=by
         generalize N:f x=f2 at m;cases m with
         |ownnil _ _ _=>rfl|own _ _ _ r hr i1=>
          rcases g.ok e3 _ Z with⟨k1,_⟩|⟨r',n2,k1,k2,k3,k4,k5,k6,k7,k8,n3,k9,k10,k11,k12⟩;·rw[hr]at k1;cases k1
          ·exact absurd rfl (k12.2 (fun e=>by cases e))
        have:=Lib.run_unsafeSliceData_nil (P:=P) (w:=w) argTypes i.type 0 0;rw[<-d2,<-l]at this;exact kS ⟨_,C,w,this,.refl C,g,.nilp,.refl _ _⟩
       ·cases k
      ·cases k
     ·rename_i i3;cases k;cases c;generalize N:f x=f2 at m;cases m with
      |ownnil _ _ _=>exact absurd rfl i3|own _ _ _ r hr i1=>
       have:=Lib.run_unsafeSliceData_row (P:=P) (w:=w) argTypes i.type ⟨r.block,0,none⟩ n r.cap (by omega);rw[<-N,<-l]at this;refine kS ⟨_,C,w,this,.refl C,g,?_,.refl _ _⟩;have:=Rel.eptr (C:=C) e3 g3 0 0 r hr;simpa using this
    ·cases c
  ·cases d
 ·rename_i args argTypes;split at d
  ·rename_i p n pt it J d1;have H:args=#[p,n]:=by rw[<-oE];simpa using J
   have X:argTypes=#[pt,it]:=by rw[<-oE];simpa using d1
   subst H X;split at d
   ·rename_i e hp;split at d
    ·rename_i i2;cases d;obtain⟨a,b,rfl,I,M⟩:=vR o;have l:#[p,n].map f=#[f p,f n]:=by simp
     simp only[cG,AO.quiet,bM,bH]at c;cases a<;>first|(simp[bC]at c;done)|skip
     case nilp=>
      cases b<;>first|(simp[bC]at c;done)|skip
      rename_i d3 g2;cases d3<;>first|(simp[bC]at c;done)|skip
      simp only[bC]at c;split at c
      ·rename_i k;subst k;cases c;have:=Lib.run_unsafeString_none (P:=P) w pt it i.type none;rw[<-dK M]at this;have j2:f p=.pointer none:=by generalize N:f p=f2 at I;cases I;rfl
       rw[<-j2,<-l]at this;exact kS ⟨_,C,w,this,.refl C,g,.str [],.refl _ _⟩
      ·cases c
     case eptr e3 g3 l3 m1=>
      cases l3<;>first|(simp[bC]at c;done)|skip
      cases m1<;>first|(simp[bC]at c;done)|skip
      cases b<;>first|(simp[bC]at c;done)|skip
      rename_i d3 g2;cases d3<;>first|(simp[bC]at c;done)|skip
      simp only[bC]at c;split at c
      ·rename_i tg n1 o2 Z;split at c
       ·rename_i u;obtain⟨rfl,rfl,c1,rfl,c2⟩:=u;simp only[bS,aR]at c;obtain⟨bs,h3,rfl,rfl⟩:=c;have:=xC6 (ty:=i.type) (it:=it) g hp i2 Z I c1 c2 h3;rw[<-dK M,<-l]at this;exact kS this
       ·cases c
      ·cases c
    ·cases d
   ·cases d
  ·cases d
 ·cases d
end
section
variable{P:Program}{B:Base}{C D:Cx}{h:aA}{w w':World}{G:Gam}
theorem Inv.same(c:Inv B C h w){l:Nat}{g d:Blk}(i:h[l]?=some g)(s:BlkOK B C w l d)(q:∀b,aU C l d=some b->aU C l g=some b)(r:∀m tg o f n p,d=.arrX m tg o f n p->∀v,f<v->C.ar l v=none):Inv B C (h.set l d) w:=by
 refine c.turn i (.refl C) (bP _) (fun _ _ _=>⟨rfl,fun _=>rfl⟩) c.im c.one s (fun b k=>.inl (q b k)) c.fr (fun k m tg o f n p a v j=>?_);rw[iZ]at a;by_cases e:l=k
 ·subst e;rw[if_pos rfl,if_pos (aF.1 i).1]at a;injection a with a;exact r _ _ _ _ _ _ a v j
 ·rw[if_neg e]at a;exact c.fv k _ _ _ _ _ _ a v j
theorem yf4:∀{f c e d:List AV},cV h f=some e->cV h c=some d->cV h (f++c)=some (e++d)
 |[],c,e,d,b,g=>by simp only[cV]at b;cases b;exact g|a::f,c,e,d,b,g=>by
  simp only[cV]at b;split at b
  ·rename_i v i k1 k2;cases b;simp only[qW,cV,k1,yf4 k2 g]
  ·cases b
theorem yf5:∀{d c:List AV},cV h d=some c->c.length=d.length
 |[],c,b=>by simp only[cV]at b;cases b;rfl|a::d,c,b=>by
  simp only[cV]at b;split at b
  ·rename_i v e k1 k2;cases b;simp[yf5 k2]
  ·cases b
theorem yf6:∀{c b:List (List AV)},GS h c=some b->cV h c.flatten=some b.flatten/\b.length=c.length/\∀n:Nat,(∀r∈c,r.length=n)->∀r∈b,r.length=n
 |[],b,a=>by simp only[GS]at a;cases a;exact⟨rfl,rfl,fun _ _ r f=>by cases f⟩|r::l,b,a=>by
  simp only[GS]at a;split at a
  ·rename_i v m k1 k2;cases a;obtain⟨i,j,k⟩:=yf6 k2;refine⟨by simpa using yf4 k1 i,by simp[j],fun n e x d=>?_⟩;rcases dD.1 d with rfl|d;·rw[yf5 k1];exact e r (by simp)
   ·exact k n (fun y g=>e y (by simp[g])) x d
  ·cases a
theorem zx8:∀(j:List Nat)(h:aA){l d f:Nat}{tg:Option TypeId}{c:List (List AV)}{g:Bool},h[l]?=some (.arrX true tg d f c g)->(dC h j)[l]?=some (.arrX true tg d f c g)
 |[],_,_,_,_,_,_,_,a=>a|k::i,h,l,d,f,tg,c,g,a=>by
  refine zx8 i _ ?_;unfold jX;split
  ·rename_i o n p m q b;rw[iZ];by_cases e:k=l;·subst e;rw[a]at b;injection b with b;cases b
   ·rw[if_neg e];exact a
  ·exact a
theorem xr9(d:Inv B C h w){v:AV}{q:aA}(a:zd8 h v=some q):∃D,C.Le D/\Inv B D q w:=by
 unfold zd8 at a;split at a
 ·rename_i l b2 Q;split at a
  ·rename_i tg Z a3 g wr s;simp only[bS]at a;obtain⟨H,f,rfl⟩:=a;obtain⟨D,o,k,L,p,t⟩:=EH (eZ g.flatten) d;have m:=zx8 (eZ g.flatten) h s;obtain⟨I,i,J⟩:=yf6 f;refine⟨D,o,k.same m ?_ (fun b x=>x) (fun S a2 a1 b1 Y b3 e v f=>?_)⟩
   ·rcases k.ok l _ m with⟨k1,k2⟩|⟨r,n,k1,k2,k3,k4,k5,k6,k7,k8,z,k9,k10,k11,k12⟩
    ·subst k2;simp only[GS,aE]at f;exact .inl ⟨k1,f.symm⟩
    ·have A:RelL C g.flatten (n.toList.take (g.length*r.size)):=by
      rcases d.ok l _ s with⟨c,E⟩|⟨X,K,c,E,T,U,V,j,W,F,_⟩;·rw[p]at k1;rw[k1]at c;cases c
      ·rw[p]at k1;rw[k1]at c;injection c with c;cases c;rw[k6]at j;injection j with j;cases j;exact F
     have y:=GR d (I:=D.im) o.im g.flatten H.flatten _ t I A;refine .inr ⟨r,n,k1,k2,by rw[i];exact k3,k4,J _ k5,k6,k7,?_,?_,k9,?_,k11,k12.len (by rw[i];exact bP _)⟩;·rw[i];exact y
     ·rw[i];exact z
     ·rw[i];exact k10
   ·injection e with O N M u;subst u;exact k.fv l _ _ _ _ _ _ m v f
  ·cases a;exact⟨C,.refl C,d⟩
 ·cases a;exact⟨C,.refl C,d⟩
theorem zd9:∀{k:List AV}{C:Cx}{h c:aA},Inv B C h w->xY h k=some c->∃D,C.Le D/\Inv B D c w
 |[],C,h,c,d,b=>by simp only[xY]at b;cases b;exact⟨C,.refl C,d⟩|a::l,C,h,c,d,b=>by
  simp only[xY]at b;split at b
  ·rename_i m j;obtain⟨D,e,f⟩:=xr9 d j;obtain⟨E,g,i⟩:=zd9 f b;exact⟨E,e.trans g,i⟩
  ·cases b
theorem xt2(d:Inv B C h w){p j c:Nat}{q:Bool}{tg:Option TypeId}{r:List (List AV)}{s:Bool}(e:h[p]?=some (.arrX q tg j c r s)):Inv B (C.addAr p (c+1) none) (h.set p (.arr j (c+1) [] true)) w/\Rel (C.addAr p (c+1) none) (.own p (c+1) 0) (.slice none 0 0)/\C.Le (C.addAr p (c+1) none):=by
 have m:C.ar p (c+1)=none:=d.fv p _ _ _ _ _ _ e (c+1) (by omega);have i:=KD (w:=w) none m;have g:(C.addAr p (c+1) none).ar p (c+1)=some none:=by simp[Cx.addAr]
 have n:p<h.length:=(aF.1 e).1;refine⟨?_,.ownnil _ _ g,i.le⟩;refine d.turn e i.le (bP _) (fun _ _ _=>⟨rfl,fun _=>rfl⟩) d.im d.one (.inl ⟨g,rfl⟩) (fun b l=>by simp[aU,g]at l) (fun k a=>?_) (fun k z F E H A I a v o=>?_)
 ·have:=d.fr k a;refine⟨this.1,fun v=>?_⟩;simp only[Cx.addAr];rw[if_neg (by omega)];exact this.2 v
 ·simp only[Cx.addAr];rw[iZ]at a;by_cases f:p=k
  ·subst f;rw[if_pos rfl,if_pos n]at a;injection a with a;injection a with y u t a;subst a;rw[if_neg (by omega)];exact d.fv p _ _ _ _ _ _ e v (by omega)
  ·rw[if_neg f]at a;rw[if_neg (fun x=>f x.1.symm)];exact d.fv k _ _ _ _ _ _ a v o
theorem xj4(f:Inv B C h w){k:PK}{A q:List AV}{E:List Value}{p:aA}(i:RelL C A E)(c:AW k h A=some (p,q)):∃D,C.Le D/\Inv B D p w/\RelL D q E:=by cases k with
 |settle=>
  simp only[AW,bS,aR]at c;obtain⟨K,u,rfl,rfl⟩:=c;obtain⟨D,n,t⟩:=zd9 f u;exact⟨D,n,t,i.mono n⟩|nest=>
  have z:some (h,A)=some (p,q)->∃D,C.Le D/\Inv B D p w/\RelL D q E:=fun e=>by injection e with e;injection e with d g;subst d g;exact⟨C,.refl C,f,i⟩
  simp only[AW]at c;split at c
  ·rename_i l U b1 b2 v;split at c
   ·rename_i tg T f1 S o;split at c;·exact z c
    ·injection c with c;injection c with d g;subst d g;refine⟨C,.refl C,f.same o ?_ (fun b L=>L) (fun N c3 c2 f2 c1 f3 e v M=>?_),i⟩
     ·rcases f.ok l _ o with⟨k1,k2⟩|⟨r,I,k1,k2,k3,k4,k5,k6,k7,k8,k9⟩;·exact .inl ⟨k1,k2⟩
      ·exact .inr ⟨r,I,k1,k2,k3,k4,k5,k6,k7,k8.mono C.frozen_le,k9⟩
     ·injection e with Z Y X d;subst d;exact f.fv l _ _ _ _ _ _ o v M
   ·exact z c
  ·exact z c|frzv=>
  simp only[AW]at c;split at c
  ·rename_i a v;simp only[bS,aR]at c;obtain⟨⟨e3,K⟩,u,rfl,rfl⟩:=c;obtain⟨g1,H,rfl,x,y⟩:=i.inv_cons;obtain⟨g2,H,rfl,O,Q⟩:=y.inv_cons;have:=Q.inv_nil;subst this;obtain⟨D,n,t,J,V,W⟩:=tA f u O;exact⟨D,n,t,.cons (x.mono n) (.cons (J.mono (Cx.frozen_le D)) .nil)⟩
  ·cases c|spare m=>
  simp only[AW,aE,aR]at c;obtain⟨rfl,rfl⟩:=c;obtain⟨s,F,j⟩:=zn0 f m;exact⟨_,j,s,i.mono j⟩|slot b3=>
  simp only[AW]at c;split at c
  ·rename_i r;split at c
   ·rename_i N tg T U S wr o;injection c with c;injection c with d g;subst d g;obtain⟨s,F,j⟩:=xt2 f o;obtain⟨v,H,rfl,x,y⟩:=i.inv_cons;cases x;exact⟨_,j,s,.cons F (y.mono j)⟩
   ·cases c
  ·injection c with c;injection c with d g;subst d g;exact⟨C,.refl C,f,i⟩
theorem zS9:∀{l:List PK}{C:Cx}{h b:aA}{c d:List AV}{e:List Value},Inv B C h w->RelL C c e->vJ l h c=some (b,d)->∃D,C.Le D/\Inv B D b w/\RelL D d e
 |[],C,h,b,c,d,e,i,j,a=>by simp only[vJ]at a;injection a with a;injection a with f g;subst f g;exact⟨C,.refl C,i,j⟩|k::l,C,h,b,c,d,e,i,j,a=>by
  simp only[vJ]at a;split at a
  ·rename_i r s q;obtain⟨D,m,n,o⟩:=xj4 i j q;obtain⟨E,f,g,p⟩:=zS9 n o a;exact⟨E,m.trans f,g,p⟩
  ·cases a
def JN(P:Program)(own:Bool):Op->Option (AO×List Operand)
 |.buildSlice t b a=>match P.underlying t with
  |some (.slice e)=>(match dU P e,kC P e with
   |some n,some _=>if a.toList.map (·.1)=List.range b then some (.bslK own n,a.toList.map (·.2))else none|_,_=>none)|_=>none
 |_=>none
theorem ym5(l:Inv B C h w){o:Op}{d:AO}{k:List Operand}{own:Bool}(a:JN P own o=some (d,k)){j:List AV}{v:AV}{h':aA}{c:Operand->Value}{b:Oper}(i:b.op=o)(q:RelL C j (k.map c))(g:cG G h d j=some (v,h')):Left P B C w ((execOp c b).run P w) v h':=by
 have f:execOp c b=execOp c {b with op:=o}:=by rw[<-i]
 rw[f];clear f i;unfold JN at a;split at a
 ·rename_i t u x;split at a
  ·rename_i e r;split at a
   ·rename_i n z m s;split at a
    ·rename_i p;cases a;simp only[cG,AO.quiet,bM,bH]at g;exact kS (yt9 l r m s p q g)
    ·cases a
   ·cases a
  ·cases a
 ·cases a
end
section
variable{P:Program}{B:Base}{C D:Cx}{h h':aA}{w w':World}{G:Gam}
theorem zI2(a:Inv B C h w)(t:h'.length=h.length)(d:∀(l:Nat)e,h'[l]?=some e->e=.dead\/h[l]?=some e):Inv B C h' w:=by
 refine⟨a.im,a.one,fun k x c=>?_,fun k j x m b f g i h4=>?_,fun k s=>a.fr k (by omega),fun k n tg p q o r c=>?_,a.hB,a.low,a.gl,a.tb,fun k x c=>by have:=a.rcl k x c;omega,a.cle⟩
 ·rcases d k x c with rfl|c;·trivial
  ·exact a.ok k x c
 ·rcases d k x f with rfl|f;·simp[aU]at i
  ·rcases d j m g with rfl|g;·simp[aU]at h4
   ·exact a.inj k j x m b f g i h4
 ·rcases d k _ c with c|c;·cases c
  ·exact a.fv k n tg p q o r c
theorem zI1(b:Inv B C h w)(l:Nat):Inv B C (h.set l .dead) w:=by
 refine zI2 b (by simp) fun k x a=>?_;rw[iZ]at a;split at a
 ·split at a;·injection a with a;exact .inl a.symm
  ·cases a
 ·exact .inr a
theorem find_born{a:Array MapEntry}(b:∀(i:Nat)m,a[i]?=some m->m.born=i){i:Nat}{m:MapEntry}(c:a[i]?=some m):a.find? (fun e=>e.born==i)=some m:=by
 obtain⟨f,d⟩:=lL.1 c;rw[Array.find?_eq_some_iff_getElem];refine⟨by simp[b i m c],i,f,d,fun j k=>?_⟩;have g:a[j]?=some (a[j]'(by omega)):=by simp
 have:=b j _ g;simp;omega
theorem yH2(o:Inv B C h w){l:Nat}{x:Value}{v:AV}(L:Rel C (.ptr l 0) x)(a:rG h l=some v):∃u,(Instr.entry x).run P w=.ok u w/\Rel C v u:=by
 unfold rG at a;split at a
 ·rename_i m n seen M I;split at a
  ·rename_i i S K J;split at a
   ·rename_i U;split at a
    ·rename_i k u p;cases a;cases L with|ptr _ _ b z=>
     obtain⟨s,V,g,T,y,h4⟩:=o.ok l _ I;rw[z]at g;cases g;obtain⟨Q,h5,rfl⟩:=h4;obtain⟨s,e,t,k1,k2,k3,k4,k5,k6,k7⟩:=o.ok m _ J;rw[h5]at k1;cases k1;have H:i<e.size:=by rw[<-k4];exact(aF.1 p).1
     have r:e[i]?=some e[i]:=by simp[H]
     have F:=find_born k7 r;have E:t=M:=by omega
     obtain⟨N,O⟩:=k5 i k u _ p r;have A:seen.toArray.back?=some i:=by rw[<-K];simp[List.back?_toArray]
     refine⟨.tuple #[e[i].key,e[i].val],?_,.tup _ _ rfl fun j c q d f=>?_⟩;·simp[Instr.entry,getObj,Sem.run,y,A,k3,E,F]
     ·match j with
      |0=>simp at d f;subst d f;exact N.mono C.frozen_le|1=>simp at d f;subst d f;exact O.mono C.frozen_le|_+2=>simp at d
    ·cases a
   ·cases a
  ·cases a
 ·cases a
theorem run_choose(q:Question)(w:World):(choose q).run P w=.ok (if q.forced then 0 else q.cut (w.tape w.drawn q)) (if q.forced then w else{w with drawn:=w.drawn+1}):=by
 unfold choose;simp only[Sem.run];split<;>rfl
theorem xa3(p:Inv B C h w){l:Nat}{c2:Value}{ty:TypeId}{V:List (AV×aA)}(hx:Rel C (.ptr l 0) c2)(k:iG h l=some V):∃r c1 w',r∈V/\(Instr.next c2 false ty).run P w=.ok c1 w'/\Inv B C r.2 w'/\Rel C r.1 c1/\Keep B w w':=by
 have b3:Rel C (.tup [.bool false]) (.tuple #[.bool false]):=.tup _ _ rfl fun j c g1 d n=>by match j with
  |0=>simp at d n;subst d n;exact .bool _|_+1=>simp at d
 unfold iG at k;cases hx with|ptr _ _ b q=>
 split at k
 ·rename_i f3 seen U J;cases k;obtain⟨N,mo,o,u,A,h4⟩:=p.ok l _ J;rw[q]at o;cases o;cases h4;exact⟨_,_,w,gU.2 rfl,by simp[Instr.next,getObj,Sem.run,A],zI1 p l,b3,Keep.refl _ _⟩
 ·rename_i f2 f3 seen U J;split at k
  ·rename_i O hm;split at k
   ·rename_i d;obtain⟨i1,rfl⟩:=d;obtain⟨N,mo,o,u,A,h4⟩:=p.ok l _ J;rw[q]at o;cases o;obtain⟨t,h5,rfl⟩:=h4;obtain⟨N,f,g,k1,k2,k3,k4,k5,k6,k7⟩:=p.ok f2 _ hm;rw[h5]at k1;cases k1;have hn:f.size=U:=by omega
    have c3:g=U:=by omega
    subst c3;have Q:∀e∈f,e.born<g:=fun e m=>by
     obtain⟨i,v,x⟩:=Array.mem_iff_getElem.1 m;have:=k7 i e (by simp[v,x]);omega
    have e1:(!seen.toArray.isEmpty&&!f.isEmpty&&f.all fun e=>decide (e.born>=g))=false:=by
     by_cases h0:f.size=0;·simp[Array.isEmpty,h0]
     ·have F:(f.all fun e=>decide (e.born>=g))=false:=by
       rw[wJ];intro F;rw[Array.all_eq_true]at F;have o:=F 0 (by omega);have u:=Q _ (Array.getElem_mem (xs:=f) (i:=0) (by omega));simp at o;omega
      simp[F]
    have hold:∀a:Array MapEntry,(∀e∈a,e∈f)->a.filter (fun e=>decide (e.born<g))=a/\a.filter (fun e=>decide (e.born>=g))=#[]:=fun a K=>by
     constructor;·rw[Array.filter_eq_self];intro e m;simp[Q e (K e m)]
     ·rw[Array.filter_eq_empty_iff];intro e m;have:=Q e (K e m);simp;omega
    generalize z:f.filter (fun e=>!seen.toArray.contains e.born)=a;have a2:∀e∈a,e∈f:=fun e m=>by rw[<-z]at m;exact(Array.mem_filter.1 m).1
    obtain⟨e3,f1⟩:=hold a a2;have L:∀(g2:Nat->Sem Value),(Instr.next (.pointer (some ⟨b,0,none⟩)) false ty).run P w=(do match((if a.isEmpty then#[none]else#[])++a.map some)[<-choose (.mapNext ((if a.isEmpty then(#[none]:Array (Option MapEntry))else#[])++a.map some).size)]? with
       |some (some e)=>setObj b (.mapIter (some t) g (seen.toArray.push e.born) g);pure (.tuple #[.bool true,e.key,e.val])|some none=>pure (.tuple #[.bool false])|none=>stuck "Next: no such candidate":Sem Value).run P w:=fun _=>by
     simp only[Instr.next,Sem.run_bind,getObj,Sem.run,A,Result.andThen_ok,k3,e1,bM,bH];rw[z,e3,f1];simp;rfl
    replace L:=L (fun _=>stuck "");split at k
    ·rename_i I;cases k;have K:a=#[]:=by
      rw[<-z,Array.filter_eq_empty_iff];intro e m;obtain⟨i,v,x⟩:=Array.mem_iff_getElem.1 m;have H:=k7 i e (by simp[v,x]);have b1:i∉(List.range g).filter fun i=>!seen.contains i:=by rw[I];simp
      simp only[nG,jF,not_and,mM,Bool.not_eq_false]at b1;have:=b1 (by omega);simp[H]at this⊢;exact this
     subst K;refine⟨_,_,w,gU.2 rfl,?_,zI1 p l,b3,Keep.refl _ _⟩;rw[L];simp[Sem.run_bind,Question.forced]
    ·rename_i s is I;cases k;have S:a.isEmpty=false:=by
      have y:s∈(List.range g).filter fun i=>!seen.contains i:=by rw[I];simp
      simp only[nG,jF]at y;have a1:s<f.size:=by omega
      have:f[s]∈a:=by
       rw[<-z,Array.mem_filter];refine⟨Array.getElem_mem a1,?_⟩;rw[k7 s _ (by simp[a1]:f[s]?=some f[s])];simpa using y.2
      cases d2:a.isEmpty with
      |false=>rfl|true=>rw[Array.isEmpty_iff.1 d2]at this;simp at this
     have b2:0<a.size:=by
      rcases DF a.size with e|e;·rw[IH e]at S;simp at S
      ·exact e
     generalize Y:(if(Question.mapNext a.size).forced then 0 else(Question.mapNext a.size).cut (w.tape w.drawn (.mapNext a.size)))=c;generalize T:(if(Question.mapNext a.size).forced then w else{w with drawn:=w.drawn+1})=M;have d:c<a.size:=by
      rw[<-Y];split;·exact b2
      ·exact Nat.mod_lt _ b2
     have W:Below w.heap.size w M:=by
      rw[<-T];split;·exact Below.refl _ _
      ·exact⟨rfl,rfl,rfl,bP _,fun i2 hk=>rfl⟩
     have e2:M.heap=w.heap:=by rw[<-T];split<;>rfl
     have d1:a[c]'d∈f:=a2 _ (Array.getElem_mem d);obtain⟨i,v,x⟩:=Array.mem_iff_getElem.1 d1;have a3:f[i]?=some (a[c]'d):=by simp[v,x]
     have X:=k7 i _ a3;have y:i∈(List.range g).filter fun i=>!seen.contains i:=by
      simp only[nG,jF];refine⟨by omega,?_⟩;have:a[c]'d∈f.filter (fun e=>!seen.toArray.contains e.born):=by rw[z];exact Array.getElem_mem d
      have:=(Array.mem_filter.1 this).2;rw[X]at this;simpa using this
     rw[I]at y;have d3:i<O.length:=by omega
     have Z:O[i]?=some O[i]:=by simp[d3]
     obtain⟨r1,r2⟩:=k5 i _ _ _ Z a3;have E:M.heap[b]?=some (.mapIter (some t) g seen.toArray g):=by rw[e2];exact A
     refine⟨_,.tuple #[.bool true,(a[c]'d).key,(a[c]'d).val],World.put M b (.mapIter (some t) g (seen.toArray.push i) g),jE.2 ⟨i,y,rfl⟩,?_,?_,?_,?_⟩
     ·rw[L];simp only[S,bM,bH,Array.empty_append,Array.size_map,Sem.run_bind,run_choose,Result.andThen_ok];rw[Y,T];simp[d,setObj,Sem.run,E,World.put,X]
     ·exact tU (p.grow W) J q (by simp[aU,q]) E (fun c e g3=>by simp) u ⟨b,some t,q,u,by rw[vK E];simp,t,h5,rfl⟩ (fun N H=>by simp[aU,q]at H;exact H.symm) (fun _ _ _ _=>by simp)
     ·rw[Z];refine .tup _ _ rfl fun j c g1 d n=>?_;match j with
      |0=>simp at d n;subst d n;exact .bool _|1=>simp at d n;subst d n;exact r1.mono C.frozen_le|2=>simp at d n;subst d n;exact r2.mono C.frozen_le|_+3=>simp at d
     ·exact(jK p W).trans (tN u E (fun c=>by simp))
   ·cases k
  ·cases k
 ·cases k
end
section
variable{P:Program}{B:Base}{C D:Cx}{h h':aA}{w w':World}{G:Gam}
def zh6(P:Program)(f:Bool)(d:Nat):Prop:=∀(t:TypeId)(b:List EK)(c:Nat)(e:Array Value),gN P d t=some b->dU P t=some b.length->c+b.length<=e.size->∀k w,(do let a<-part t e c;Instr.checkKey f (k+d) t a:Sem Unit).run P w=.ok () w
theorem zx4{i:TypeId->Option (List EK)}:∀(b:List Field)(d:Nat)(c:List EK),pW P i b d=some c->∀f∈b,f.name≠ "_"/\∃k1,i f.type=some k1/\dU P f.type=some k1.length/\f.offset+k1.length<=d+c.length
 |[],_,_,_,f,a=>by simp at a|g::b,d,c,h,f,a=>by
  simp only[pW]at h;split at h;·cases h
  ·rename_i e;simp only[not_or,Decidable.not_not]at e;split at h
   ·rename_i k1 j;split at h
    ·rename_i l;simp only[bS]at h;obtain⟨k2,k,rfl⟩:=h;rcases dD.1 a with rfl|a;·exact⟨e.1,k1,j,l,by simp;omega⟩
     ·obtain⟨m,k3,n,o,p⟩:=zx4 b _ k2 k f a;exact⟨m,k3,n,o,by simp;omega⟩
    ·cases h
   ·cases h
theorem yq6{d b:Type}{a:Sem d}{f:d->Sem b}{w:World}{r:b}(h:(do let x<-a;f x:Sem b).run P w=.ok r w):∀{c:Type}(g:b->Sem c),(do let x<-a;let y<-f x;g y:Sem c).run P w=(g r).run P w:=by
 intro c g;simp only[Sem.run_bind]at h⊢;generalize a.run P w=e at h⊢;cases e with
 |halt _ _=>simp[Result.andThen]at h|ok x i=>
  simp only[Result.andThen_ok]at h⊢;rw[h];rfl
theorem zr1{i:Bool}{d:Nat}(h:zh6 P i d){t:TypeId}{a:Array Field}(n:P.underlying t=some (.struct a)){e:List EK}(l:pW P (gN P d) a.toList 0=some e){b:Array Value}(v:b.size=e.length)(k:Nat)(w:World):(Instr.checkKey i (k+d+1) t (.agg b)).run P w=.ok () w:=by
 rw[Instr.checkKey];simp only[Sem.run_bind,run_underlying n,Result.andThen_ok];rw[<-Array.forIn_toList];have c:=zx4 a.toList 0 e l;generalize a.toList=L at c;induction L with
 |nil=>simp|cons f L o=>
  obtain⟨m,k1,q,r,z⟩:=c f (by simp);have p:=h f.type k1 f.offset b q r (by omega) k w;have y:=fun(u:Type)(g:Unit->Sem u)=>yq6 p g;simp only[Sem.run_bind]at p;simp only[List.forIn_cons,Sem.run_bind,m,ne_eq,not_false_eq_true,aM];generalize(part f.type b f.offset).run P w=s at p⊢;cases s with
  |halt _ _=>simp[Result.andThen]at p|ok x A=>
   simp only[Result.andThen_ok]at p⊢;rw[p];simp only[Result.andThen_ok,Sem.run_pure];exact o fun g j=>c g (by simp[j])
theorem zr0(c:Bool):∀d,zh6 P c d
 |0=>fun t l g i h=>by simp[gN]at h|d+1=>by
  intro t l g i h p s k w;have f:∀(o:l.length=1)(e:lJ P t=some false)(j:∀x,(Instr.checkKey c (k+d+1) t x).run P w=.ok () w),(do let a<-part t i g;Instr.checkKey c (k+(d+1)) t a:Sem Unit).run P w=.ok () w:=by
   intro o e j;have n:g<i.size:=by omega
   simp[part,qI e,n];exact j _
  simp only[gN]at h;cases b:P.underlying t with
  |none=>simp[b]at h|some m=>
   cases m<;>simp only[b]at h<;>(first|cases h|skip);case some.bool.refl=>exact f rfl (by simp[lJ,b]) fun x=>by simp only[Instr.checkKey,Sem.run_bind,run_underlying b,Result.andThen_ok];rfl
   case some.int.refl q=>exact f rfl (by simp[lJ,b]) fun x=>by simp only[Instr.checkKey,Sem.run_bind,run_underlying b,Result.andThen_ok];rfl
   case some.string.refl=>exact f rfl (by simp[lJ,b]) fun x=>by simp only[Instr.checkKey,Sem.run_bind,run_underlying b,Result.andThen_ok];rfl
   case some.struct r=>
    split at h;·cases h
    ·have e:lJ P t=some true:=by simp[lJ,b]
     simp only[part,Sem.run_bind,qI e,Result.andThen_ok,aM,jC p,Sem.run_pure];rw[show k+(d+1)=k+d+1 by omega];exact zr1 (zr0 c d) b h (by simp;omega) k w
theorem zR{t:TypeId}{d:Array Field}{a:List EK}(e:P.underlying t=some (.struct d))(g:gN P 100 t=some a){f:Array Value}(i:f.size=a.length)(c:Bool)(w:World):(Instr.checkKey c 10000 t (.agg f)).run P w=.ok () w:=by
 have b:(if P.stoodInHeld t then none else pW P (gN P 99) d.toList 0)=some a:=by
  have:gN P (99+1) t=some a:=g;rw[zx3 e]at this;exact this
 split at b;·cases b
 ·exact zr1 (zr0 c 99) e b i 9900 w
theorem VP{f:TypeId}{E:Array Field}(t:P.underlying f=some (.struct E)){l:List EK}(q:gN P 100 f=some l){o:Array Value}{g:List AV}(x:RelL C g o.toList)(c:g.length=l.length):∀(e:List (AV×AV))(d:List MapEntry)(n:Nat)(r:Option AV),e.length=d.length->(∀(i:Nat)k v m,e[i]?=some (k,v)->d[i]?=some m->Rel C k m.key/\Rel C v m.val)->iY l g e=some r->match r with
   |some v=>∃i u,(∀w,(Instr.findAsking f (.agg o) d n).run P w=.ok (some (i,u)) w)/\Rel C v u|none=>∀w,(Instr.findAsking f (.agg o) d n).run P w=.ok none w
 |[],[],n,r,_,_,h=>by simp[iY]at h;subst h;intro w;rfl|[],_::_,_,_,c,_,_=>by simp at c|_::_,[],_,_,c,_,_=>by simp at c|(y,v)::e,m::d,n,r,J,s,h=>by
  obtain⟨L,M⟩:=s 0 y v m rfl rfl;have j:=VP t q x c e d (n+1) r (by simpa using J) (fun i k v m F H=>s (i+1) k v m (by simpa using F) (by simpa using H));cases y<;>simp only[iY]at h<;>(first|cases h|skip);rename_i z;split at h
  ·rename_i I;obtain⟨N,A,K⟩:=sJ L;have p:∀b w,eV l g z=some b->(Op.equal f (.agg o) m.key).run P w=.ok b w:=fun b w a=>by rw[A];exact XO t q x K c I a w
   split at h
   ·rename_i a;cases h;exact⟨n,m.val,fun w=>by simp[Instr.findAsking,p true w a],M⟩
   ·rename_i a;have j:=j h;cases r with
    |none=>intro w;simp only[Instr.findAsking,Sem.run_bind,p false w a,Result.andThen_ok,bM,bH];exact j w|some v=>
     obtain⟨i,u,k1,k2⟩:=j;exact⟨i,u,fun w=>by simp only[Instr.findAsking,Sem.run_bind,p false w a,Result.andThen_ok,bM,bH];exact k1 w,k2⟩
   ·cases h
  ·cases h
theorem AB{a:TypeId}{b:Array Field}(c:P.underlying a=some (.struct b)){xs:Array Value}{ms:List MapEntry}{r:Option (Nat×Value)}{w:World}(h:(Instr.findAsking a (.agg xs) ms).run P w=.ok r w):(Instr.findKey a (.agg xs) ms).run P w=.ok r w:=by
 simp only[Instr.findKey,Sem.run_bind,run_underlying c,Result.andThen_ok];cases ms with
 |nil=>
  simp only[Instr.findAsking,Sem.run_pure,Result.ok.injEq]at h;simp[Instr.findNow,h.1]|cons m ms=>
  have:Instr.findNow (.struct b) (.agg xs) (m::ms) 0=none:=by simp[Instr.findNow,Instr.sameNow]
  rw[this];exact h
theorem yY0(W:Inv B C h w){o:List EK}{t F J:TypeId}{U:Array Field}(E:P.underlying t=some (.map F J))(e:P.underlying F=some (.struct U))(l:gN P 100 F=some o){z:AV}(hz:sB P J=some z){j:Bool}{m k v:AV}{x y:Value}(N:Rel C m x)(hy:Rel C k y)(c:bV h (.lookA o j z) [m,k]=some v):∃u,Rel C v u/\(Instr.lookup t x y j).run P w=.ok u w:=by
 obtain⟨H,a1,Q⟩:=TK (C:=C) hz;cases k<;>simp only[bV]at c<;>(first|cases c|skip);rename_i T;split at c
 ·rename_i X;obtain⟨S,rfl,O⟩:=sJ hy;have A:S.size=o.length:=by have:=O.1;simp at this;omega
  have fin:∀{r:Option AV}{u:Option Value},(match r,u with|some a,some b=>Rel C a b|none,none=>True|_,_=>False)->v=(if j then .tup [r.getD z,.bool r.isSome]else r.getD z)->∃d,Rel C v d/\d=(if j then .tuple #[u.getD H,.bool u.isSome]else u.getD H):=by
   intro r u s Y;refine⟨_,?_,rfl⟩;subst Y;have K:Rel C (r.getD z) (u.getD H):=by cases r<;>cases u<;>first|exact s.elim|exact a1|exact s
   have f:r.isSome=u.isSome:=by cases r<;>cases u<;>first|exact s.elim|rfl
   cases j with
   |false=>exact K|true=>
    simp only[aM];refine .tup _ _ rfl fun i a3 b1 g n=>?_;match i with
    |0=>simp at g n;subst g n;exact K|1=>simp at g n;subst g n;rw[f];exact .bool _|_+2=>simp at g
  cases m<;>simp only at c<;>(first|cases c|skip);case map a2=>
   split at c
   ·rename_i I Z;cases N with|map _ b V=>
     obtain⟨b',ms,ck,f,L,M,h4,h5,_⟩:=W.ok a2 _ Z;rw[V]at f;cases f;cases q:iY o T I with
     |none=>simp[q]at c|some r=>
      simp only[q,dI,aE]at c;have p:=VP e l O X I ms.toList 0 r (by simpa using h4) (fun i k v m f L=>by
       have:=h5 i k v m f (by simpa using L);exact⟨this.1.mono C.frozen_le,this.2.mono C.frozen_le⟩) q;cases r with
      |none=>
       simp only at p;obtain⟨d,k1,k2⟩:=fin (r:=none) (u:=none) trivial (by rw[<-c]);refine⟨d,k1,?_⟩;rw[k2];simp[Instr.lookup,run_underlying E,getObj,Sem.run,M,zR e l A,AB e (p w),Q]|some v'=>
       obtain⟨i,u,q1,q2⟩:=p;obtain⟨d,k1,k2⟩:=fin (r:=some v') (u:=some u) q2 (by rw[<-c]);refine⟨d,k1,?_⟩;rw[k2];simp[Instr.lookup,run_underlying E,getObj,Sem.run,M,zR e l A,AB e (q1 w)]
   ·cases c
  case agg.isTrue.nilm.refl=>
   cases N;obtain⟨d,k1,k2⟩:=fin (r:=none) (u:=none) trivial rfl;refine⟨d,k1,?_⟩;rw[k2];have:=AB (P:=P) (xs:=S) (ms:=[]) (r:=none) (w:=w) e rfl;simp[Instr.lookup,run_underlying E,zR e l A,this,Q]
 ·cases c
theorem zv2:∀{f:List EK}{d e:List AV}{g i:List Value},eV f d e=some true->d.length=f.length->e.length=f.length->RelL C d g->RelL C e i->g=i/\∀n,(g.zip i).all (fun(x,y)=>Instr.sameBits n x y)=true
 |[],d,e,g,i,_,l,m,o,q=>by
  have:d=[]:=uL l;have:e=[]:=uL m;subst d;subst e;rw[o.inv_nil,q.inv_nil];exact⟨rfl,fun n=>rfl⟩|k::f,[],_,_,_,_,l,_,_,_=>by simp at l|k::f,_::_,[],_,_,_,_,m,_,_=>by simp at m|k::f,a::d,b::e,g,i,c,l,m,o,q=>by
  obtain⟨x,g,rfl,p,t⟩:=o.inv_cons;obtain⟨y,i,rfl,r,u⟩:=q.inv_cons;have v:x=y/\(∀n,Instr.sameBits n x y=true)/\eV f d e=some true:=by
   cases k<;>cases a<;>cases b<;>simp only[eV]at c<;>(first|cases c|skip)
   ·split at c;·rename_i j;subst j;rw[jG p,jG r];exact⟨rfl,fun n=>by cases n<;>simp[Instr.sameBits],c⟩
    ·simp at c
   ·split at c
    ·rename_i s;split at c;·rename_i j;subst s j;rw[dK p,dK r];exact⟨rfl,fun n=>by cases n<;>simp[Instr.sameBits],c⟩
     ·simp at c
    ·cases c
   ·split at c;·rename_i j;subst j;rw[eD p,eD r];exact⟨rfl,fun n=>by cases n<;>(simp only[Instr.sameBits];rw[beq_toListBytes];simp),c⟩
    ·simp at c
  obtain⟨rfl,k2,k3⟩:=v;obtain⟨rfl,k5⟩:=zv2 k3 (by simpa using l) (by simpa using m) t u;exact⟨rfl,fun n=>by simp only[List.zip_cons_cons,sL,k2 n,gH];exact k5 n⟩
theorem zo4{s:TypeId}{Y:Array Field}(N:P.underlying s=some (.struct Y)){t:List EK}(I:gN P 100 s=some t){f:Array Value}{p:List AV}(F:RelL C p f.toList)(o:p.length=t.length)(b1:Rel C (.agg p) (.agg f)){v:AV}{y:Value}(O:Rel C v y):∀(g:List (AV×AV))(e:List MapEntry)(n:Nat)(r:List (AV×AV)),g.length=e.length->(∀(i:Nat)k v m,g[i]?=some (k,v)->e[i]?=some m->Rel C k m.key/\Rel C v m.val)->kZ t p v g=some r->(∃i u key,(∀w,(Instr.findAsking s (.agg f) e n).run P w=.ok (some (n+i,u)) w)/\(e[i]?).map (·.key)=some key/\Instr.sameBits 10000 key (.agg f)=true/\i<e.length/\r.length=e.length/\(∀(j:Nat)k v m,r[j]?=some (k,v)->(e.modify i fun m=>{m with key:=.agg f,val:=y})[j]?=some m->Rel C k m.key/\Rel C v m.val))\/((∀w,(Instr.findAsking s (.agg f) e n).run P w=.ok none w)/\r=g++[(.agg p,v)])
 |[],[],n,r,_,_,h=>by simp[kZ]at h;subst h;exact .inr ⟨fun w=>rfl,rfl⟩|[],_::_,_,_,o,_,_=>by simp at o|_::_,[],_,_,o,_,_=>by simp at o|(Q,v')::g,m::e,n,r,K,L,h=>by
  obtain⟨H,r2⟩:=L 0 Q v' m rfl rfl;have M:∀(i:Nat)k v m,g[i]?=some (k,v)->e[i]?=some m->Rel C k m.key/\Rel C v m.val:=fun i k v m c d=>L (i+1) k v m (by simpa using c) (by simpa using d);cases Q<;>simp only[kZ]at h<;>(first|cases h|skip);rename_i W;split at h
  ·rename_i J;obtain⟨vs,A,S⟩:=sJ H;have E:∀b w,eV t p W=some b->(Op.equal s (.agg f) m.key).run P w=.ok b w:=fun b w l=>by rw[A];exact XO N I F S o J l w
   split at h
   ·rename_i l;cases h;obtain⟨s1,s2⟩:=zv2 l o J F S;have b2:f=vs:=by rw[<-oE];exact s1
    subst b2;refine .inl ⟨0,m.val,m.key,fun w=>by simp[Instr.findAsking,E true w l],rfl,?_,by simp,by simpa using K,fun j a b q c d=>?_⟩
    ·rw[A];simp only[Instr.sameBits,beq_self_eq_true,gH];exact s2 9999
    ·cases j with
     |zero=>
      simp at c d;obtain⟨rfl,rfl⟩:=c;subst d;refine⟨?_,O⟩;rw[<-A];exact H|succ j=>simp at c d;exact M j a b q c d
   ·rename_i l;simp only[bS]at h;obtain⟨X,Z,rfl⟩:=h;rcases zo4 N I F o b1 O g e (n+1) X (by simpa using K) M Z with⟨i,u,key,x,z,T,a4,U,V⟩|⟨x,z⟩
    ·refine .inl ⟨i+1,u,key,fun w=>?_,by simpa using z,T,by simp;omega,by simp[U],fun j a b q c d=>?_⟩
     ·simp only[Instr.findAsking,Sem.run_bind,E false w l,Result.andThen_ok,bM,bH];rw[x w];congr 3;omega
     ·cases j with
      |zero=>simp at c d;obtain⟨rfl,rfl⟩:=c;subst d;exact⟨H,r2⟩|succ j=>simp at c d;exact V j a b q c d
    ·refine .inr ⟨fun w=>?_,by simp[z]⟩;simp only[Instr.findAsking,Sem.run_bind,E false w l,Result.andThen_ok,bM,bH];exact x w
   ·cases h
  ·cases h
theorem zS5:∀{e:List EK}{c:List AV}{b:List Value},rP e c=true->RelL C c b->RelL D c b
 |[],[],b,_,d=>by rw[d.inv_nil];exact .nil|[],_::_,_,h,_=>by simp[rP]at h|_::_,[],_,h,_=>by simp[rP]at h|k::e,a::c,b,h,d=>by
  obtain⟨x,b,rfl,f,g⟩:=d.inv_cons;simp only[rP,bR]at h;exact .cons (YT h.1 f) (zS5 h.2 g)
theorem yZ3(hi:Inv B C h w){t O et:TypeId}{x:List EK}{fs:Array Field}(ht:P.underlying t=some (.map O et))(u:P.underlying O=some (.struct fs))(K:gN P 100 O=some x){l:Nat}{g:List AV}{v e1:AV}{e2 e3 z:Value}{J:aA}{n I:List (AV×AV)}(hx:Rel C (.map l) e2)(hy:Rel C (.agg g) e3)(hz:Rel C v z)(g2:rP x g=true)(f3:g.length=x.length)(hf:frz h v=some (e1,J))(L:J[l]?=some (.map n))(hp:kZ x g e1 n=some I):∃D w',(Instr.mapUpdate t e2 e3 z).run P w=.ok () w'/\C.Le D/\Inv B D (J.set l (.map I)) w'/\Keep B w w':=by
 obtain⟨D,W,H,X,Y,d5⟩:=tA hi hf hz;obtain⟨f,rfl,c2⟩:=sJ hy;have c1:f.size=x.length:=by have:=c2.1;simp at this;omega
 cases hx with|map _ b Z=>
  obtain⟨V,y,r,Q,o,a,S,T,U,A⟩:=H.ok l _ L;rw[Y,Z]at Q;cases Q;have d:D.bl l=some b:=by rw[Y];exact Z
  have N:RelL (Cx.pure D.im) g f.toList:=zS5 g2 c2;have c3:Rel (Cx.pure D.im) (.agg g) (.agg f):=.agg g f (by simpa using N.1) fun i c q hc hq=>N.2 i c q hc (by simpa using hq);have g1:n.length=y.toList.length:=by simpa using S
  rcases zo4 u K N f3 c3 X n y.toList 0 I g1 (fun i k v m p q=>T i k v m p (by simpa using q)) hp with⟨i,u0,key,E,F,b3,b4,b5,b6⟩|⟨E,F⟩
  ·have M:(Instr.mapUpdate t (.map (some b)) (.agg f) z).run P w=.ok () (World.put w b (.map (y.modify i fun m=>{m with key:=.agg f,val:=z}) r)):=by
    have hg:(y[i]?).map (·.key)=some key:=by simpa using F
    simp only[Instr.mapUpdate,Sem.run_bind,run_underlying ht,Result.andThen_ok,getObj,Sem.run,a,zR u K c1,AB u (E w),eT];simp[hg,Instr.keyThatStays,b3,setObj,Sem.run,a,World.put]
   refine⟨D,_,M,W,tU H L d (by simp[aU,d]) a (fun c e f1=>by simp) o ?_ (fun V s=>by simp[aU,d]at s;exact s.symm) (fun _ _ _ _=>by simp),tN o a (fun c=>by simp)⟩;refine⟨b,_,r,d,o,vK a,?_,(fun j k v m p q=>?_),by simpa using U,fun j m q=>?_⟩;·simpa using b5
   ·refine b6 j k v m p ?_;rw[<-Array.toList_modify,uJ];exact q
   ·rw[wH]at q;split at q
    ·simp only[bS]at q;obtain⟨m0,q1,rfl⟩:=q;exact A j m0 q1
    ·exact A j m q
  ·subst F;have M:(Instr.mapUpdate t (.map (some b)) (.agg f) z).run P w=.ok () (World.put w b (.map (y.push {key:=.agg f,val:=z,born:=r}) (r+1))):=by
    simp only[Instr.mapUpdate,Sem.run_bind,run_underlying ht,Result.andThen_ok,getObj,Sem.run,a,zR u K c1,AB u (E w)];simp[setObj,Sem.run,a,World.put]
   refine⟨D,_,M,W,tU H L d (by simp[aU,d]) a (fun c e f1=>by simp) o ?_ (fun V s=>by simp[aU,d]at s;exact s.symm) (fun _ _ _ _=>by simp),tN o a (fun c=>by simp)⟩;refine⟨b,_,r+1,d,o,vK a,by simp[S],(fun j k' v' m p q=>?_),by simp[U],fun j m q=>?_⟩;rotate_left
   ·rw[sK]at q;split at q
    ·rename_i e;cases q;show r=j;omega
    ·exact A j m q
   by_cases hj:j<n.length
   ·rw[aX hj]at p;rw[sK,if_neg (by omega)]at q;exact T j k' v' m p q
   ·rw[dY (by omega)]at p;have f2:j-n.length=0:=by
     rcases DF (j-n.length)with e|e;·exact e
     ·rw[lX (by simp;omega)]at p;cases p
    rw[f2]at p;simp at p;obtain⟨rfl,rfl⟩:=p;rw[sK,if_pos (by omega)]at q;cases q;exact⟨c3,X⟩
end
section
variable{P:Program}{B:Base}{C D:Cx}{h:aA}{w w':World}
theorem yZ7(K:Inv B C h w){t S H:TypeId}{e:EK}(ht:P.underlying t=some (.map S H))(hk:xF P S=some e){z:AV}(hz:sB P H=some z){l:Nat}{k:AV}{x y:Value}{a:List (AV×AV)}(hx:Rel C (.map l) x)(hy:Rel C k y)(b2:isKey e k=true)(M:h[l]?=some (.map a))(Y:iP e k a=some none):∃u w',(Instr.mapEntry t x y).run P w=.ok u w'/\Inv B C (h.set l (.map (a++[(k,z)]))) w'/\Rel C (.tup [z,.int .i64 a.length]) u/\Keep B w w':=by
 obtain⟨d,L,X⟩:=zJ3 hk;have J:(match(generalizing:=false)e with|.s=>d=.string|.i=>∃q,d=.int q|.b=>d=.bool):=by cases e<;>exact X
 obtain⟨v,Q,c1⟩:=TK (C:=Cx.pure C.im) hz;cases hx with|map _ b n=>
  obtain⟨W,T,f,A,s,g,E,F,U,V⟩:=K.ok l _ M;rw[n]at A;cases A;have O:Rel (Cx.pure C.im) k y:=YT b2 hy;have N:=ZN J O a T.toList 0 none (by simpa using E) (fun i k c2 m p q=>F i k c2 m p (by simpa using q)) Y;simp only at N;have b3:(Instr.mapEntry t (.map (some b)) y).run P w=.ok (.tuple #[v,goInt f]) (World.put w b (.map (T.push {key:=y,val:=v,born:=f}) (f+1))):=by
   simp only[Instr.mapEntry,Sem.run_bind,run_underlying ht,Result.andThen_ok,getObj,Sem.run,g,run_checkKey J L,Instr.findKey,run_underlying L,N,Sem.run_pure,c1];simp[setObj,Sem.run,g,World.put]
  refine⟨_,_,b3,tU K M n (by simp[aU,n]) g (fun c e c3=>by simp) s ?_ (fun W I=>by simp[aU,n]at I;exact I.symm) (fun _ _ _ _=>by simp),?_,tN s g (fun c=>by simp)⟩
  ·refine⟨b,_,f+1,n,s,vK g,by simp[E],(fun j k' v' m p q=>?_),by simp[U],fun j m q=>?_⟩;rotate_left
   ·rw[sK]at q;split at q
    ·rename_i e;cases q;show f=j;omega
    ·exact V j m q
   by_cases Z:j<a.length
   ·rw[aX Z]at p;rw[sK,if_neg (by omega)]at q;exact F j k' v' m p q
   ·rw[dY (by omega)]at p;have b1:j-a.length=0:=by
     rcases DF (j-a.length)with e|e;·exact e
     ·rw[lX (by simp;omega)]at p;cases p
    rw[b1]at p;simp at p;obtain⟨rfl,rfl⟩:=p;rw[sK,if_pos (by omega)]at q;cases q;exact⟨O,Q⟩
  ·refine .tup _ #[v,goInt f] rfl (fun i c u o r=>?_);match i with
   |0=>simp at o r;subst o r;exact Q.mono C.frozen_le|1=>
    simp at o r;subst o r;rw[show(f:Int)=(a.length:Int)by omega];exact .int _ _|_+2=>simp at o
theorem zw7{a:Array MapEntry}(b:∀(i:Nat)m,a[i]?=some m->m.born=i){i:Nat}(c:i<a.size):a.findIdx? (fun e=>(e.born:Int)==(i:Int))=some i:=by
 rw[Array.findIdx?_eq_some_iff_getElem];refine⟨c,?_,fun j d=>?_⟩;·have:=b i a[i] (Array.getElem?_eq_getElem c);simp[this]
 ·have:=b j a[j] (Array.getElem?_eq_getElem (by omega));simp[this];omega
theorem yI2(X:Inv B C h w){t:TypeId}{l i:Nat}{k v u O:AV}{x s z:Value}{n:aA}{e:List (AV×AV)}(hx:Rel C (.map l) x)(hs:Rel C (.int .i64 (i:Int)) s)(hz:Rel C v z)(W:frz h v=some (u,n))(N:n[l]?=some (.map e))(M:e[i]?=some (k,O)):∃D w',(Instr.entryStore t x s z).run P w=.ok () w'/\C.Le D/\Inv B D (n.set l (.map (e.set i (k,u)))) w'/\Keep B w w':=by
 obtain⟨D,U,I,V,J,d5⟩:=tA X W hz;rw[dK hs];cases hx with|map _ b K=>
  obtain⟨T,y,H,E,g,a,Q,F,S,d⟩:=I.ok l _ N;rw[J,K]at E;cases E;have f:D.bl l=some b:=by rw[J];exact K
  have Y:i<e.length:=(aF.1 M).1;have Z:(Instr.entryStore t (.map (some b)) (.int .i64 (i:Int)) z).run P w=.ok () (World.put w b (.map (y.modify i fun m=>{m with val:=z}) H)):=by
   simp only[Instr.entryStore,Sem.run_bind,getObj,Sem.run,a,Result.andThen_ok,asInt,asIntOf,Sem.run_pure,zw7 d (show i<y.size by omega)];simp[setObj,Sem.run,a,World.put]
  refine⟨D,_,Z,U,tU I N f (by simp[aU,f]) a (fun c b1 b2=>by simp) g ?_ (fun T L=>by simp[aU,f]at L;exact L.symm) (fun _ _ _ _=>by simp),tN g a (fun c=>by simp)⟩;refine⟨b,_,H,f,g,vK a,by simpa using Q,(fun j k' v' m p q=>?_),by simpa using S,fun j m q=>?_⟩
  ·rw[wH]at q;by_cases o:i=j
   ·subst o;rw[if_pos rfl]at q;rw[fL Y]at p;cases p;simp only[bS]at q;obtain⟨r,A,rfl⟩:=q;exact⟨(F i k O r M A).1,V⟩
   ·rw[if_neg o]at q;rw[eY o]at p;exact F j k' v' m p q
  ·rw[wH]at q;split at q
   ·simp only[bS]at q;obtain⟨r,A,rfl⟩:=q;exact d j r A
   ·exact d j m q
end
structure Holds(I:Nat->Nat->Option Value)(w:World):Prop where
 cell:∀b o u,I b o=some u->w.cell? ⟨b,o,none⟩=some u
 one:∀b o u,I b o=some u->u.oneCell'=true
structure Grown(w:World)(I J:Nat->Nat->Option Value):Prop where
 up:∀b o u,I b o=some u->J b o=some u
 down:∀b o u,J b o=some u->b<w.heap.size->I b o=some u
structure GvHolds(gv:Gv)(I:Nat->Nat->Option Value)(w:World):Prop where
 gl:∀g r,gv g=some r->Rel (Cx.pure I) (.fptr r 0) (.pointer (some ⟨g,0,none⟩))tb:∀g cs,gv.tb g=some cs->∃T fz,w.heap[g]?=some (.cells cs.toArray T fz)
def dP(P:Program)(c:Gv)(f:FuncId)(F:List AV->Option AV):Prop:=∀(I:Nat->Nat->Option Value)(w:World)(a:List AV)(r:AV)(b:Array Value),Holds I w->GvHolds c I w->RelL (Cx.pure I) a b.toList->F a=some r->Calls P f b w fun e w'=>∃v J,e=.returned v/\Grown w I J/\Holds J w'/\Rel (Cx.pure J) r v/\Below w.heap.size w w'
def gG(P:Program)(c:Gv)(f:FuncId)(F:List AV->aA->Option (AV×aA)):Prop:=∀(B:Base)(C:Cx)(h:aA)(w:World)(a:List AV)(r:AV)(h':aA)(b:Array Value),B.gv=c->Inv B C h w->RelL C a b.toList->F a h=some (r,h')->Calls P f b w fun e w'=>∃v D,e=.returned v/\C.Le D/\Inv B D h' w'/\Rel D r v/\Keep B w w'
def YOK(P:Program)(B:Base)(Y:Nat->List AV->aA->Option (AV×aA)):Prop:=∀(a:Base),B.Up a->∀(k:Nat)(c:List AV)(h:aA)(v:AV)(h':aA),Y k c h=some (v,h')->∀(C:Cx)(w:World)(b:Nat)(d:Array Value),C.bl k=some b->Inv a C h w->RelL C c d.toList->YieldAt Fence.wide 0 P b d w fun e w'=>∃u D,e=.returned u/\C.Le D/\Inv a D h' w'/\Rel D v u/\Keep a w w'
def mF(F:RdF)(y:List AV->aA->Option (AV×aA)):Nat->Nat->aA->aA->Prop
 |0,_,_,_=>False|N+1,j,h,h'=>match F j h with
  |none=>False|some (none,a)=>h'=a|some (some c,a)=>match y c a with
   |some (.bool true,b)=>mF F y N (j+1) b h'|some (.bool false,b)=>h'=b|_=>False
def VI(P:Program)(d:Gv)(f:FuncId)(F:ItF):Prop:=∀(B:Base)(C:Cx)(h h':aA)(w:World)(a:List AV)(c:Array Value)(k b N:Nat)(Y:Nat->List AV->aA->Option (AV×aA)),B.gv=d->Inv B C h w->RelL C a c.toList->C.bl k=some b->YOK P B Y->mF (F a h) (Y k) N 0 h h'->Calls P f (#[.func (.yield b) #[] #[]]++c) w fun e w'=>∃v D,e=.returned v/\C.Le D/\Inv B D h' w'/\Keep B w w'
def CT.OK(P:Program)(a:Gv)(f:FuncId):CT->Prop
 |.pure F=>dP P a f F|.gen F=>gG P a f F|.iter F=>VI P a f F
def Enters(P:Program)(f:FuncId):Prop:=∀a w,(callFunc f a).run P w=.ok (.enter f a) w
structure GamOK(P:Program)(gv:Gv)(G:Gam):Prop where
 enters:∀f c,G f=some c->Enters P f
 ok:∀f c,G f=some c->c.OK P gv f
 noy:∀k args h,G.y k args h=none
structure GamB(P:Program)(B:Base)(G:Gam):Prop where
 enters:∀f c,G f=some c->Enters P f
 ok:∀f c,G f=some c->c.OK P B.gv f
 y:YOK P B G.y
theorem GamOK.b{P:Program}{B:Base}{G:Gam}(h:GamOK P B.gv G):GamB P B G:=⟨h.enters,h.ok,fun a _ k b c v h' e=>by rw[h.noy]at e;cases e⟩
theorem GamB.up{P:Program}{B D:Base}{G:Gam}(h:GamB P B G)(a:B.Up D):GamB P D G:=by
 refine⟨h.enters,?_,fun E b=>h.y E (a.trans b)⟩;obtain⟨d,c,rfl,_,_⟩:=a;exact h.ok
theorem GamOK.withY{P:Program}{B:Base}{G:Gam}{Y:Nat->List AV->aA->Option (AV×aA)}(h:GamOK P B.gv G)(a:YOK P B Y):GamB P B {G with y:=Y}:=⟨h.enters,h.ok,a⟩
section
variable{P:Program}{B:Base}{C D:Cx}{h:aA}{w w':World}{G:Gam}
theorem Inv.holds(a:Inv B C h w):Holds C.im w:=⟨a.im,a.one⟩
mutual theorem zY1:∀{v:AV}{u:Value},scalar v=true->Rel C v u->Rel D v u
 |.bool b,u,_,h=>by rw[jG h];exact .bool b|.int k n,u,_,h=>by rw[dK h];exact .int k n|.str s,u,_,h=>by rw[eD h];exact .str s|.tup e,u,d,h=>by cases h with|tup p us j h=>exact .tup _ _ j (fun i c v f g=>zY2 (by simpa[scalar]using d) (us:=us.toList) ⟨by simpa using j,fun i c v f g=>h i c v f (by simpa using g)⟩|>.2 i c v f (by simpa using g))
 |.agg _,_,d,_|.sl _,_,d,_|.tsl _,_,d,_|.nils,_,d,_|.own _ _ _,_,d,_|.win _ _ _ _,_,d,_|.ptr _ _,_,d,_|.fptr _ _,_,d,_|.eptr _ _ _ _,_,d,_|.gptr _ _,_,d,_|.nilp,_,d,_|.map _,_,d,_|.nilm,_,d,_|.fn _ _,_,d,_|.mth _ _,_,d,_|.nilf,_,d,_|.iface _ _,_,d,_|.nili,_,d,_|.yld _,_,d,_|.junk,_,d,_=>by simp[scalar]at d theorem zY2:∀{e:List AV}{us:List Value},MS e=true->RelL C e us->RelL D e us
 |[],us,_,h=>by rw[h.inv_nil];exact .nil|a::o,us,d,h=>by
  obtain⟨u,q,rfl,l,m⟩:=h.inv_cons;simp only[MS,bR]at d;exact .cons (zY1 d.1 l) (zY2 d.2 m)end
theorem yu9(m:GamB P B G)(i:Inv B C h w){f:FuncId}{d:List AV}{j:Array Value}{r:AV}{h':aA}(s:RelL C d j.toList)(a:dE G f d h=some (r,h')):Calls P f j w fun e w'=>∃v D,e=.returned v/\C.Le D/\Inv B D h' w'/\Rel D r v/\Keep B w w':=by
 unfold dE at a;split at a
 ·rename_i F k;have N:dP P B.gv f F:=m.ok f _ k;split at a
  ·rename_i t Q;split at a
   ·rename_i S E;have K:xA h d=some (t,dC h (eZ d)):=by simp[xA,Q]
    obtain⟨D,z,c,A,T,U⟩:=zy2 i K s;have n:=N D.im w t S j c.holds ⟨c.gl,fun g y L=>(c.tb g y L).2⟩ A E;split at a
    ·rename_i O;cases a;refine n.mono fun e w' l=>?_;obtain⟨v,J,k1,k2,k3,k4,k5⟩:=l;exact⟨v,C,k1,.refl C,i.grow k5,zY1 O k4,jK i k5⟩
    ·cases a;refine n.mono fun e w' l=>?_;obtain⟨v,J,k1,k2,k3,k4,k5⟩:=l;have q:D.Le {D with im:=J}:=⟨k2.up,fun _ _ x=>x,fun _ _ _ x=>x⟩;have I:Ext w D {D with im:=J}:=⟨q,fun b o H=>by
     show J b o=D.im b o;cases p:D.im b o with
     |some u=>exact k2.up _ _ _ p|none=>cases M:J b o with
      |none=>rfl|some u=>have:=k2.down _ _ _ M H;rw[p]at this;cases this⟩;exact⟨v,{D with im:=J},k1,z.trans q,c.extend I k5 k3.cell k3.one c.fr c.fv,k4.mono ⟨fun _ _ _ x=>x,(fun _ _ x=>by cases x),(fun _ _ _ x=>by cases x)⟩,jK i k5⟩
   ·cases a
  ·cases a
 ·rename_i F k;exact m.ok f _ k B C h w d r h' j rfl i s a
 ·cases a
def XA:Op->Option (AO×List Operand)
 |.call {callee:=.value (.func f),args,..}=>some (.call f,args.toList)|.call {callee:=.value x,args,..}=>some (.callv,x::args.toList)|_=>none
def PE(P:Program):Op->Option (AO×List Operand)
 |.entry g=>some (.ent,[g])|.lookup t x i j=>match P.underlying t with
  |some (.map a f)=>(match P.underlying a with
   |some (.struct _)=>(match gN P 100 a,sB P f with
    |some b,some z=>some (.lookA b j z,[x,i])|_,_=>none)|_=>none)|_=>none
 |.mapUpdate t m k v=>match P.underlying t with
  |some (.map a _)=>(match P.underlying a with
   |some (.struct _)=>(gN P 100 a).map fun b=>(.mapupA b,[m,k,v])|_=>none)|_=>none
 |.insert t m k v=>match P.underlying t with
  |some (.map a _)=>(match P.underlying a with
   |some (.struct _)=>(gN P 100 a).map fun b=>(.mapupA b,[m,k,v])|_=>none)|_=>none
 |.binOp c t x (.const (.slice none 0 0)) _=>match P.underlying t with
  |some (.slice _)=>(match c with
   |.eql=>some (.isnil false,[x])|.neq=>some (.isnil true,[x])|_=>none)|_=>none
 |.binOp c t x (.const .nilIface) _=>match P.underlying t with
  |some (.interface _)=>(match c with
   |.eql=>some (.isnili false,[x])|.neq=>some (.isnili true,[x])|_=>none)|_=>none
 |.binOp c t x (.const (.pointer none)) _=>match P.underlying t with
  |some (.pointer _)=>(match c with
   |.eql=>some (.isnilp false,[x])|.neq=>some (.isnilp true,[x])|_=>none)|_=>none
 |.convert s d x=>match P.underlying s,P.underlying d with
  |some (.slice e),some .string=>(match P.underlying e with
   |some (.int .u8)=>some (.b2s,[x])|_=>none)|some .string,some (.slice e)=>(match P.underlying e with
   |some (.int .u8)=>some (.s2b,[x])|_=>none)|_,_=>none
 |.call {callee:=.builtin .copy,args,argTypes}=>match args.toList,argTypes.toList with
  |[s,x],[t,l]=>(match P.underlying t with
   |some (.slice e)=>(match dU P e,P.underlying l with
    |some n,some (.slice _)=>some (.cpy false n,[s,x])|some n,some .string=>if n=1 then some (.cpy true n,[s,x])else none|_,_=>none)|_=>none)|_,_=>none
 |.mapEntry t m k=>match P.underlying t with
  |some (.map a f)=>(match xF P a,sB P f with
   |some e,some z=>some (.ment e z,[m,k])|_,_=>none)|_=>none
 |.entryStore _ m s x=>some (.estore,[m,s,x])|_=>none
def XB(P:Program)(own:Bool):Op->Option (AO×List Operand)
 |.slice t x b a c=>if own then(match P.underlying t with
  |some (.slice e)=>(match dU P e with
   |some n=>some (.slcf n b.isSome a.isSome c.isSome,x::(b.toList++a.toList++c.toList))|none=>none)|_=>none)else none|_=>none
def JO(P:Program)(own:Bool)(o:Oper):Option (AO×List Operand):=match XA o.op with
 |some r=>some r|none=>match XB P own o.op with
  |some r=>some r|none=>match PC P own o.op with
   |some r=>some r|none=>match JM P own o.type o.op with
    |some r=>some r|none=>match PE P o.op with
     |some r=>some r|none=>iL P o.op
def tY(P:Program)(R:Value->World->Prop):Result Next->Prop
 |.ok (.value u) w'=>R u w'|.ok .skip w'=>R undef w'|.ok (.enter f b) w'=>Calls P f b w' fun e a=>∃v,e=.returned v/\R v a|.ok (.round l f g c d) w'=>RoundIn Fence.wide 0 P l f g c d w' fun e a=>∃v,e=.returned v/\R v a|_=>False
theorem ZX(f:FuncId)(args:Array Value)(a:Array Value):Deferred.ofValue (.func (.func f) #[] a) args=(pure {target:=.fn (.func f) a,args:=args}:Sem Deferred):=by simp[Deferred.ofValue]
theorem XM(d:GamB P B G)(k:Inv B C h w){f:FuncId}{b:List AV}{a:Array Value}{r:AV}{h':aA}(l:RelL C b a.toList)(g:dE G f b h=some (r,h')):tY P (fun u w'=>∃D,C.Le D/\Inv B D h' w'/\Rel D r u/\Keep B w w') ((callFunc f a).run P w):=by
 have j:Enters P f:=by cases i:G f with
  |none=>simp[dE,i]at g|some c=>exact d.enters f c i
 rw[j a w];exact(yu9 d k l g).mono fun e w'⟨v,D,k1,k2⟩=>⟨v,k1,D,k2⟩
theorem xp4(a:BinOp)(t:TypeId)(x y:Operand)(p q:Option Addr)(l c d b:Nat)(w:World):(eqGuard a t x y (.slice p l c) (.slice q d b)).run P w=.ok () w:=by cases a<;>simp[eqGuard]
theorem xp5{t e:TypeId}{p:Option Addr}{l c:Nat}(d:Nat)(a:P.underlying t=some (.slice e)):(Op.equalIn (d+1) t (.slice p l c) (.slice none 0 0)).run P w=.ok (!p.isSome) w:=by
 rw[Op.equalIn];simp only[Sem.run_bind,run_underlying a,Result.andThen_ok];cases p<;>rfl
theorem xp6{t:TypeId}{e:_}{x:Value}(d:Nat)(a:P.underlying t=some (.interface e)){b:Bool}(c:(x=.nilIface/\b=false)\/((∃s v,x=.iface s v)/\b=true)):(Op.equalIn (d+1) t x .nilIface).run P w=.ok (!b) w:=by
 rw[Op.equalIn];simp only[Sem.run_bind,run_underlying a,Result.andThen_ok];rcases c with⟨rfl,rfl⟩|⟨⟨s,v,rfl⟩,rfl⟩<;>rfl
theorem xx7{a:AV}{x:Value}{b:Bool}(c:Rel C a x)(h:GJ a=some b):(x=.nilIface/\b=false)\/((∃s v,x=.iface s v)/\b=true):=by
 cases a<;>first|(simp[GJ]at h;done)|skip
 case nili=>simp only[GJ,aE]at h;subst h;cases c;exact .inl ⟨rfl,rfl⟩
 case iface t v=>simp only[GJ,aE]at h;subst h;cases c;exact .inr ⟨⟨_,_,rfl⟩,rfl⟩
theorem xp7{t e:TypeId}{x:Value}(d:Nat)(c:P.underlying t=some (.pointer e)){b:Bool}(f:(x=.pointer none/\b=false)\/((∃a,x=.pointer (some a))/\b=true)):(Op.equalIn (d+1) t x (.pointer none)).run P w=.ok (!b) w:=by
 rw[Op.equalIn];simp only[Sem.run_bind,run_underlying c,Result.andThen_ok];rcases f with⟨rfl,rfl⟩|⟨⟨a,rfl⟩,rfl⟩<;>rfl
theorem xx8{a:AV}{x:Value}{b:Bool}(c:Rel C a x)(h:GK a=some b):(x=.pointer none/\b=false)\/((∃p,x=.pointer (some p))/\b=true):=by
 cases a<;>first|(simp[GK]at h;done)|skip
 case nilp=>simp only[GK,aE]at h;subst h;cases c;exact .inl ⟨rfl,rfl⟩
 all_goals(simp only[GK,aE]at h;subst h;cases c;exact .inr ⟨⟨_,rfl⟩,rfl⟩)
theorem xx9{a:AV}{x:Value}{b:Bool}(d:Rel C a x)(h:there a=some b):∃p l c,x=.slice p l c/\p.isSome=b:=by
 cases a<;>first|(simp[there]at h;done)|skip
 case nils=>simp only[there,aE]at h;subst h;cases d;exact⟨_,_,_,rfl,rfl⟩
 case sl e=>cases e with
  |nil=>simp[there]at h|cons r f=>simp only[there,aE]at h;subst h;cases d;exact⟨_,_,_,rfl,rfl⟩
 case tsl e=>cases e with
  |nil=>simp[there]at h|cons r f=>simp only[there,aE]at h;subst h;cases d;exact⟨_,_,_,rfl,rfl⟩
 case own l g n=>cases n with
  |zero=>simp[there]at h|succ n=>simp only[there,aE]at h;subst h;cases d;exact⟨_,_,_,rfl,rfl⟩
theorem zN7{d:List EK}{t b f:TypeId}{g:Array Field}{m k x:Operand}{e:List AV}{v:AV}{h':aA}{ρ:Operand->Value}{S:Sem Next}(o:S=(do Instr.mapUpdate t (ρ m) (ρ k) (ρ x);pure Next.skip))(q:Inv B C h w)(A:P.underlying t=some (.map b f))(E:P.underlying b=some (.struct g))(r:gN P 100 b=some d)(z:RelL C e ([m,k,x].map ρ))(a:cG G h (.mapupA d) e=some (v,h')):tY P (fun u w'=>∃D,C.Le D/\Inv B D h' w'/\Rel D v u/\Keep B w w') (S.run P w):=by
 obtain⟨H,F,M,rfl,i,j,n⟩:=UK z;simp only[cG,AO.quiet,bM,bH]at a;cases H<;>first|(simp[bC]at a;done)|skip
 cases F<;>first|(simp[bC]at a;done)|skip
 rename_i l I;simp only[bC]at a;split at a
 ·rename_i c;split at a
  ·rename_i u L p;split at a
   ·rename_i J s;simp only[bS,aR]at a;obtain⟨K,y,rfl,rfl⟩:=a;obtain⟨D,w',k1,k2,k3,k4⟩:=yZ3 q A E r i j n c.1 c.2 p s y;subst o;have:Sem.run P (do Instr.mapUpdate t (ρ m) (ρ k) (ρ x);pure Next.skip) w=.ok .skip w':=by simp[k1]
    rw[this];exact⟨D,k2,k3,.junk _,k4⟩
   ·cases a
  ·cases a
 ·cases a
theorem xa4(y:Inv B C h w){o:Oper}{O:AO}{Z:List Operand}(c:PE P o.op=some (O,Z)){a2:List AV}{v:AV}{h':aA}{f:Operand->Value}(hρ:∀u,f (.const u)=u)(z:RelL C a2 (Z.map f))(d:cG G h O a2=some (v,h')):tY P (fun u w'=>∃D,C.Le D/\Inv B D h' w'/\Rel D v u/\Keep B w w') ((execOp f o).run P w):=by
 have E:∀b1,o.op=b1->execOp f o=execOp f {o with op:=b1}:=fun b1 e=>by rw[<-e]
 unfold PE at c;split at c
 ·rename_i it j;cases c;obtain⟨a,rfl,F⟩:=oS z;cases a<;>first|(simp[cG,AO.quiet,bV]at d;done)|skip
  rename_i l d2;cases d2 with
  |succ _=>simp[cG,AO.quiet,bV]at d|zero=>
   simp only[cG,AO.quiet,aM,bV]at d;split at d
   ·rename_i v0 hv;cases d;obtain⟨u,k1,k2⟩:=yH2 (P:=P) y F hv;rw[E _ j];have:(execOp f {o with op:=.entry it}).run P w=.ok (.value u) w:=by
     have H:∀S:Sem Value,S.run P w=.ok u w->Sem.run P (do pure (Next.value (<-S))) w=.ok (.value u) w:=fun S r=>by simp[r]
     exact H (Instr.entry (f it)) k1
    rw[this];exact⟨C,.refl C,y,k2,Keep.refl _ _⟩
   ·cases d
 ·rename_i t x i ok j;split at c
  ·rename_i kt et p;split at c
   ·rename_i fs Y;split at c
    ·rename_i ks f1 M hz;cases c;obtain⟨m,k,rfl,I,L⟩:=vR z;simp only[cG,AO.quiet,aM]at d;split at d
     ·rename_i v0 hv;cases d;obtain⟨u,k1,k2⟩:=yY0 y p Y M hz I L hv;rw[E _ j];have:(execOp f {o with op:=.lookup t x i ok}).run P w=.ok (.value u) w:=by
       have H:∀S:Sem Value,S.run P w=.ok u w->Sem.run P (do pure (Next.value (<-S))) w=.ok (.value u) w:=fun S r=>by simp[r]
       exact H (Instr.lookup t (f x) (f i) ok) k2
      rw[this];exact⟨C,.refl C,y,k1,Keep.refl _ _⟩
     ·cases d
    ·cases c
   ·cases c
  ·cases c
 ·rename_i t m k x j;split at c
  ·rename_i kt et p;split at c
   ·rename_i fs Y;simp only[bS,aR]at c;obtain⟨ks,M,rfl,rfl⟩:=c;rw[E _ j];exact zN7 (ρ:=f) (S:=execOp f {o with op:=.mapUpdate t m k x}) rfl y p Y M z d
   ·cases c
  ·cases c
 ·rename_i t m k x j;split at c
  ·rename_i kt et p;split at c
   ·rename_i fs Y;simp only[bS,aR]at c;obtain⟨ks,M,rfl,rfl⟩:=c;rw[E _ j];exact zN7 (ρ:=f) (S:=execOp f {o with op:=.insert t m k x}) rfl y p Y M z d
   ·cases c
  ·cases c
 ·rename_i op t x yt j;split at c
  ·rename_i e p;have K:∀g:Bool,(op=if g then .neq else .eql)->O=.isnil g->Z=[x]->tY P (fun u w'=>∃D,C.Le D/\Inv B D h' w'/\Rel D v u/\Keep B w w') ((execOp f o).run P w):=by
    rintro g X rfl rfl;obtain⟨a,rfl,F⟩:=oS z;simp only[cG,AO.quiet,aM,bV]at d;cases q:there a with
    |none=>simp[q]at d|some b=>
     simp only[q,dI,aE,aR]at d;obtain⟨rfl,rfl⟩:=d;obtain⟨d3,l,b2,A,hp⟩:=xx9 F q;rw[E _ j];have:(execOp f {o with op:=.binOp op t x (.const (.slice none 0 0)) yt}).run P w=.ok (.value (.bool (if g then b else !b))) w:=by
      have H:∀S:Sem Value,S.run P w=.ok (.bool (if g then b else !b)) w->Sem.run P (do pure (Next.value (<-S))) w=.ok (.value (.bool (if g then b else !b))) w:=fun S r=>by simp[r]
      refine H (do eqGuard op t x (.const (.slice none 0 0)) (f x) (f (.const (.slice none 0 0)));binOp op t (f x) (f (.const (.slice none 0 0))):Sem Value) ?_;rw[hρ,A];have J:=xp5 (P:=P) (w:=w) (p:=d3) (l:=l) (c:=b2) 9999 p;rw[hp]at J;subst X;cases g<;>simp[xp4,binOp,Op.equal,Op.maxDepth,J]
     rw[this];exact⟨C,.refl C,y,.bool _,Keep.refl _ _⟩
   split at c
   ·simp only[aE,aR]at c;exact K false rfl c.1.symm c.2.symm
   ·simp only[aE,aR]at c;exact K true rfl c.1.symm c.2.symm
   ·cases c
  ·cases c
 ·rename_i op t x yt j;split at c
  ·rename_i e p;have K:∀g:Bool,(op=if g then .neq else .eql)->O=.isnili g->Z=[x]->tY P (fun u w'=>∃D,C.Le D/\Inv B D h' w'/\Rel D v u/\Keep B w w') ((execOp f o).run P w):=by
    rintro g X rfl rfl;obtain⟨a,rfl,F⟩:=oS z;simp only[cG,AO.quiet,aM,bV]at d;cases q:GJ a with
    |none=>simp[q]at d|some b=>
     simp only[q,dI,aE,aR]at d;obtain⟨rfl,rfl⟩:=d;have A:=xx7 F q;rw[E _ j];have:(execOp f {o with op:=.binOp op t x (.const .nilIface) yt}).run P w=.ok (.value (.bool (if g then b else !b))) w:=by
      have H:∀S:Sem Value,S.run P w=.ok (.bool (if g then b else !b)) w->Sem.run P (do pure (Next.value (<-S))) w=.ok (.value (.bool (if g then b else !b))) w:=fun S r=>by simp[r]
      refine H (do eqGuard op t x (.const .nilIface) (f x) (f (.const .nilIface));binOp op t (f x) (f (.const .nilIface)):Sem Value) ?_;rw[hρ];have J:=xp6 (P:=P) (w:=w) 9999 p A;subst X;rcases A with⟨A,rfl⟩|⟨⟨s,u,A⟩,rfl⟩<;>rw[A]at J⊢<;>cases g<;>simp[eqGuard,binOp,Op.equal,Op.maxDepth,J]
     rw[this];exact⟨C,.refl C,y,.bool _,Keep.refl _ _⟩
   split at c
   ·simp only[aE,aR]at c;exact K false rfl c.1.symm c.2.symm
   ·simp only[aE,aR]at c;exact K true rfl c.1.symm c.2.symm
   ·cases c
  ·cases c
 ·rename_i op t x yt j;split at c
  ·rename_i e p;have K:∀g:Bool,(op=if g then .neq else .eql)->O=.isnilp g->Z=[x]->tY P (fun u w'=>∃D,C.Le D/\Inv B D h' w'/\Rel D v u/\Keep B w w') ((execOp f o).run P w):=by
    rintro g X rfl rfl;obtain⟨a,rfl,F⟩:=oS z;simp only[cG,AO.quiet,aM,bV]at d;cases q:GK a with
    |none=>simp[q]at d|some b=>
     simp only[q,dI,aE,aR]at d;obtain⟨rfl,rfl⟩:=d;have A:=xx8 F q;rw[E _ j];have:(execOp f {o with op:=.binOp op t x (.const (.pointer none)) yt}).run P w=.ok (.value (.bool (if g then b else !b))) w:=by
      have H:∀S:Sem Value,S.run P w=.ok (.bool (if g then b else !b)) w->Sem.run P (do pure (Next.value (<-S))) w=.ok (.value (.bool (if g then b else !b))) w:=fun S r=>by simp[r]
      refine H (do eqGuard op t x (.const (.pointer none)) (f x) (f (.const (.pointer none)));binOp op t (f x) (f (.const (.pointer none))):Sem Value) ?_;rw[hρ];have J:=xp7 (P:=P) (w:=w) 9999 p A;subst X;rcases A with⟨A,rfl⟩|⟨⟨u,A⟩,rfl⟩<;>rw[A]at J⊢<;>cases g<;>simp[eqGuard,binOp,Op.equal,Op.maxDepth,J]
     rw[this];exact⟨C,.refl C,y,.bool _,Keep.refl _ _⟩
   split at c
   ·simp only[aE,aR]at c;exact K false rfl c.1.symm c.2.symm
   ·simp only[aE,aR]at c;exact K true rfl c.1.symm c.2.symm
   ·cases c
  ·cases c
 ·rename_i s f2 x j;split at c
  ·rename_i e hs hd;split at c
   ·rename_i V;cases c;obtain⟨a,rfl,F⟩:=oS z;simp only[cG,AO.quiet,aM,bV]at d;cases hr:rowsOf h a with
    |none=>simp[hr]at d|some e3=>cases q:qZ e3 with
     |none=>simp[hr,q]at d|some bs=>
      simp only[hr,q,dI,aE,aR]at d;obtain⟨rfl,rfl⟩:=d;have:=yp7 y hs V hd F hr q;rw[E _ j];simp only[execOp,Sem.run_bind,this,Result.andThen_ok];exact⟨C,.refl C,y,.str _,Keep.refl _ _⟩
   ·cases c
  ·rename_i e hs hd;split at c
   ·rename_i V;cases c;obtain⟨a,rfl,F⟩:=oS z;cases a with
    |str s=>
     simp only[cG,AO.quiet,bM,bH,bC]at d;split at d
     ·rename_i q;injection d with d;injection d with e1 e2;subst e1 e2;have A:=eD F;obtain⟨u,D,w',k1,k2,k3,k4,k5⟩:=xp8 (P:=P) y hs hd V q;rw[E _ j];simp only[execOp,Sem.run_bind,A,k1,Result.andThen_ok];exact⟨D,k2,k3,k4,k5⟩
     ·cases d|_=>simp[cG,AO.quiet,bC]at d
   ·cases c
  ·cases c
 ·rename_i args argTypes j;split at c
  ·rename_i s x t tx c2 d1;have b3:args=#[s,x]:=by rw[<-oE];simpa using c2
   have c1:argTypes=#[t,tx]:=by rw[<-oE];simpa using d1
   subst b3 c1;have cp:∀{a1:Bool}{n:Nat}{e:TypeId},P.underlying t=some (.slice e)->dU P e=some n->(a1=true->P.underlying tx=some .string/\n=1)->(a1=false->∃e,P.underlying tx=some (.slice e))->RelL C a2 ([s,x].map f)->cG G h (.cpy a1 n) a2=some (v,h')->tY P (fun u w'=>∃D,C.Le D/\Inv B D h' w'/\Rel D v u/\Keep B w w') ((execOp f o).run P w):=by
    intro a1 n e p W k1 k2 z d;obtain⟨a,b,rfl,I,L⟩:=vR z;simp only[cG,AO.quiet,bM,bH]at d;cases a<;>first|(simp[bC]at d;done)|skip
    rename_i l i1 m;obtain⟨u,D,w',N,Q,T,U,g5⟩:=yA2 (ty:=o.type) y p W I L k1 k2 d;rw[E _ j];have em:#[s,x].map f=#[f s,f x]:=by simp
    rw[<-em]at N;have:(execOp f {o with op:=.call {callee:=.builtin .copy,args:=#[s,x],argTypes:=#[t,tx]}}).run P w=.ok (.value u) w':=by
     have e:∀(S:Sem Value),S.run P w=.ok u w'->Sem.run P (do pure (Next.value (<-S))) w=.ok (.value u) w':=fun S r=>by simp[r]
     exact e _ N
    rw[this];exact⟨D,Q,T,U,g5⟩
   split at c
   ·rename_i e p;split at c
    ·rename_i n e2 W a3;simp only[aE,aR]at c;obtain⟨rfl,rfl⟩:=c;exact cp p W (fun e=>by cases e) (fun _=>⟨e2,a3⟩) z d
    ·rename_i n W a3;split at c
     ·rename_i I;cases c;exact cp p W (fun _=>⟨a3,I⟩) (fun e=>by cases e) z d
     ·cases c
    ·cases c
   ·cases c
  ·cases c
 ·rename_i t m k j;split at c
  ·rename_i kt et p;split at c
   ·rename_i e f1 M hz;cases c;obtain⟨a,b,rfl,I,L⟩:=vR z;simp only[cG,AO.quiet,bM,bH]at d;cases a<;>first|(simp[bC]at d;done)|skip
    rename_i l;simp only[bC]at d;split at d
    ·rename_i c3;split at d
     ·rename_i es hl;split at d
      ·rename_i hg;cases d;obtain⟨u,w',N,Q,T,U⟩:=yZ7 (P:=P) y p M hz I L c3 hl hg;rw[E _ j];have:(execOp f {o with op:=.mapEntry t m k}).run P w=.ok (.value u) w':=by
        have e:∀(S:Sem Value),S.run P w=.ok u w'->Sem.run P (do pure (Next.value (<-S))) w=.ok (.value u) w':=fun S r=>by simp[r]
        exact e _ N
       rw[this];exact⟨C,.refl C,Q,T,U⟩
      ·cases d
     ·cases d
    ·cases d
   ·cases c
  ·cases c
 ·rename_i t m s x j;cases c;obtain⟨a,b,b2,rfl,I,L,h3⟩:=UK z;simp only[cG,AO.quiet,bM,bH]at d;cases a<;>first|(simp[bC]at d;done)|skip
  rename_i l;cases b<;>first|(simp[bC]at d;done)|skip
  rename_i kd i;cases kd<;>first|(simp[bC]at d;done)|skip
  simp only[bC]at d;split at d
  ·rename_i h0;split at d
   ·rename_i u f3 hf;split at d
    ·rename_i es hl;simp only[bS,aR]at d;obtain⟨⟨kk,ov⟩,V,rfl,rfl⟩:=d;obtain⟨n,rfl⟩:∃n:Nat,i=n:=⟨i.toNat,by omega⟩;obtain⟨D,w',N,Q,T,U⟩:=yI2 (P:=P) (t:=t) y I L h3 hf hl V;rw[E _ j];have:(execOp f {o with op:=.entryStore t m s x}).run P w=.ok .skip w':=by
      have e:∀(S:Sem Unit),S.run P w=.ok () w'->Sem.run P (do S;pure Next.skip) w=.ok .skip w':=fun S r=>by simp[r]
      exact e _ N
     rw[this];exact⟨D,Q,T,.junk _,U⟩
    ·cases d
   ·cases d
  ·cases d
 ·cases c
theorem xg6(K:GamB P B G)(j:Inv B C h w){own:Bool}{i:Oper}{I:AO}{U:List Operand}(c:JO P own i=some (I,U)){s:List AV}{v:AV}{h':aA}{g:Operand->Value}(O:∀u,g (.const u)=u)(d2:∀f,g (.func f)=.func (.func f) #[] #[])(m:RelL C s (U.map g))(d:cG G h I s=some (v,h')):tY P (fun u w'=>∃D,C.Le D/\Inv B D h' w'/\Rel D v u/\Keep B w w') ((execOp g i).run P w):=by
 unfold JO at c;split at c;·
  rename_i r A;cases c;have z:∀o,i.op=o->execOp g i=execOp g {i with op:=o}:=fun o e=>by rw[<-e]
  unfold XA at A;split at A
  ·rename_i f args _ q;cases A;simp only[cG,AO.quiet,bM,bH,bC]at d;have E:RelL C s (args.map g).toList:=by simpa using m
   have:=XM K j E d;rw[z _ q];simpa[execOp,resolve,d2,ZX,invoke]using this
  ·rename_i x args _ f3 q;cases A;simp only[cG,AO.quiet,bM,bH]at d;cases s with
   |nil=>simp[bC]at d|cons a J=>
    obtain⟨u,us,e,p,H⟩:=m.inv_cons;simp only[fE,List.cons.injEq]at e;obtain⟨rfl,rfl⟩:=e;cases a<;>first|(simp[bC]at d;done)|skip
    case yld e3=>
     simp only[bC]at d;generalize F:g x=y at p;cases p with|yld _ b hb=>
      obtain⟨fn,f1,Y,Z,q1,q2⟩:=K.y B (.refl B) e3 J h v h' d C w b (args.map g) hb j (by simpa using H);rw[z _ q];have L:(execOp g {i with op:=.call {callee:=.value x,args:=args,argTypes:=‹_›}}).run P w=.ok (.round b fn f1 Y Z) w:=by simpa[execOp,resolve,F,Deferred.ofValue,invoke]using q1
      rw[L];refine RoundIn.mono q2 fun e w' hk=>?_;obtain⟨u,D,k1,k2⟩:=hk;exact⟨u,k1,D,k2⟩
    case mth f v0=>
     simp only[bC]at d;generalize F:g x=y at p;cases p with|mth _ _ y0 h0=>
      have E:RelL C (v0::J) (#[y0]++args.map g).toList:=by
       rw[Array.toList_append];exact RelL.cons h0 (by simpa using H)
      have:=XM K j E d;rw[z _ q];simpa[execOp,resolve,F,Deferred.ofValue,invoke]using this
    rename_i f b2;simp only[bC]at d;generalize F:g x=y at p;cases p with|fn _ _ cs hl c2=>
     have E:RelL C (J++b2) (args.map g++cs).toList:=by
      rw[Array.toList_append];exact RelL.append (by simpa using H) ⟨by simpa using hl,fun d3 b1 v c hv=>c2 d3 b1 v c (by simpa using hv)⟩
     have:=XM K j E d;rw[z _ q];simpa[execOp,resolve,F,ZX,invoke]using this
  ·cases A
 ·rename_i f2;split at c
  ·rename_i r k;cases c;have z:∀o,i.op=o->execOp g i=execOp g {i with op:=o}:=fun o e=>by rw[<-e]
   unfold XB at k;split at k
   ·rename_i t x Q N T q;split at k
    ·split at k
     ·rename_i e ht;split at k
      ·rename_i n hn;cases k;simp only[cG,AO.quiet,bM,bH]at d;cases s with
       |nil=>simp[RelL]at m|cons a J=>
        obtain⟨y,us,e,p,H⟩:=m.inv_cons;injection e with e1 L;subst e1 L;simp only[bC]at d;split at d
        ·rename_i g1 r g2 b3;obtain⟨l',r',m',V,W,X,rfl,rfl,rfl⟩:=ya1 H b3;obtain⟨u,D,k1,k2,k3,k4⟩:=xt1 j ht hn p l' r' m' d;rw[z _ q];have e9:∀(S:Sem Value),S.run P w=.ok u w->Sem.run P (do pure (Next.value (<-S))) w=.ok (.value u) w:=fun S hS=>by simp[hS]
         have:(execOp g {i with op:=.slice t x Q N T}).run P w=.ok (.value u) w:=by
          refine e9 (Instr.sliceAt t (g x) (Q.map g) (N.map g) (T.map g)) ?_;rw[V,W,X];exact k1
         rw[this];exact⟨D,k2,k3,k4,Keep.refl _ _⟩
        ·cases d
      ·cases k
     ·cases k
    ·cases k
   ·cases k
  split at c
  ·rename_i r c1;cases c;obtain⟨n,u,D,w',k1,k2,k3⟩:=yh4 (G:=G) j c1 rfl m d;rw[k1];rcases k2 with rfl|⟨rfl,rfl⟩;·exact⟨D,k3⟩
   ·exact⟨D,k3⟩
  split at c
  ·rename_i r l;cases c;have M:I.quiet=false:=by
    unfold JM at l;split at l<;>(try split at l)<;>(try split at l)<;>(try split at l)<;>(try split at l)<;>(first|(cases l;done)|(cases l;rfl))
   simp only[cG,M,bM,bH]at d;obtain⟨n,u,D,w',k1,k2,k3⟩:=yG6 j l s v h' g i O rfl rfl m d;rw[k1];rcases k2 with rfl|⟨rfl,rfl⟩;·exact⟨D,k3⟩
   ·exact⟨D,k3⟩
  ·split at c
   ·rename_i r c3;cases c;exact xa4 j c3 O m d
   have M:I.quiet=true:=by
    unfold iL at c;split at c<;>(try split at c)<;>(try split at c)<;>(try split at c)<;>(try split at c)<;>(try split at c)<;>(try split at c)<;>(try split at c)<;>(first|(cases c;done)|(cases c;rfl))
   simp only[cG,M,aM]at d;split at d
   ·rename_i v' d1;simp only[aE,aR]at d;obtain⟨rfl,rfl⟩:=d;obtain⟨u,k1,k2⟩:=xk0 j c s v' g i rfl m d1;rw[k2 w (Below.refl _ _)];exact⟨C,.refl C,j,k1,Keep.refl _ _⟩
   ·cases d
end
end Go.Proofs.YtpefhfiehfkocaaGreatDoor
