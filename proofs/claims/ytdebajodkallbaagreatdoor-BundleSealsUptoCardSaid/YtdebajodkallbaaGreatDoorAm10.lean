/- Calls of the standard library that han -/
import Derived.Test.YtdebajodkallbaaGreatDoorAm9
import Derived.Shelf.Strings.Split
import Derived.Lib.Repeat
namespace Go.Proofs.YtdebajodkallbaaGreatDoor
open Go.RowKit Go.IntWalk
def rStr:REnc Bs:=rA eStr
@[simp]theorem xM5(s:Bs):rStr.enc s=[.str s]:=rfl
def dG(c:UInt8):Bs->List Bs
 |[]=>[[]]|b::r=>if b=c then[]::dG c r else match dG c r with
  |p::a=>(b::p)::a|[]=>[[b]]
theorem CD(c:UInt8):∀s,dG c s≠[]
 |[]=>by simp[dG]|b::r=>by
  unfold dG;split;·simp
  ·split<;>simp
theorem zP0(c:UInt8):∀s:Bs,Lib.splitK [c] 0 (Lib.count s [c]) s=dG c s
 |[]=>by simp[Lib.count_one,Lib.splitK,dG]|b::r=>by
  have a:=zP0 c r;by_cases h:b=c
  ·subst h;have d:Lib.index (b::r) [b]=0:=by rw[Lib.index_one];simp[Lib.indexByte]
   rw[Lib.count_cons_eq,Nat.add_comm 1];simp only[Lib.splitK,d];simp[a,dG]
  ·rw[Lib.count_cons_ne b c r h];have d:Lib.index (b::r) [c]=if Lib.index r [c]==-1 then-1 else Lib.index r [c]+1:=by rw[Lib.index_one,Lib.index_one];simp[Lib.indexByte,h]
   simp only[dG,h,bY];cases f:Lib.count r [c]with
   |zero=>
    rw[f]at a;simp only[Lib.splitK]at a⊢;rw[<-a]|succ k=>
    rw[f]at a;simp only[Lib.splitK]at a⊢;rw[d];by_cases g:Lib.index r [c]=-1
    ·simp only[g,BEq.rfl,bD]at a⊢;rw[<-a]
    ·have l:=Lib.index_ge r [c];have i:(Lib.index r [c]==-1)=false:=by simp[g]
     have j:(Lib.index r [c]+1==-1)=false:=by simp;omega
     simp only[i,dE,bY,j]at a⊢;rw[<-a];have e:(Lib.index r [c]+1).toNat=(Lib.index r [c]).toNat+1:=by omega
     simp[e]
theorem xg0{P:Program}{t:Gv}{f:FuncId}{F:List AV->Option AV}{ty:TypeId}(y:∀(I:Nat->Nat->Option Value)(w:World)(l:List AV)(r:AV)(n:Array Value),Holds I w->GvHolds t I w->RelL (Cx.pure I) l n.toList->F l=some r->∃d:List Bs,r=.sl (d.map rStr.enc)/\Calls P f n w fun e x=>e=.returned (.slice (some ⟨w.heap.size,0,none⟩) d.length d.length)/\x=w.alloc (.cells ((d.map fun s=>Value.string ⟨s.toArray⟩).toArray) ty)):dW P t f F:=by
 intro I w l r n m B J z;obtain⟨d,rfl,A⟩:=y I w l r n m B J z;refine A.mono fun e x C=>?_;obtain⟨rfl,rfl⟩:=C;have H:(w.alloc (.cells ((d.map fun s=>Value.string ⟨s.toArray⟩).toArray) ty)).heap[w.heap.size]?=some (.cells ((d.map fun s=>Value.string ⟨s.toArray⟩).toArray) ty (0,0)):=heap_alloc_new w _;have E:∀b o u,I b o=some u->b<w.heap.size:=fun b o u a=>rR (m.cell b o u a);refine⟨_,fun b o=>if b=w.heap.size then(d[o]?).map (fun s=>Value.string ⟨s.toArray⟩)else I b o,rfl,⟨fun b o u a=>?_,fun b o u a K=>?_⟩,⟨fun b o u a=>?_,fun b o u a=>?_⟩,?_,iA w _⟩
 ·show(if b=w.heap.size then _ else _)=_;rw[if_neg (by have:=E b o u a;omega)];exact a
 ·replace a:(if b=w.heap.size then(d[o]?).map (fun s=>Value.string ⟨s.toArray⟩)else I b o)=some u:=a;rw[if_neg (by omega)]at a;exact a
 ·replace a:(if b=w.heap.size then(d[o]?).map (fun s=>Value.string ⟨s.toArray⟩)else I b o)=some u:=a;split at a
  ·rename_i e;subst e;rw[cell_of_heap H];obtain⟨s,g,rfl⟩:=dJ.1 a;simp[g]
  ·have g:=m.cell b o u a;rw[Below.cell (iA w _) (p:=⟨b,o,none⟩) (rR g)];exact g
 ·replace a:(if b=w.heap.size then(d[o]?).map (fun s=>Value.string ⟨s.toArray⟩)else I b o)=some u:=a;split at a
  ·obtain⟨s,g,rfl⟩:=dJ.1 a;rfl
  ·exact m.one b o u a
 ·have D:d.length=(d.map rStr.enc).length:=by simp
  rw[D];refine .sl _ w.heap.size 0 _ 1 (fun i _=>.string ⟨((d[i]?).getD []).toArray⟩) (dA _) (fun i v h=>?_) (fun i v j c g k=>?_) (fun i v j c g k=>?_)
  ·simp only[tN,dJ]at h;obtain⟨s,_,rfl⟩:=h;rfl
  ·simp only[tN,dJ]at g;obtain⟨s,p,rfl⟩:=g;have q:j=0:=by cases j with
    |zero=>rfl|succ j=>simp at k
   subst q;simp[Cx.pure,p]
  ·simp only[tN,dJ]at g;obtain⟨s,p,rfl⟩:=g;have q:j=0:=by cases j with
    |zero=>rfl|succ j=>simp at k
   subst q;simp at k;subst k;simp only[p,Option.getD_some];exact .str s
def CQ:List AV->Option AV:=F2 eStr eStr (eSl rStr) fun s a=>match a with
 |[c]=>if s.length<4294967281 then some (dG c s)else none|_=>none
theorem xq1{P:Program}{j:Gv}{f:FuncId}{ty g:Nat}{m:Int}(z:j g=some [.int .i64 m])(x:∀(s a:ByteArray)(w:World),s.size<4294967281->w.cell? ⟨g,0,none⟩=some (.int .i64 m)->1<=a.size->Calls P f #[.string s,.string a] w fun e H=>e=.returned (.slice (some ⟨w.heap.size,0,none⟩) (Lib.countB s a+1) (Lib.countB s a+1))/\H=w.alloc (.cells ((Lib.splitB a 0 (Lib.countB s a) s).map Value.string).toArray ty)):dW P j f CQ:=by
 refine xg0 (ty:=ty) fun I w J r F u A d t=>?_;obtain⟨s,a,K,rfl,h,rfl⟩:=zX9 t;split at h
 ·rename_i c;split at h
  ·rename_i D;injection h with h;subst h;refine⟨dG c s,rfl,?_⟩;obtain⟨O,M,n,p,d⟩:=d.inv_cons;obtain⟨S,N,rfl,q,d⟩:=d.inv_cons;have:=d.inv_nil;subst this;have:=fM p;subst this;have:=fM q;subst this;have E:F=#[.string ⟨s.toArray⟩,.string ⟨[c].toArray⟩]:=by apply kP;simpa using n
   subst E;have C:w.cell? ⟨g,0,none⟩=some (.int .i64 m):=by
    have:=A.gl g _ z;cases this with|fptr _ _ b o L k1 k2=>
     have e:=k2 0 (.int .i64 m) rfl;have:=fF e;have i:=u.cell _ _ _ (k1 0 (.int .i64 m) rfl);rw[this]at i;simpa using i
   have k:=x ⟨s.toArray⟩ ⟨[c].toArray⟩ w (by rw[mY];exact D) C (by rw[mY];simp);have v:=Lib.splitB_all (⟨[c].toArray⟩:ByteArray) (by rw[mY];simp) 0 _ ⟨s.toArray⟩ rfl;have l:(Lib.splitB ⟨[c].toArray⟩ 0 (Lib.countB ⟨s.toArray⟩ ⟨[c].toArray⟩) ⟨s.toArray⟩).map (·.data.toList)=dG c s:=by rw[Lib.splitB_data];exact zP0 c s
   have y:(Lib.splitB ⟨[c].toArray⟩ 0 (Lib.countB ⟨s.toArray⟩ ⟨[c].toArray⟩) ⟨s.toArray⟩).map Value.string=(dG c s).map fun s=>Value.string ⟨s.toArray⟩:=by rw[<-l,List.map_map];rfl
   have B:(dG c s).length=Lib.countB ⟨s.toArray⟩ ⟨[c].toArray⟩+1:=by rw[<-l,kC];exact v
   rw[y,<-B]at k;exact k
  ·cases h
 ·cases h
section
variable{G:Gam}{ks:List MK}{Q:aY}{env fr:List (Nat×AV)}{h:aA}
@[simp]theorem xO1{Y:Nat->List AV->aA->Option (AV×aA)}{f:FuncId}:({G with y:=Y}:Gam).fn f=G.fn f:=rfl
end
mutual theorem QN{n m:Nat}(a:n<=m):∀{v:AV},low n v=true->low m v=true
 |.own l _ _,h=>by simp only[low,fU]at h⊢;omega|.win l _ _ _,h=>by simp only[low,fU]at h⊢;omega|.ptr l _,h=>by simp only[low,fU]at h⊢;omega|.eptr l _ _ _,h=>by simp only[low,fU]at h⊢;omega|.map l,h=>by simp only[low,fU]at h⊢;omega|.yld l,h=>by simp only[low,fU]at h⊢;omega|.agg c,h=>by simp only[low]at h⊢;exact EX a h|.tup c,h=>by simp only[low]at h⊢;exact EX a h|.fn _ c,h=>by simp only[low]at h⊢;exact EX a h|.mth _ v,h=>by simp only[low]at h⊢;exact QN a h|.iface _ v,h=>by simp only[low]at h⊢;exact QN a h|.bool _,_=>rfl|.int _ _,_=>rfl|.str _,_=>rfl|.sl _,_=>rfl|.tsl _,_=>rfl|.nils,_=>rfl|.fptr _ _,_=>rfl|.gptr _ _,_=>rfl|.nilp,_=>rfl|.nilm,_=>rfl|.nilf,_=>rfl|.nili,_=>rfl|.junk,_=>rfl theorem EX{n m:Nat}(a:n<=m):∀{b:List AV},bN n b=true->bN m b=true
 |[],_=>rfl|v::b,h=>by
  simp only[bN,bS]at h⊢;exact⟨QN a h.1,EX a h.2⟩end
theorem zA3{n m:Nat}(b:n<=m):∀{a:List (List AV)},uC n a=true->uC m a=true
 |[],_=>rfl|r::a,h=>by
  simp only[uC,bS]at h⊢;exact⟨EX b h.1,zA3 b h.2⟩
theorem yW8{n m:Nat}(a:n<=m){b:Blk}(h:gD n b=true):gD m b=true:=by cases b with
 |cellsT tg i=>exact EX a h|arrX c tg f g e wr=>cases c with
  |false=>rfl|true=>exact zA3 a h
 |mit k q seen d=>cases k with
  |none=>rfl|some k=>simp only[gD,fU]at h⊢;omega
 |_=>rfl
theorem WE{n m:Nat}(b:n<=m){h:aA}(k:cV n h=true):cV m h=true:=JY fun _ _ a=>yW8 b (EW k a)
theorem zz9{n l:Nat}{h:aA}{b:Blk}(k:cV n h=true)(d:gD n b=true):cV n (h.set l b)=true:=by
 refine JY fun i c a=>?_;rw[iY]at a;split at a
 ·split at a;·injection a with a;subst a;exact d
  ·cases a
 ·exact EW k a
theorem WC{n:Nat}{a b:aA}(e:cV n a=true)(f:cV n b=true):cV n (a++b)=true:=by
 refine JY fun i c d=>?_;rw[List.getElem?_append]at d;split at d;·exact EW e d
 ·exact EW f d
theorem sP{n:Nat}{fr:List (Nat×AV)}{a b:aA}(e:a.length=n)(d:bW n fr=true)(c:cV n a=true):trunc n fr (a++b)=a:=by
 have f:(a++b).take n=a:=by subst e;simp
 unfold trunc;rw[f,d,c];rfl
theorem yV3{a b:aA}:Leaves a (a++b):=⟨by simp,fun l c d=>.inr (by rw[gC (aV.1 d).1];exact d)⟩
theorem yV4{a:aA}:Leaves a a:=⟨dA _,fun _ _ b=>.inr b⟩
end Go.Proofs.YtdebajodkallbaaGreatDoor
