/- What the rows' readings say of the arg -/
import Derived.Test.YtdebajodkallbaaGreatDoorS9
import Derived.Test.YtdebajodkallbaaGreatDoorRwA
namespace Go.Proofs.YtdebajodkallbaaGreatDoor
open Go.RowKit
section
open Go.WideShapes
theorem u9:Tryz.prog.underlying 9=some .string:=by kernel_rfl
theorem u3:Tryz.prog.underlying 3=some (.int .i64):=by kernel_rfl
theorem xv4:Tryz.prog.underlying 23=some (.slice 57):=by kernel_rfl
theorem xm8:∃a b,Tryz.prog.underlying 57=some (.struct #[a,b])/\a.type=9/\b.type=9:=⟨_,_,Tryz.underlying57,rfl,rfl⟩
theorem zN1:∃a b c,Tryz.prog.underlying 25=some (.struct #[a,b,c])/\a.type=9/\b.type=23/\c.type=23:=⟨_,_,_,Tryz.underlying25,rfl,rfl,rfl⟩
theorem fl9:BE Tryz.prog 8 9=true:=by kernel_rfl
theorem yz4:BE Tryz.prog 8 25=true:=by kernel_rfl
set_option maxRecDepth 100000 in theorem yY0{W:World}(h:W.ShapedOpen Tryz.prog):∃m,W.cell? ⟨0,0,none⟩=some (.int .i64 m):=by
 obtain⟨b,d,e,f⟩:=h.1 0 #[.int .i64 0] 3 (of_decide_eq_true (by kernel_rfl)) (by kernel_rfl);obtain⟨l,k1,k2,k3⟩:=f (by kernel_rfl);have i:l=[3]:=Option.some.inj (k1.symm.trans (show Tryz.prog.cellTypes Tryz.prog.depth 3=some [3]by kernel_rfl));subst i;have g:b.size=1:=e;obtain⟨u,c,a⟩:=k3 0 (b[0]'(by omega)) (by simp);simp at c;subst c;generalize j:b[0]'(by omega)=v at a;have:∃m,v=.int .i64 m:=by
  unfold Cell.ok at a;rw[u3]at a;cases v<;>simp at a;rename_i k n;exact⟨n,by rw[a.1]⟩
 obtain⟨m,rfl⟩:=this;refine⟨m,?_⟩;rw[cell_of_heap d];simp[g,j]
section
variable{H:Type}{enc:TypeId×Value->H}{w:World}{base:Nat}{spare:Nat->Bool}{held:Bool}
theorem QU{b:Nat}{a:List Value}{x:DataW H×List MemPlace}(h:DataW.trod enc Tryz.prog w base spare held b 9 a=some x):∃s:Bs,x.1=.lit (.string s):=by
 obtain⟨s,_,rfl,_⟩:=DataW.trod_string u9 h;exact⟨_,rfl⟩
theorem xa9{d:Nat}{c:List Value}{x:DataW H×List MemPlace}(h:DataW.trod enc Tryz.prog w base spare held d 9 c=some x)(a:Rows.uptoBulk x.1<=1048576):∃s:Bs,x.1=.lit (.string s)/\s.length<big:=by
 obtain⟨s,b⟩:=QU h;refine⟨s,b,?_⟩;rw[b]at a;simp[Rows.uptoBulk]at a;unfold big;omega
theorem xa8{l:Nat}{f:List Value}{x:DataW H×List MemPlace}(h:DataW.trod enc Tryz.prog w base spare held l 57 f=some x):∃t:Touch,gG x.1=t.row/\t.path.length<=Rows.uptoBulk x.1/\t.dig.length<=Rows.uptoBulk x.1:=by
 obtain⟨j,k,o,g,i⟩:=xm8;obtain⟨r,n,_,rfl,_,m,e⟩:=DataW.trod_struct o h;match r,m with
 |[s,u],_=>
  have c:=e 0 j rfl;have d:=e 1 k rfl;rw[g]at c;rw[i]at d;obtain⟨p,a⟩:=QU (x:=s) (by simpa using c);obtain⟨q,b⟩:=QU (x:=u) (by simpa using d);refine⟨⟨p,q⟩,?_,?_,?_⟩;·simp[gG,vP,a,b,Touch.row]
  ·simp[Rows.uptoBulk,Rows.uptoBulkAll,a,b];omega
  ·simp[Rows.uptoBulk,Rows.uptoBulkAll,a,b];omega
theorem zD9{k:Type}{e:TypeId}{P:Program}{row:k->List AV}{Q:k->Nat->Prop}(i:∀a n m,n<=m->Q a n->Q a m)(one:∀(f:Nat)(d:List Value)(x:DataW H×List MemPlace),DataW.trod enc P w base spare held f e d=some x->∃a,gG x.1=row a/\Q a (Rows.uptoBulk x.1)):∀(c:List (DataW H×List MemPlace)),(∀y∈c,∃f d,DataW.trod enc P w base spare held f e d=some y)->∃g:List k,yS (c.map (·.1))=g.map row/\g.length=c.length/\∀a∈g,Q a (Rows.uptoBulkAll (c.map (·.1)))
 |[],_=>⟨[],by simp[yS],rfl,by simp⟩|y::c,h=>by
  obtain⟨f,d,q⟩:=h y (by simp);obtain⟨a,l,o⟩:=one f d y q;obtain⟨g,p,h4,h5⟩:=zD9 i one c (fun z r=>h z (by simp[r]));refine⟨a::g,by simp[yS,l,p],by simp[h4],fun b j=>?_⟩;simp only[List.map_cons,Rows.uptoBulkAll];rcases List.mem_cons.1 j with rfl|j;·exact i _ _ _ (by omega) o
  ·exact i _ _ _ (by omega) (h5 b j)
theorem yw7{e:TypeId}{P:Program}{n d:Nat}{a:Addr}{c:List (DataW H×List MemPlace)}(k:c.length=d)(j:∀i,i<d->(w.cells? base (a.add (i*P.cellsOf e)) (P.cellsOf e)).bind (DataW.trod enc P w base spare held n e)=c[i]?):∀y∈c,∃g b,DataW.trod enc P w base spare held g e b=some y:=by
 intro y m;obtain⟨i,f⟩:=List.mem_iff_getElem?.1 m;have l:i<d:=by rw[<-k];exact(List.getElem?_eq_some_iff.1 f).1
 have:=j i l;rw[f]at this;obtain⟨b,_,h⟩:=Option.bind_eq_some_iff.1 this;exact⟨n,b,h⟩
theorem zE0{e:Nat}{d:List Value}{x:DataW H×List MemPlace}(h:DataW.trod enc Tryz.prog w base spare held e 23 d=some x):∃b:List Touch,gG x.1=[.sl (gU b)]/\b.length<=Rows.uptoBulk x.1/\∀t∈b,t.dig.length<=Rows.uptoBulk x.1:=by
 rcases DataW.trod_slice xv4 h with⟨_,rfl⟩|⟨a,v,s,c,f,n,_,_,rfl,_,_,_,o,m,_,_⟩;·exact⟨[],by simp[gG,gU],by simp,by simp⟩
 ·obtain⟨b,g,u,i⟩:=zD9 (row:=Touch.row) (Q:=fun t n=>t.dig.length<=n) (fun _ _ _ h k=>Nat.le_trans k h) (fun e d x h=>by obtain⟨t,q,_,r⟩:=xa8 h;exact⟨t,q,r⟩) c (yw7 o m);have j:=bulks.slice_le (c.map (·.1)) (f.map (·.1));have l:=bulks.slice_elems (c.map (·.1)) (f.map (·.1));refine⟨b,by simp[gG,g,gU],?_,fun t p=>?_⟩;·simp at j⊢;omega
  ·have:=i t p;simp only at l⊢;omega
theorem xa7{B:Nat}{o:List Value}{x:DataW H×List MemPlace}(h:DataW.trod enc Tryz.prog w base spare held B 25 o=some x)(C:Rows.uptoBulk x.1<=1048576):∃b:Bun,gG x.1=[.str b.man,.sl (gU b.pap),.sl (gU b.src)]/\WR b:=by
 obtain⟨y,z,A,E,s,u,v⟩:=zN1;obtain⟨I,n,_,rfl,_,D,a⟩:=DataW.trod_struct E h;match I,D with
 |[j,k,l],_=>
  have d:=a 0 y rfl;have e:=a 1 z rfl;have f:=a 2 A rfl;rw[s]at d;rw[u]at e;rw[v]at f;obtain⟨m,p⟩:=QU (x:=j) (by simpa using d);obtain⟨g,q,K,F⟩:=zE0 (x:=k) (by simpa using e);obtain⟨i,r,L,G⟩:=zE0 (x:=l) (by simpa using f);have J:Rows.uptoBulk j.1+(Rows.uptoBulk k.1+Rows.uptoBulk l.1)<=1048576:=by simp[Rows.uptoBulk,Rows.uptoBulkAll]at C;omega
  refine⟨⟨m,g,i⟩,by simp[gG,vP,p,q,r],by show g.length<big;unfold big;omega,by show i.length<big;unfold big;omega,List.all_eq_true.2 fun t c=>?_,List.all_eq_true.2 fun t c=>?_⟩;·have:=F t c;simp only[decide_eq_true_eq];omega
  ·have:=G t c;simp only[decide_eq_true_eq];omega
structure LaidT(W:World)(m:GvP):Prop where
 n0:W.cell? ⟨0,0,none⟩=some (.int .i64 m.m)h1:∃T fz,W.heap[1]?=some (.cells (Lib.pow10Tab.map fun z=>Value.int .u64 z).toArray T fz)h4:∃T fz,W.heap[6]?=some (.cells #[.iface m.t4 m.p4] T fz)h5:∃T fz,W.heap[7]?=some (.cells #[.iface m.t5 m.p5] T fz)
theorem zv7{P:Program}{w:World}{sp:Nat->Bool}{b:Nat}{t:TypeId}{e:Array (String×TypeId)}{a:List Value}{n:String}{d:DataW Unit}{p:List MemPlace}(c:P.underlying t=some (.interface e))(h:DataW.trod (fun _=>()) P w 0 sp false b t a=some (.iface n d,p)):∃u v,a=[.iface u v]:=by cases b with
 |zero=>simp[DataW.trod]at h|succ b=>match a with
  |[]=>simp[DataW.trod,c]at h|x::y::r=>simp[DataW.trod,c]at h|[x]=>cases x with
   |iface u v=>exact⟨u,v,rfl⟩|_=>simp[DataW.trod,c]at h
theorem ZR{P:Program}{W:World}{n:String}{g:Nat}{d:Array Value}(e:P.globalNamed n=some g)(a:W.var? P n=some d):∃T b,W.heap[g]?=some (.cells d T b):=by
 unfold World.var? at a;rw[e]at a;simp only[Option.bind_some]at a;split at a
 ·rename_i c T b f;injection a with a;subst a;exact⟨T,b,f⟩
 ·cases a
theorem yn3{f:FuncId}{F:List AV->Option AV}{m:GvP}(l:dW Tryz.prog (gv1 m) f F){W:World}(d:LaidT W m){args:Array Value}{avs:List AV}(p:RelL (Cx.pure (mR W)) avs args.toList)(k:F avs=some (.bool true)):Calls Tryz.prog f args W fun e i=>e=.returned (.bool true)/\Below W.heap.size W i:=by
 have n:GvHolds (gv1 m) (mR W) W:=by
  refine⟨?_,?_⟩
  ·intro g r a;simp only[gv1]at a;split at a
   ·rename_i e;subst e;injection a with a;subst a;refine .fptr _ 0 0 0 (fun _=>.int .i64 m.m) (fun j c b=>?_) (fun j c b=>?_)
    ·have h:j=0:=by cases j with
      |zero=>rfl|succ j=>simp at b
     subst h;exact zv8 d.n0 rfl
    ·have h:j=0:=by cases j with
      |zero=>rfl|succ j=>simp at b
     subst h;simp at b;subst b;exact .int .i64 m.m
   ·cases a
  ·intro g q a;simp only[gv1]at a;split at a;·rename_i e;subst e;injection a with a;subst a;exact d.h1
   ·split at a;·rename_i e;subst e;injection a with a;subst a;exact d.h4
    ·split at a;·rename_i e;subst e;injection a with a;subst a;exact d.h5
     ·cases a
 refine(l (mR W) W avs (.bool true) args (yR8 W) n p k).mono fun e i o=>?_;obtain⟨v,J,rfl,_,_,h4,h5⟩:=o;rw[jJ h4];exact⟨rfl,h5⟩
end
theorem gn1:Tryz.prog.globalNamed "internal/strconv.uint64pow10"=some 1:=by kernel_rfl
theorem gn6:Tryz.prog.globalNamed "strconv.ErrSyntax"=some 6:=by kernel_rfl
theorem gn7:Tryz.prog.globalNamed "strconv.ErrRange"=some 7:=by kernel_rfl
theorem gt1:(Tryz.prog.globals[1]?).map (·.type)=some 296:=by kernel_rfl
theorem gt6:(Tryz.prog.globals[6]?).map (·.type)=some 98:=by kernel_rfl
theorem gt7:(Tryz.prog.globals[7]?).map (·.type)=some 98:=by kernel_rfl
theorem xu8:Tryz.prog.underlying 296=some (.array 20 169):=by kernel_rfl
theorem xu7:Tryz.prog.underlying 169=some (.int .u64):=by kernel_rfl
theorem yn1:Tryz.prog.cellsOf 169=1:=by kernel_rfl
theorem yn2:Tryz.prog.cellsOf 296=20:=by kernel_rfl
theorem u76:∃a,Tryz.prog.underlying 98=some (.interface a):=⟨_,Tryz.underlying98⟩
abbrev QG:List (String×DataW Unit):=Rows.bundleSealsUptoRow.laid
theorem yV1(W:World):laidMetH Tryz.prog QG W=laidMet Tryz.prog QG W:=by kernel_rfl
theorem yV2{W:World}(F:W.ShapedOpen Tryz.prog)(h:laidMetH Tryz.prog QG W):∃m,LaidT W m:=by
 rw[yV1]at h;obtain⟨n,N⟩:=yY0 F;obtain⟨O,G,_⟩:=h;have I:DataW.LaidVars Tryz.prog W [("unicode/utf8.first",Rows.laid_unicode_utf8_first),("unicode/utf8.acceptRanges",Rows.laid_unicode_utf8_acceptRanges),("strconv.ErrSyntax",Rows.laid_strconv_ErrSyntax),("strconv.ErrRange",Rows.laid_strconv_ErrRange),("internal/strconv.uint64pow10",Rows.laid_internal_strconv_uint64pow10),("math/bits.deBruijn32tab",Rows.laid_math_bits_deBruijn32tab),("math/bits.deBruijn64tab",Rows.laid_math_bits_deBruijn64tab)] O:=G;obtain⟨_,_,_,_,_,_,_,_,_,_,J,_⟩:=I;obtain⟨_,_,_,_,_,_,_,_,_,_,K,_⟩:=J;obtain⟨g4,Q,u,U,Z,q4,q,r,s,t,L,_⟩:=K;obtain⟨g5,S,v,V,p5,q5,k,l,o,p,M,_⟩:=L;obtain⟨E,P,a,T,Y,q1,f,g,i,j,_,_⟩:=M;obtain rfl:1=E:=Option.some.inj (gn1.symm.trans f);obtain rfl:7=g5:=Option.some.inj (gn7.symm.trans k);obtain rfl:6=g4:=Option.some.inj (gn6.symm.trans q);obtain rfl:296=P:=Option.some.inj (gt1.symm.trans g);obtain rfl:98=S:=Option.some.inj (gt7.symm.trans l);obtain rfl:98=Q:=Option.some.inj (gt6.symm.trans r);have x:a.toList=Lib.pow10Tab.map fun z=>Value.int .u64 z:=Lib.cells_of_tab (zs:=Lib.pow10Tab) xu8 xu7 yn1 yn2 j;obtain⟨X,b⟩:=u76;obtain⟨c,e,C⟩:=zv7 b p;obtain⟨u4,d,A⟩:=zv7 b t;have y:a=(Lib.pow10Tab.map fun z=>Value.int .u64 z).toArray:=by rw[<-x]
 have D:v=#[.iface c e]:=by rw[<-Array.toList_inj];simpa using C
 have B:u=#[.iface u4 d]:=by rw[<-Array.toList_inj];simpa using A
 subst y D B;exact⟨⟨n,u4,d,c,e⟩,N,ZR gn1 i,ZR gn6 s,ZR gn7 o⟩
end
end Go.Proofs.YtdebajodkallbaaGreatDoor
