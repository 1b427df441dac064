/- What the rows' readings say of the arg -/
import Derived.Test.YtpefhfiehfkocaaGreatDoorNN
import Derived.Test.YtpefhfiehfkocaaGreatDoorRwA
namespace Go.Proofs.YtpefhfiehfkocaaGreatDoor
open Go.RowKit
section
open Go.WideShapes
theorem u9:Tryz.prog.underlying 9=some .string:=by kernel_rfl
theorem u3:Tryz.prog.underlying 3=some (.int .i64):=by kernel_rfl
theorem fl9:EG Tryz.prog 8 9=true:=by kernel_rfl
set_option maxRecDepth 100000 in theorem yZ6{W:World}(h:W.ShapedOpen Tryz.prog):∃m,W.cell? ⟨0,0,none⟩=some (.int .i64 m):=by
 obtain⟨b,d,e,f⟩:=h.1 0 #[.int .i64 0] 3 (of_decide_eq_true (by kernel_rfl)) (by kernel_rfl);obtain⟨l,k1,k2,k3⟩:=f (by kernel_rfl);have i:l=[3]:=Option.some.inj (k1.symm.trans (show Tryz.prog.cellTypes Tryz.prog.depth 3=some [3]by kernel_rfl));subst i;have g:b.size=1:=e;obtain⟨u,c,a⟩:=k3 0 (b[0]'(by omega)) (by simp);simp at c;subst c;generalize j:b[0]'(by omega)=v at a;have:∃m,v=.int .i64 m:=by
  unfold Cell.ok at a;rw[u3]at a;cases v<;>simp at a;rename_i k n;exact⟨n,by rw[a.1]⟩
 obtain⟨m,rfl⟩:=this;refine⟨m,?_⟩;rw[cell_of_heap d];simp[g,j]
section
variable{H:Type}{enc:TypeId×Value->H}{w:World}{base:Nat}{spare:Nat->Bool}{held:Bool}
theorem xd4{b:Nat}{a:List Value}{x:DataW H×List MemPlace}(h:DataW.trod enc Tryz.prog w base spare held b 9 a=some x):∃s:Bs,x.1=.lit (.string s):=by
 obtain⟨s,_,rfl,_⟩:=DataW.trod_string u9 h;exact⟨_,rfl⟩
theorem xd5{d:Nat}{c:List Value}{x:DataW H×List MemPlace}(h:DataW.trod enc Tryz.prog w base spare held d 9 c=some x)(a:Rows.uptoBulk x.1<=1048576):∃s:Bs,x.1=.lit (.string s)/\s.length<big:=by
 obtain⟨s,b⟩:=xd4 h;refine⟨s,b,?_⟩;rw[b]at a;simp[Rows.uptoBulk]at a;unfold big;omega
structure LaidT(W:World)(m:GvP):Prop where
 n0:W.cell? ⟨0,0,none⟩=some (.int .i64 m.m)h1:∃T fz,W.heap[5]?=some (.cells (Lib.pow10Tab.map fun z=>Value.int .u64 z).toArray T fz)h4:∃T fz,W.heap[3]?=some (.cells #[.iface m.t4 m.p4] T fz)h5:∃T fz,W.heap[4]?=some (.cells #[.iface m.t5 m.p5] T fz)
theorem zG8{P:Program}{w:World}{sp:Nat->Bool}{b:Nat}{t:TypeId}{e:Array (String×TypeId)}{a:List Value}{n:String}{d:DataW Unit}{p:List MemPlace}(c:P.underlying t=some (.interface e))(h:DataW.trod (fun _=>()) P w 0 sp false b t a=some (.iface n d,p)):∃u v,a=[.iface u v]:=by cases b with
 |zero=>simp[DataW.trod]at h|succ b=>match a with
  |[]=>simp[DataW.trod,c]at h|x::y::r=>simp[DataW.trod,c]at h|[x]=>cases x with
   |iface u v=>exact⟨u,v,rfl⟩|_=>simp[DataW.trod,c]at h
theorem zg7{P:Program}{W:World}{n:String}{g:Nat}{d:Array Value}(e:P.globalNamed n=some g)(a:W.var? P n=some d):∃T b,W.heap[g]?=some (.cells d T b):=by
 unfold World.var? at a;rw[e]at a;simp only[Option.bind_some]at a;split at a
 ·rename_i c T b f;injection a with a;subst a;exact⟨T,b,f⟩
 ·cases a
theorem yu8{f:FuncId}{F:List AV->Option AV}{m:GvP}(l:dP Tryz.prog (gv1 m) f F){W:World}(d:LaidT W m){args:Array Value}{avs:List AV}(p:RelL (Cx.pure (mU W)) avs args.toList)(k:F avs=some (.bool true)):Calls Tryz.prog f args W fun e i=>e=.returned (.bool true)/\Below W.heap.size W i:=by
 have n:GvHolds (gv1 m) (mU W) W:=by
  refine⟨?_,?_⟩
  ·intro g r a;simp only[gv1]at a;split at a
   ·rename_i e;subst e;injection a with a;subst a;refine .fptr _ 0 0 0 (fun _=>.int .i64 m.m) (fun j c b=>?_) (fun j c b=>?_)
    ·have h:j=0:=by cases j with
      |zero=>rfl|succ j=>simp at b
     subst h;exact zG9 d.n0 rfl
    ·have h:j=0:=by cases j with
      |zero=>rfl|succ j=>simp at b
     subst h;simp at b;subst b;exact .int .i64 m.m
   ·cases a
  ·intro g q a;simp only[gv1]at a;split at a;·rename_i e;subst e;injection a with a;subst a;exact d.h1
   ·split at a;·rename_i e;subst e;injection a with a;subst a;exact d.h4
    ·split at a;·rename_i e;subst e;injection a with a;subst a;exact d.h5
     ·cases a
 refine(l (mU W) W avs (.bool true) args (yT0 W) n p k).mono fun e i o=>?_;obtain⟨v,J,rfl,_,_,h4,h5⟩:=o;rw[jG h4];exact⟨rfl,h5⟩
end
theorem gn1:Tryz.prog.globalNamed "internal/strconv.uint64pow10"=some 5:=by kernel_rfl
theorem gn6:Tryz.prog.globalNamed "strconv.ErrSyntax"=some 3:=by kernel_rfl
theorem gn7:Tryz.prog.globalNamed "strconv.ErrRange"=some 4:=by kernel_rfl
theorem gt1:(Tryz.prog.globals[5]?).map (·.type)=some 763:=by kernel_rfl
theorem gt6:(Tryz.prog.globals[3]?).map (·.type)=some 424:=by kernel_rfl
theorem gt7:(Tryz.prog.globals[4]?).map (·.type)=some 424:=by kernel_rfl
theorem xB3:Tryz.prog.underlying 763=some (.array 20 207):=by kernel_rfl
theorem xB2:Tryz.prog.underlying 207=some (.int .u64):=by kernel_rfl
theorem yu5:Tryz.prog.cellsOf 207=1:=by kernel_rfl
theorem yu6:Tryz.prog.cellsOf 763=20:=by kernel_rfl
theorem u76:∃a,Tryz.prog.underlying 424=some (.interface a):=⟨_,Tryz.underlying424⟩
abbrev QY:List (String×DataW Unit):=Rows.componentCopiesUptoRow.laid
theorem yW7(W:World):laidMetH Tryz.prog QY W=laidMet Tryz.prog QY W:=by kernel_rfl
theorem yW8{W:World}(I:W.ShapedOpen Tryz.prog)(h:laidMetH Tryz.prog QY W):∃m,LaidT W m:=by
 rw[yW7]at h;obtain⟨n,P⟩:=yZ6 I;obtain⟨Q,J,_⟩:=h;have K:DataW.LaidVars Tryz.prog W [("unicode/utf8.first",Rows.laid_unicode_utf8_first),("unicode/utf8.acceptRanges",Rows.laid_unicode_utf8_acceptRanges),("strconv.ErrSyntax",Rows.laid_strconv_ErrSyntax),("strconv.ErrRange",Rows.laid_strconv_ErrRange),("internal/strconv.uint64pow10",Rows.laid_internal_strconv_uint64pow10),("math/bits.deBruijn32tab",Rows.laid_math_bits_deBruijn32tab),("math/bits.deBruijn64tab",Rows.laid_math_bits_deBruijn64tab)] Q:=J;obtain⟨_,_,_,_,_,_,_,_,_,_,L,_⟩:=K;obtain⟨_,_,_,_,_,_,_,_,_,_,M,_⟩:=L;obtain⟨F,T,u,X,p4,q4,q,r,s,t,N,_⟩:=M;obtain⟨G,U,v,Y,p5,q5,k,l,o,p,O,_⟩:=N;obtain⟨E,S,a,V,p1,q1,f,g,i,j,_,_⟩:=O;obtain rfl:5=E:=Option.some.inj (gn1.symm.trans f);obtain rfl:4=G:=Option.some.inj (gn7.symm.trans k);obtain rfl:3=F:=Option.some.inj (gn6.symm.trans q);obtain rfl:763=S:=Option.some.inj (gt1.symm.trans g);obtain rfl:424=U:=Option.some.inj (gt7.symm.trans l);obtain rfl:424=T:=Option.some.inj (gt6.symm.trans r);have x:a.toList=Lib.pow10Tab.map fun z=>Value.int .u64 z:=Lib.cells_of_tab (zs:=Lib.pow10Tab) xB3 xB2 yu5 yu6 j;obtain⟨Z,b⟩:=u76;obtain⟨c,e,C⟩:=zG8 b p;obtain⟨u4,d,A⟩:=zG8 b t;have y:a=(Lib.pow10Tab.map fun z=>Value.int .u64 z).toArray:=by rw[<-x]
 have D:v=#[.iface c e]:=by rw[<-Array.toList_inj];simpa using C
 have B:u=#[.iface u4 d]:=by rw[<-Array.toList_inj];simpa using A
 subst y D B;exact⟨⟨n,u4,d,c,e⟩,P,zg7 gn1 i,zg7 gn6 s,zg7 gn7 o⟩
end
end Go.Proofs.YtpefhfiehfkocaaGreatDoor
