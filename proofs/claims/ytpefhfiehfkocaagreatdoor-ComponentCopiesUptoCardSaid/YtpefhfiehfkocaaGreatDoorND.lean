/- Manifests -/
import Derived.Test.YtpefhfiehfkocaaGreatDoorNC
namespace Go.Proofs.YtpefhfiehfkocaaGreatDoor
open Go.RowKit Go.IntWalk
structure Stand where
 np:Nat
 ns:Nat
 lp:Bs
 ls:Bs
section
variable{G:Gam}{h:aA}
end
structure Pkg where
 name:Bs
 ver:Bs
 rcp:Bs
 tree:List Touch
def pt(x:PD):Touch:=⟨x.1,x.2⟩
theorem zS8{n p:Bs}:(n++[47]).isPrefixOf p=true↔∃r,p=n++47::r:=by
 rw[List.isPrefixOf_iff_prefix];constructor;·rintro⟨r,rfl⟩;exact⟨r,by simp⟩
 ·rintro⟨r,rfl⟩;exact⟨r,by simp⟩
def before(a b:Touch):Prop:=a.path<b.path/\zO b.path a.path=false
theorem yd8:∀(t e:List Touch),e.Pairwise before->(NI e t=0↔(∀f∈t,eH f.path=true/\f.dig.length<=65536)/\(e++t).Pairwise before)
 |[],e,m=>by simp[NI,m]|f::r,e,m=>by
  rw[NI];by_cases l:eH f.path=false
  ·rw[if_pos l];constructor;·intro h;cases h
   ·rintro⟨h,_⟩;have:=(h f (by simp)).1;rw[l]at this;cases this
  ·rw[if_neg l];by_cases n:65536<f.dig.length
   ·rw[if_pos n];constructor;·intro h;cases h
    ·rintro⟨h,_⟩;have:=(h f (by simp)).2;omega
   ·rw[if_neg n];by_cases i:(e.getLast?.map fun g=>Op.bytesLess g.path f.path)=some false
    ·rw[if_pos i];constructor;·intro h;cases h
     ·rintro⟨_,h⟩;obtain⟨g,c,j⟩:=bS.1 i;have k:=(IU.1 h).2.2 g (List.mem_of_getLast? c) f (by simp);rw[bytesLess_eq]at j;have:=of_decide_eq_false j;exact absurd k.1 this
    ·rw[if_neg i];have v:∀g∈e,g.path<f.path:=by
      intro g c;cases j:e.getLast? with
      |none=>rw[List.getLast?_eq_none_iff]at j;subst j;cases c|some z=>
       rw[j]at i;have u:z.path<f.path:=by
        simp only[dI,aE]at i;rw[bytesLess_eq]at i;simpa using i
       obtain⟨y,rfl⟩:=List.getLast?_eq_some_iff.1 j;rcases iK.1 c with c|c;·exact List.lt_trans ((IU.1 m).2.2 g c z (by simp)).1 u
       ·obtain rfl:g=z:=by simpa using c
        exact u
     by_cases h4:e.any (fun g=>zO f.path g.path)=true
     ·rw[if_pos h4];constructor;·intro h;cases h
      ·rintro⟨_,h⟩;obtain⟨g,c,k⟩:=List.any_eq_true.1 h4;have:=((IU.1 h).2.2 g c f (by simp)).2;rw[k]at this;cases this
     ·rw[if_neg h4];have x:(e++[f]).Pairwise before:=by
       rw[IU];refine⟨m,by simp,fun a o b k=>?_⟩;obtain rfl:b=f:=by simpa using k
       refine⟨v a o,?_⟩;cases w:zO b.path a.path with
       |false=>rfl|true=>exact absurd (List.any_eq_true.2 ⟨a,o,w⟩) h4
      rw[yd8 r (e++[f]) x,jT];simp only[List.singleton_append];constructor
      ·rintro⟨a,b⟩;refine⟨fun g c=>?_,b⟩;rcases dD.1 c with rfl|c;·exact⟨by simpa using l,by omega⟩
       ·exact a g c
      ·rintro⟨a,b⟩;exact⟨fun g c=>a g (lC _ c),b⟩
theorem xz1{t:List Touch}:UO t=0↔t.length<=64/\(∀f∈t,eH f.path=true/\f.dig.length<=65536)/\t.Pairwise before:=by
 unfold UO;by_cases h:64<t.length
 ·rw[if_pos h];constructor;·intro h;cases h
  ·rintro⟨a,_⟩;omega
 ·rw[if_neg h,yd8 t [] .nil];simp only[jU];constructor;·rintro⟨a,b⟩;exact⟨by omega,a,b⟩
  ·rintro⟨_,a,b⟩;exact⟨a,b⟩
theorem yq2:∀{a b:Bs},zO b a=true->a<b:=by
 intro a b h;obtain⟨r,rfl⟩:=zS8.1 h;induction a with
 |nil=>simp|cons c a e=>simpa using e (zS8.2 ⟨r,rfl⟩)
theorem xX4{t:List Touch}(h:UO t=0){f g:Touch}(o:f∈t)(r:g∈t):zO f.path g.path=false:=by
 obtain⟨_,_,w⟩:=xz1.1 h;cases e:zO f.path g.path with
 |false=>rfl|true=>
  exfalso;have m:=yq2 e;obtain⟨i,u⟩:=lM.1 o;obtain⟨j,v⟩:=lM.1 r;obtain⟨k,c⟩:=aF.1 u;obtain⟨l,b⟩:=aF.1 v;have n:=List.pairwise_iff_getElem.1 w;rcases Nat.lt_trichotomy i j with a|a|a
  ·have:=(n i j k l a).1;rw[c,b]at this;exact List.lt_irrefl _ (List.lt_trans this m)
  ·subst a;rw[c]at b;subst b;exact List.lt_irrefl _ m
  ·have:=(n j i l k a).2;rw[c,b,e]at this;cases this
structure PkgOK(p:Pkg):Prop where
 name:qD p.name=true
 ver:qD p.ver=true
 tree:UO p.tree=0
 path:∀f∈p.tree,eH (p.name++47::f.path)=true
 rcp:∃f∈p.tree,f.path=p.rcp
section
variable{d:List Pkg}(hok:∀p∈d,PkgOK p)(hnm:d.Pairwise (fun p q=>p.name≠q.name))
include hok hnm
end
def Pkg.row(p:Pkg):List AV:=[.str p.name,.str p.ver,.str p.rcp,.sl (NH p.tree)]
def XG:List AV->Option Pkg
 |[.str a,.str b,.str c,.sl e]=>(dW PS e).map fun t=>⟨a,b,c,t⟩|_=>none
theorem yC8(p:Pkg):XG p.row=some p:=by simp[XG,Pkg.row]
def XJ(d:List Pkg):List (List AV):=d.map Pkg.row
@[simp]theorem xL6{d:List Pkg}:(XJ d).length=d.length:=by simp[XJ]
@[simp]theorem xK6(d:List Pkg):dW XG (XJ d)=some d:=mQ yC8 d
def OutI(o:Bs)(x:AV)(h:aA):Prop:=x=.own 0 o.length o.length/\h=[.arr 1 o.length (o.map JH) true]
theorem OutI.rows{o:Bs}{x:AV}{h:aA}(a:OutI o x h):rowsOf h x=some (o.map JH):=by
 obtain⟨rfl,rfl⟩:=a;exact xV (h:=[.arr 1 o.length (o.map JH) true]) rfl (by simp)
theorem OutI.trunc{o:Bs}{x:AV}{h:aA}(b:OutI o x h)(a:List (Nat×AV)):trunc 1 a h=h:=by
 obtain⟨rfl,rfl⟩:=b;exact fJ rfl
theorem OutI.next{G:Gam}{o:Bs}{x:AV}{h:aA}(b:UInt8)(f:OutI o x h)(e:o.length<big):∃c a,opV G false h (.app false 1 1) (some [x,.tsl [[.int .u8 (b.toNat:Int)]]])=some (c,a)/\OutI (o++[b]) c a:=by
 obtain⟨rfl,rfl⟩:=f;have:=tI (G:=G) (s:=false) (h:=[.arr 1 o.length (o.map JH) true]) (e:=JH) (n:=1) (b:=1) (l:=0) (os:=o) (x:=b) rfl rfl (by omega) e;exact⟨_,_,this,rfl,rfl⟩
def qU:List AV->Option AV
 |[.str s]=>if s.length<=1000000 then some (.bool (nK s))else none|_=>none
theorem xw5{G:Gam}(i:G Fn.bz=some (.pure IC)):PW G Mc.a0 Rs.a0 Ks.a0 qU:=by
 intro M r a;unfold qU at a;split at a
 ·rename_i s;split at a
  ·rename_i j;injection a with a;subst a;have f:∀g h,opV G g h (.call Fn.bz) (some [.agg [.n 1,.str s]])=some (.bool (GP 1 s),h):=fun g h=>cU i (us:=[.agg [.n 1,.str s]]) rfl (by simp only[IC];rw[if_pos j]) (.inl rfl);rw[xF0]at f;rw[aT];unfold nK;cases b:keyW.contains s with
   |true=>
    have e:s∈keyW:=by simpa using b
    unfold keyW at e;simp only[dD,List.not_mem_nil,or_false]at e;rcases e with rfl|rfl|rfl|rfl|rfl|rfl|rfl|rfl|rfl|rfl|rfl|rfl|rfl|rfl|rfl|rfl|rfl|rfl|rfl|rfl|rfl|rfl<;>simp[Mc.a0,aC,Ks.a0,eC,aJ,Rs.a0]|false=>
    have c:=b;clear b;unfold keyW at c;simp only[pJ,List.contains_nil,Bool.or_false,DD]at c;obtain⟨k,l,B,E,F,H,I,J,K,L,m,n,o,t,u,v,w,x,y,A,C,D⟩:=c;generalize QM s=z at*;simp[Mc.a0,aC,Ks.a0,eC,k,l,B,E,F,H,I,J,K,L,m,n,o,t,u,v,w,x,y,A,C,D,f,eB,AV.cells,bF,aJ,Rs.a0]
  ·cases a
 ·cases a
section
def iT(m:List (Bs×Bs)):List (AV×AV):=m.map fun k=>(.agg [.str k.1,.str k.2],.T)
theorem zv4(a b c d:Bs):eV [.s,.s] [.str a,.str b] [.str c,.str d]=some (a==c&&b==d):=by
 simp only[eV];by_cases e:a=c
 ·by_cases f:b=d;·simp[e,f]
  ·simp[e,f]
 ·have:(a==c)=false:=by simpa using e
  simp[e,this]
theorem zn2(a b:Bs):∀m:List (Bs×Bs),iY [.s,.s] [.str a,.str b] (iT m)=some (if m.contains (a,b)then some (.T)else none)
 |[]=>rfl|(c,d)::r=>by
  have f:=zn2 a b r;simp only[iT]at f;simp only[iT,fE,iY,jA,kN,aM,zv4,pJ];have e:((a,b)==(c,d))=(a==c&&b==d):=rfl;rw[e];cases h:(a==c&&b==d)with
  |true=>simp|false=>simpa using f
theorem zn5(a b:Bs):∀m:List (Bs×Bs),m.contains (a,b)=false->kZ [.s,.s] [.str a,.str b] (.T) (iT m)=some (iT (m++[(a,b)]))
 |[],_=>rfl|(c,d)::r,h=>by
  rw[pJ,DD]at h;have f:=zn5 a b r h.2;simp only[iT]at f;have e:((a,b)==(c,d))=(a==c&&b==d):=rfl;rw[e]at h;simp only[iT,fE,kZ,jA,kN,aM,zv4,h.1];simp[f]
section
variable{G:Gam}{s:Bool}{h:aA}
theorem xg2{l:Nat}{m:List (Bs×Bs)}{a b:Bs}(c:h[l]?=some (.map (iT m))):opV G s h (.lookA [.s,.s] false (.F)) (some [.map l,.agg [.str a,.str b]])=some (.bool (m.contains (a,b)),h):=by
 rw[bW rfl];simp only[bV,jA,kN,aM,c,zn2,dI];cases m.contains (a,b)<;>rfl
theorem xg4{l:Nat}{m:List (Bs×Bs)}{a b:Bs}(e:h[l]?=some (.map (iT m)))(f:m.contains (a,b)=false):opV G s h (.mapupA [.s,.s]) (some [.map l,.agg [.str a,.str b],.T])=some (.junk,h.set l (.map (iT (m++[(a,b)])))):=by
 rw[fG rfl];have c:frz h (.T)=some (.T,h):=by simp[frz,view]
 simp only[bC,rP,isKey,jA,kN,c,e,zn5 a b m f];simp
end
theorem zJ4(o y:Bs):∀a:List Plc,(a.map fun q=>(q.obj,q.sym)).contains (o,y)=a.any (fun q=>q.obj==o&&q.sym==y)
 |[]=>rfl|q::r=>by
  have b:=zJ4 o y r;rw[fE,pJ,List.any_cons,b];congr 1;have e:((o,y)==(q.obj,q.sym))=(o==q.obj&&y==q.sym):=rfl;rw[e,Bool.beq_comm (a:=o),Bool.beq_comm (a:=y)]
def oQ(b:Bin):Bool:=EY b&&decide (b.img.length<=1000000)&&b.pl.all (fun p=>decide (p.obj.length<=100000)&&decide (p.sym.length<=100000))&&decide (b.fx.length<1000000)&&b.fx.all lT&&decide (b.im.length<1000000)&&b.im.all (fun x=>decide (x.lib.length<=100000)&&decide (x.sym.length<=100000)&&lT x.pos)&&decide (b.ex.length<1000000)&&b.ex.all (fun x=>decide (x.sym.length<=100000)&&lT x.pos)&&decide (b.nt.length<1000000)&&b.nt.all (fun n=>decide (n.1.length<=100000)&&decide (n.2.length<=1000000))
structure OkB(b:Bin):Prop where
 p:EY b=true
 img:b.img.length<=1000000
 pl:∀p∈b.pl,p.obj.length<=100000/\p.sym.length<=100000
 fxl:b.fx.length<1000000
 fx:∀a∈b.fx,lT a=true
 iml:b.im.length<1000000
 im:∀x∈b.im,x.lib.length<=100000/\x.sym.length<=100000/\lT x.pos=true
 exl:b.ex.length<1000000
 ex:∀x∈b.ex,x.sym.length<=100000/\lT x.pos=true
 ntl:b.nt.length<1000000
 nt:∀n∈b.nt,n.1.length<=100000/\n.2.length<=1000000
theorem AR{b:Bin}(h:oQ b=true):OkB b:=by
 unfold oQ at h;simp only[bR,fD,fK]at h;obtain⟨⟨⟨⟨⟨⟨⟨⟨⟨⟨e,i⟩,j⟩,h4⟩,h5⟩,k⟩,a⟩,l⟩,m⟩,f⟩,g⟩:=h;exact⟨e,i,j,h4,h5,k,fun x c=>⟨(a x c).1.1,(a x c).1.2,(a x c).2⟩,l,m,f,g⟩
theorem xd8{b:Bin}(h:OkB b):oQ b=true:=by
 obtain⟨e,i,j,h4,h5,k,a,l,m,f,g⟩:=h;unfold oQ;simp only[bR,fD,fK];exact⟨⟨⟨⟨⟨⟨⟨⟨⟨⟨e,i⟩,j⟩,h4⟩,h5⟩,k⟩,fun x c=>⟨⟨(a x c).1,(a x c).2.1⟩,(a x c).2.2⟩⟩,l⟩,m⟩,f⟩,g⟩
theorem yA3(s:Bs):(Lib.cut s [33]).1.length<=s.length/\(Lib.cut s [33]).2.1.length<=s.length:=by
 by_cases h:(33:UInt8)∈s
 ·obtain⟨a,b,e,f,c⟩:=(index_one 33 s).1 h;rw[c,e];simp;omega
 ·rw[(index_one 33 s).2 h];simp
def HP:List AV->Option AV
 |[.agg a]=>match sW a with
  |some b=>if oQ b=true then some (.bool (nP b))else none|none=>none
 |_=>none
theorem xa7{G:Gam}(a:G Fn.bc=some (.pure yS)){s:Bs}(c:s.length<=100000)(b:Bool)(h:aA):opV G b h (.call Fn.bc) (some [.str s])=some (.bool (AP s),h):=cU a (us:=[.str s]) rfl (by have:=yA3 s;simp only[yS];rw[if_pos ⟨by omega,by omega,by omega⟩]) (.inl rfl)
theorem zf6{G:Gam}(a:G Fn.a0=some (.pure qU)){s:Bs}(c:s.length<=100000)(b:Bool)(h:aA):opV G b h (.call Fn.a0) (some [.str s])=some (.bool (nK s),h):=cU a (us:=[.str s]) rfl (by simp only[qU];rw[if_pos (by omega)]) (.inl rfl)
theorem xz4{G:Gam}(a:G Fn.b4=some (.pure yY)){s:Bs}(b:s.length<=1000000)(c:Bool)(h:aA):opV G c h (.call Fn.b4) (some [.str s,.str [0]])=some (.str (yD 0 s),h):=cU a (us:=[.str s,.str [0]]) rfl (by simp only[yY];rw[if_pos b]) (.inl rfl)
attribute[local congr]ite_congr in theorem zS4{G:Gam}(z:G Fn.bc=some (.pure yS))(A:G Fn.a0=some (.pure qU))(y:G Fn.b4=some (.pure yY))(b:Bin)(hok:OkB b)(a:List AV)(C:∀b1,bA b1 a=true)(k:∀f:aA,aB 1 false (.cells a::f) (.ptr 0 2)=some (.str b.img)):∀(l:List Plc)(i:Nat)(j:List Plc)(e:Nat),b.pl.drop i=l->i<=b.pl.length->e<=b.img.length->cY G [6,7,8,9,10] Mc.ak_L0 2 [.blk 0,.seq (.seq (.reg [zm 124 4,zf 125 2 1,zl 126 125,zn 127 0 126,zb 128 .eql 124 127,zM 2 128]) .ret)] (aJ Rs.ak (.bool (xQ b.img j e l))) [(0,.agg a),(1,.ptr 0 0),(2,.F),(3,.map 1),(4,.n e),(6,.junk),(7,.junk),(8,.junk),(9,.junk),(10,.junk),(29,.sl (dM b.pl)),(30,.n b.pl.length),(31,.n i)] [.cells a,.map (iT (j.map fun q=>(q.obj,q.sym)))]
 |[],i,j,e,r,Z,X=>by
  have b3:=drop_nil r;have T:i=b.pl.length:=by omega
  subst T;refine bQ (Mc.ak_L0.eq_1) ?_;rw[eJ (n:=2) rfl];have P:eqB (e:Int) (b.img.length:Int)=(e==b.img.length):=by
   by_cases h:e=b.img.length;·subst h;simp
   ·have:eqB (e:Int) (b.img.length:Int)=false:=gM.2 (by omega);rw[this];simp[h]
  simp[k,aW,xQ,P,aJ,Rs.ak,-aB]|p::l,i,j,e,r,Z,X=>by
  obtain⟨c3,E,a3⟩:=lG r;have D:=gJ E;obtain⟨hb,W⟩:=LN hok.p;obtain⟨⟨k1,k2⟩,k3,k4⟩:=ZY (W p D);obtain⟨ko,ky⟩:=hok.pl p D;have c1:=hok.img;have q:ltB (i:Int) (b.pl.length:Int)=true:=cH.2 (by omega);have hw:=iJ (i:=i) (by unfold big;omega);have r1:=zS3 E;have a2:p.row.length=5:=rfl;have ia:∀h,bN 5 h (.sl (dM b.pl)) (.n (i:Int))=some (.fptr p.row 0):=fun h=>by simp[bN,r1,a2]
  have l1:∀h,aB 5 true h (.fptr p.row 0)=some (.agg p.row):=fun h=>by simp[aB,cut,aD,Plc.row]
  obtain⟨M,o⟩:∃M,M=j.map fun q=>(q.obj,q.sym):=⟨_,rfl⟩;rw[<-o];have sn:bB 5 [.cells a,.map (iT M),.cells [.str [],.str [],.n 0,.n 0,.n 0]] (.ptr 2 0) (.agg p.row)=some [.cells a,.map (iT M),.cells p.row]:=xv6 (h:=[.cells a,.map (iT M)]);have b2:bB 2 [.cells a,.map (iT M),.cells p.row,.cells [.str [],.str []]] (.ptr 3 0) (.agg [.str p.obj,.str p.sym])=some [.cells a,.map (iT M),.cells p.row,.cells [.str p.obj,.str p.sym]]:=yb4 (h:=[.cells a,.map (iT M),.cells p.row]);have p0:∀M f,aB 1 false (.cells a::.map M::.cells p.row::f) (.ptr 2 0)=some (.str p.obj):=fun M f=>bT (l:=2) rfl rfl;have p1:∀M f,aB 1 false (.cells a::.map M::.cells p.row::f) (.ptr 2 1)=some (.str p.sym):=fun M f=>bT (l:=2) rfl rfl;have p2:∀M f,aB 1 false (.cells a::.map M::.cells p.row::f) (.ptr 2 2)=some (.n p.kd):=fun M f=>bT (l:=2) rfl rfl;have p3:∀M f,aB 1 false (.cells a::.map M::.cells p.row::f) (.ptr 2 3)=some (.n p.pos):=fun M f=>bT (l:=2) rfl rfl;have H:∀M f,aB 1 false (.cells a::.map M::.cells p.row::f) (.ptr 2 4)=some (.n p.siz):=fun M f=>bT (l:=2) rfl rfl;have I:∀M c,aB 2 true [.cells a,.map M,c,.cells [.str p.obj,.str p.sym]] (.ptr 3 0)=some (.agg [.str p.obj,.str p.sym]):=fun M c=>by simp[aB,cut,aD]
  have lk:∀g,opV G g [.cells a,.map (iT M),.cells p.row,.cells [.str p.obj,.str p.sym]] (.lookA [.s,.s] false (.F)) (some [.map 1,.agg [.str p.obj,.str p.sym]])=some (.bool (M.contains (p.obj,p.sym)),[.cells a,.map (iT M),.cells p.row,.cells [.str p.obj,.str p.sym]]):=fun g=>xg2 (l:=1) rfl;have K:=fun g h=>xa7 (G:=G) z ko g h;have L:=fun g h=>zf6 (G:=G) A ky g h;have hu:=ye7 e;obtain⟨u,t⟩:∃u,u=nV e:=⟨_,rfl⟩;have w1:IntKind.i64.wrap ((e:Int)+3)=(e:Int)+3:=i64_in _ ⟨by omega,by omega⟩;have w2:IntKind.i64.wrap (4*(((e:Int)+3).tdiv 4))=(u:Int):=by rw[upE (by omega) (by omega),t];unfold nV;omega
  have mq:bY .quo (.n ((e:Int)+3)) (.n 4)=some (.n (((e:Int)+3).tdiv 4)):=by
   simp[bY,jJ];rw[i64_in _ ⟨by rw[IJ (by omega)];omega,by rw[IJ (by omega)];omega⟩]
  have mm:bY .mul (.n (((e:Int)+3).tdiv 4)) (.n 4)=some (.n u):=by
   have O:bY .mul (.n (((e:Int)+3).tdiv 4)) (.n 4)=some (.n (IntKind.i64.wrap ((((e:Int)+3).tdiv 4)*4))):=rfl;rw[O,Int.mul_comm,w2]
  have mr:bY .rem (.n p.siz) (.n 4)=some (.n (p.siz.tmod 4)):=by simp[bY,jJ]
  have J:IntKind.i64.wrap ((u:Int)+p.siz)=(u:Int)+p.siz:=i64_in _ ⟨by omega,by omega⟩;refine bQ (Mc.ak_L0.eq_1) ?_;rw[eJ (n:=2) rfl];generalize V:dM b.pl=R at*;simp+contextual[q,ia,l1,sn,p0,p1,p2,p3,H,b2,eB,AV.cells,bF,I,lk,k,aW,K,L,mq,mm,mr,w1,J,-aB,-aQ];have a1:(!j.any (fun q=>q.obj==p.obj&&q.sym==p.sym)&&FR p&&eqB p.pos (nV e)&&!ltB b.img.length (nV e+p.siz))=!(decide ((p.obj,p.sym)∈M)||!AP p.obj||!nK p.sym||(!eqB p.kd 1||ltB p.siz 2)&&(!eqB p.kd 2||ltB p.siz 0||!eqB (p.siz.tmod 4) 0)||ltB 8192 p.siz||!eqB p.pos u||ltB b.img.length ((u:Int)+p.siz)):=by
   rw[<-zJ4,<-o,t];have:decide ((p.obj,p.sym)∈M)=M.contains (p.obj,p.sym):=by simp
   rw[this];simp only[FR,Bool.not_or,Bool.not_and,Bool.not_not,Bool.and_assoc]
  rw[xQ,a1];rcases fQ (decide ((p.obj,p.sym)∈M)||!AP p.obj||!nK p.sym||(!eqB p.kd 1||ltB p.siz 2)&&(!eqB p.kd 2||ltB p.siz 0||!eqB (p.siz.tmod 4) 0)||ltB 8192 p.siz||!eqB p.pos u||ltB b.img.length ((u:Int)+p.siz))with c|c
  ·rw[c];simp[aJ,Rs.ak]
  ·rw[c];have v:=c;simp only[DD,Bool.and_eq_false_iff,Bool.not_eq_false',IV,kQ,dQ]at v;obtain⟨⟨⟨⟨⟨⟨N,d2⟩,d3⟩,d4⟩,d5⟩,d6⟩,d7⟩:=v;have e3:0<=p.siz:=by omega
   have sl:∀g h,opV G g h (.slc none true true false) (some [.str b.img,.n e,.n u])=some (.str ((b.img.take u).drop e),h):=fun g h=>ya2 rfl rfl (by omega) (by omega);have x:=fun g h=>xz4 (G:=G) y (s:=(b.img.take u).drop e) (by simp only[List.length_drop,sM];omega) g h;have hz:yg6 b.img e (nV e)=(yD 0 ((b.img.take u).drop e)==[]):=by rw[xz2,t];rfl
   have U:M.contains (p.obj,p.sym)=false:=by simpa using N
   have up:∀g,opV G g [.cells a,.map (iT M),.cells p.row,.cells [.str p.obj,.str p.sym]] (.mapupA [.s,.s]) (some [.map 1,.agg [.str p.obj,.str p.sym],.T])=some (.junk,[.cells a,.map (iT (M++[(p.obj,p.sym)])),.cells p.row,.cells [.str p.obj,.str p.sym]]):=fun g=>xg4 (l:=1) rfl U;have F:=zS4 z A y b hok a C k l (i+1) (j++[p]) (nV e+p.siz.toNat) a3 (by omega) (by omega);rw[hz];have B:=C 2;have S:M++[(p.obj,p.sym)]=(j++[p]).map fun q=>(q.obj,q.sym):=by rw[o];simp
   have Q:((nV e+p.siz.toNat:Nat):Int)=(u:Int)+p.siz:=by omega
   rw[Q,<-S,V]at F;generalize M++[(p.obj,p.sym)]=m at*;generalize yD 0 ((b.img.take u).drop e)=tz at*;cases w:(tz==[])with
   |false=>simp[sl,k,x,eC,w,aJ,Rs.ak,-aB]|true=>
    simp[sl,k,x,eC,w,I,up,H,J,hw,-aB];refine dT ?_;have ht:∀n f,cQ 2 n=true->trunc 2 n (.cells a::.map (iT m)::f)=[.cells a,.map (iT m)]:=fun n f Y=>yE (a:=[.cells a,.map (iT m)]) (b:=f) rfl Y (by simp[bG,gR,B]);rw[ht _ _ (by simp[cQ,low,B])];simpa using F
theorem xj2{G:Gam}(o:G Fn.bc=some (.pure yS))(t:G Fn.a0=some (.pure qU))(n:G Fn.b4=some (.pure yY)):PW G Mc.ak Rs.ak Ks.ak HP:=by
 intro x r a;unfold HP at a;split at a
 ·rename_i l;split at a
  ·rename_i b u;split at a
   ·rename_i v;injection a with a;subst a;obtain rfl:l=b.cells:=DS u;have m:=zS4 (G:=G) o t n b (AR v) b.cells (OR b) (fun c=>bT (l:=0) rfl rfl) b.pl 0 [] 0 rfl (by omega) (by omega);have f:∀c:aA,aB 1 false (.cells b.cells::c) (.ptr 0 3)=some (.sl (dM b.pl)):=fun c=>bT (l:=0) rfl rfl;have k:∀c:aA,aB 1 false (.cells b.cells::c) (.ptr 0 2)=some (.str b.img):=fun c=>bT (l:=0) rfl rfl;have g:=fun w=>JD (G:=G) b w;rw[aT];unfold nP;generalize b.cells=l at m f k g⊢;rcases fQ (ltB (b.pl.length:Nat) 1)with e|e;·simp[Mc.ak,Ks.ak,aC,g,f,aW,e,aJ,Rs.ak,-aB]
    ·rcases fQ (ltB 128 (b.pl.length:Nat))with i|i;·simp[Mc.ak,Ks.ak,aC,g,f,aW,e,i,aJ,Rs.ak,-aB]
     ·rcases fQ (ltB 65536 (b.img.length:Nat))with j|j;·simp[Mc.ak,Ks.ak,aC,g,f,k,aW,e,i,j,aJ,Rs.ak,-aB]
      ·simp[Mc.ak,Ks.ak,aC,g,f,k,aW,e,i,j,-aB];simpa[iT]using m
   ·cases a
  ·cases a
 ·cases a
end
section
def mS(seen:List Bs):List (Bs×Bool):=seen.map fun k=>(k,true)
theorem zL3(k:Bs):∀seen:List Bs,AI k (mS seen)=if seen.contains k then some true else none
 |[]=>rfl|x::r=>by
  have a:=zL3 k r;simp only[mS]at a;simp only[mS,fE,AI,a,pJ];by_cases h:k=x;·simp[h]
  ·have:(k==x)=false:=by simpa using h
   simp[h]
theorem zT2(k:Bs):∀seen:List Bs,seen.contains k=false->FV k true (mS seen)=mS (seen++[k])
 |[],_=>rfl|x::r,h=>by
  rw[pJ,DD]at h;have a:=zT2 k r h.2;have b:¬k=x:=by simpa using h.1
  simp only[mS]at a;simp only[mS,fE,qW,FV,if_neg b,a]
def ntS(l:List (Bs×Bs)):Bool:=decide (l.length<1000000)&&l.all (fun n=>decide (n.1.length<=100000)&&decide (n.2.length<=1000000))
theorem xb3{l:List (Bs×Bs)}(h:ntS l=true):l.length<1000000/\∀n∈l,n.1.length<=100000/\n.2.length<=1000000:=by
 unfold ntS at h;simpa[fK]using h
def HM:List AV->Option AV
 |[.sl a]=>match dW zT a with
  |some l=>if ntS l=true then some (.bool (vE [] l&&!ltB 64 l.length))else none|none=>none
 |_=>none
theorem yC7{a:List (List AV)}{l:List (Bs×Bs)}(h:dW zT a=some l):a=iU l:=rC (enc:=eW) (fun _ _=>zt1) h
attribute[local congr]ite_congr in theorem zO8{G:Gam}(o:G Fn.a0=some (.pure qU))(l:List (Bs×Bs))(x:l.length<1000000)(r:∀n∈l,n.1.length<=100000/\n.2.length<=1000000):∀(b:List (Bs×Bs))(i:Nat)(seen:List Bs),l.drop i=b->i<=l.length->cY G [5] Mc.bi_L0 1 [.blk 0,.seq (.seq (.reg [zm 33 0,zn 34 1 33,zc 35 .leq 34 64,zM 2 35]) .ret)] (aJ Rs.bi (.bool (vE seen b&&!ltB 64 l.length))) [(0,.sl (iU l)),(2,.F),(3,.map 0),(5,.junk),(7,.sl (iU l)),(8,.n l.length),(9,.n i)] [.map (lQ eBool (mS seen))]
 |[],i,seen,j,z=>by
  have U:=drop_nil j;have w:i=l.length:=by omega
  subst w;refine bQ (Mc.bi_L0.eq_1) ?_;rw[eJ (n:=1) rfl];have A:(iU l).length=l.length:=by simp
  simp[aW,A,vE,aJ,Rs.bi]|n::b,i,seen,j,z=>by
  obtain⟨V,t,F⟩:=lG j;obtain⟨J,W⟩:=r n (gJ t);have q:ltB (i:Int) (l.length:Int)=true:=cH.2 (by omega);have E:=iJ (i:=i) (by unfold big;omega);have O:=xb2 t;have H:∀h,bN 2 h (.sl (iU l)) (.n (i:Int))=some (.fptr [.str n.1,.str n.2] 0):=fun h=>by simp[bN,O,eW]
  have K:∀h,aB 2 true h (.fptr [.str n.1,.str n.2] 0)=some (.agg [.str n.1,.str n.2]):=fun h=>by simp[aB,cut,aD]
  obtain⟨M,g⟩:∃M,M=lQ eBool (mS seen):=⟨_,rfl⟩;have P:bB 2 [.map M,.cells [.str [],.str []]] (.ptr 1 0) (.agg [.str n.1,.str n.2])=some [.map M,.cells [.str n.1,.str n.2]]:=yb4 (h:=[.map M]);have u:∀M,aB 1 false [.map M,.cells [.str n.1,.str n.2]] (.ptr 1 0)=some (.str n.1):=fun M=>bT (l:=1) rfl rfl;have N:∀M,aB 1 false [.map M,.cells [.str n.1,.str n.2]] (.ptr 1 1)=some (.str n.2):=fun M=>bT (l:=1) rfl rfl;have L:∀a,opV G a [.map M,.cells [.str n.1,.str n.2]] (.look .s false (.F)) (some [.map 0,.str n.1])=some (.bool (seen.contains n.1),[.map M,.cells [.str n.1,.str n.2]]):=fun a=>by
   rw[xg1 (V:=eBool) (m:=mS seen) (l:=0) (by rw[g];rfl),zL3];cases seen.contains n.1<;>rfl
  have v:=fun a h=>zf6 (G:=G) o J a h;have I:=zO8 o l x r b (i+1) (seen++[n.1]) F (by omega);have S:lQ eBool (mS (seen++[n.1]))=lQ eBool (mS (seen++[n.1])):=rfl;have C:(!seen.contains n.1&&nK n.1&&!ltB 65536 n.2.length)=!(decide (n.1∈seen)||!nK n.1||ltB 65536 (n.2.length:Nat)):=by
   have:decide (n.1∈seen)=seen.contains n.1:=by simp
   rw[this];simp only[Bool.not_or,Bool.not_not,Bool.and_assoc]
  refine bQ (Mc.bi_L0.eq_1) ?_;rw[eJ (n:=1) rfl,<-g];generalize T:iU l=R at*;simp+contextual[q,H,K,P,u,N,L,aW,v,-aB,-aQ];rw[vE,C];rcases fQ (decide (n.1∈seen)||!nK n.1||ltB 65536 (n.2.length:Nat))with c|c
  ·rw[c];simp[aJ,Rs.bi]
  ·rw[c];have m:=c;simp only[DD,IV]at m;have B:seen.contains n.1=false:=by simpa using m.1.1
   have Q:∀a,opV G a [.map M,.cells [.str n.1,.str n.2]] (.mapup .s) (some [.map 0,.str n.1,.T])=some (.junk,[.map (lQ eBool (mS (seen++[n.1]))),.cells [.str n.1,.str n.2]]):=fun a=>by
    have:=xg3 (G:=G) (s:=a) (h:=[.map M,.cells [.str n.1,.str n.2]]) (V:=eBool) (m:=mS seen) (k:=n.1) (v:=true) (x:=.T) (l:=0) (by rw[g];rfl) rfl rfl rfl;rw[zT2 _ _ B]at this;simpa using this
   generalize lQ eBool (mS (seen++[n.1]))=e at*;simp[Q,u,E,-aB];refine dT ?_;have D:∀f k,cQ 1 f=true->trunc 1 f (.map e::k)=[.map e]:=fun f k y=>yE (a:=[.map e]) (b:=k) rfl y (by simp[bG,gR]);rw[D _ _ (by simp[cQ,low])];simpa using I
theorem xb1{G:Gam}(b:G Fn.a0=some (.pure qU)):PW G Mc.bi Rs.bi Ks.bi HM:=by
 intro k r a;unfold HM at a;split at a
 ·rename_i m;split at a
  ·rename_i l c;split at a
   ·rename_i f;injection a with a;subst a;have:=yC7 c;subst this;obtain⟨i,j⟩:=xb3 f;have g:=zO8 (G:=G) b l i j l 0 [] rfl (by omega);have e:(iU l).length=l.length:=by simp
    rw[aT];generalize iU l=R at*;simp[Mc.bi,Ks.bi,aC,aW,e];simpa[mS,lQ]using g
   ·cases a
  ·cases a
 ·cases a
theorem xf9{G:Gam}{s:Bool}{h:aA}{f:FuncId}{F:List AV->aA->Option (AV×aA)}{a:List AV}(b:G f=some (.gen F)):opV G s h (.callg f) (some a)=F a h:=by
 have e:opV G s h (.callg f) (some a)=dE G f a h:=by cases s<;>rfl
 rw[e,mA b]
theorem WN{a b:Bs}:bY .geq (.str a) (.str b)=some (.bool (!Op.bytesLess a b)):=by simp[bY,eC]
def HJ:List AV->Option AV
 |[.agg a]=>match sW a with
  |some b=>if oQ b=true then some (.bool (exP b.pl none b.ex))else none|none=>none
 |_=>none
attribute[local congr]ite_congr in theorem zw3{G w:Gam}(r:G Fn.bx=some (.gen (bO (nX true 5 w))))(L:w Fn.bh=some (.gen (bO CL)))(b:Bin)(hok:OkB b)(a:List AV)(N:∀n,bA n a=true)(g:∀e:aA,aB 1 false (.cells a::e) (.ptr 0 3)=some (.sl (dM b.pl)))(o:∀e:aA,aB 1 false (.cells a::e) (.ptr 0 6)=some (.sl (gZ b.ex))):∀(v:List Expo)(i:Nat)(l:Option Expo),b.ex.drop i=v->i<=b.ex.length->(match l with|none=>i=0|some p=>∃j,i=j+1/\b.ex[j]?=some p)->cY G [3,4] Mc.a6_L0 1 [.blk 0,.seq (.seq (.reg [Kb 2 true]) .ret)] (aJ Rs.a6 (.bool (exP b.pl (l.map Expo.sym) v))) [(0,.agg a),(1,.ptr 0 0),(2,.F),(3,.junk),(4,.junk),(6,.sl (gZ b.ex)),(7,.n b.ex.length),(8,.n i)] [.cells a]
 |[],i,l,C,V,D=>by
  have a2:=drop_nil C;have S:i=b.ex.length:=by omega
  subst S;refine bQ (Mc.a6_L0.eq_1) ?_;rw[eJ (n:=1) rfl];simp[exP,aJ,Rs.a6]|x::v,i,l,C,V,D=>by
  obtain⟨a3,O,X⟩:=lG C;have hb:=hok.exl;have b1:=(LN hok.p).1;have q:ltB (i:Int) (b.ex.length:Int)=true:=cH.2 (by omega);have E:=iJ (i:=i) (by unfold big;omega);have Y:=zw2 O;have c:∀h,bN 2 h (.sl (gZ b.ex)) (.n (i:Int))=some (.fptr [.str x.sym,.n x.pos] 0):=fun h=>by simp[bN,Y,Expo.row]
  have k:∀h,aB 2 true h (.fptr [.str x.sym,.n x.pos] 0)=some (.agg [.str x.sym,.n x.pos]):=fun h=>by simp[aB,cut,aD]
  have m:bB 2 [.cells a,.cells [.str [],.n 0]] (.ptr 1 0) (.agg [.str x.sym,.n x.pos])=some [.cells a,.cells [.str x.sym,.n x.pos]]:=by simp[bB,AV.cells,bF,bE]
  have J:aB 1 false [.cells a,.cells [.str x.sym,.n x.pos]] (.ptr 1 0)=some (.str x.sym):=bT (l:=1) rfl rfl;have M:opV G false [.cells a,.cells [.str x.sym,.n x.pos]] (.call Fn.bx) (some [.sl (dM b.pl),.fn Fn.bh [.ptr 1 0]])=some (.bool (b.pl.any (fun p=>p.sym==x.sym&&p.pos==x.pos)),[.cells a,.cells [.str x.sym,.n x.pos]]):=XC (G0:=w) (xs:=b.pl) (e:=Plc.row) (val:=fun f=>.agg f.row) (agg:=true) (n:=5) r (by unfold big;omega) ZQ fun a1 hg=>by
    refine DI ?_;simp only[dE,L,bO,CL,PO,wL,oG];rfl
  have t:∀P,opV G P [.cells a,.cells [.str x.sym,.n x.pos]] (.callg Fn.bx) (some [.sl (dM b.pl),.fn Fn.bh [.ptr 1 0]])=some (.bool (b.pl.any (fun p=>p.sym==x.sym&&p.pos==x.pos)),[.cells a,.cells [.str x.sym,.n x.pos]]):=fun P=>by rw[xf9 r];rw[dV r]at M;exact M
  have H:=zw3 r L b hok a N g o v (i+1) (some x) X (by omega) ⟨i,rfl,O⟩;rw[exP];have B:=N 1;refine bQ (Mc.a6_L0.eq_1) ?_;rw[eJ (n:=1) rfl];have fin:∀A e,cQ 1 A=true->trunc 1 A (.cells a::e)=[.cells a]:=fun A e U=>yE (a:=[.cells a]) (b:=e) rfl U (by simp[bG,gR,B]);simp only[dI]at H;generalize b.pl.any (fun p=>p.sym==x.sym&&p.pos==x.pos)=an at*;cases l with
  |none=>
   subst D;have u:ltB 0 0=false:=rfl;simp only[Int.natCast_zero]at q c E⊢;simp only[Option.map_none,Option.any_none,lA,gH];have w1:IntKind.i64.wrap 1=1:=rfl;generalize T:gZ b.ex=R at*;generalize dM b.pl=Q at*;cases an with
   |false=>simp[q,c,k,m,g,t,aJ,Rs.a6,-aB,-aQ]|true=>
    simp[q,c,k,m,g,t,w1,-aB,-aQ];refine dT ?_;rw[fin _ _ (by simp[cQ,low,B])];simpa using H
  |some y=>
   obtain⟨j,rfl,W⟩:=D;have u:ltB 0 ((j:Int)+1)=true:=cH.2 (by omega);have K:IntKind.i64.wrap (j:Int)=j:=i64_in _ ⟨by omega,by omega⟩;have Z:=zw2 W;have F:∀h,bN 2 h (.sl (gZ b.ex)) (.n (j:Int))=some (.fptr [.str y.sym,.n y.pos] 0):=fun h=>by simp[bN,Z,Expo.row]
   have I:∀h,aB 1 false h (.fptr [.str y.sym,.n y.pos] 0)=some (.str y.sym):=fun h=>by simp[aB,cut,aD]
   simp only[dI,Option.any_some,Bool.not_not];simp only[Int.natCast_add,Int.natCast_one]at c q E⊢;generalize T:gZ b.ex=R at*;generalize dM b.pl=Q at*;cases z:Op.bytesLess y.sym x.sym with
   |false=>simp[q,c,k,m,u,K,o,F,I,J,z,aJ,Rs.a6,-aB,-aQ]|true=>cases an with
    |false=>simp[q,c,k,m,u,K,o,F,I,J,z,g,t,aJ,Rs.a6,-aB,-aQ]|true=>
     simp[q,c,k,m,u,K,o,F,I,J,z,g,t,E,-aB,-aQ];refine dT ?_;rw[fin _ _ (by simp[cQ,low,B])];simpa using H
theorem yJ0{G G0:Gam}(k:G Fn.bx=some (.gen (bO (nX true 5 G0))))(j:G0 Fn.bh=some (.gen (bO CL))):PW G Mc.a6 Rs.a6 Ks.a6 HJ:=by
 intro t r a;unfold HJ at a;split at a
 ·rename_i f;split at a
  ·rename_i b l;split at a
   ·rename_i m;injection a with a;subst a;obtain rfl:f=b.cells:=DS l;have c:∀e:aA,aB 1 false (.cells b.cells::e) (.ptr 0 6)=some (.sl (gZ b.ex)):=fun e=>bT (l:=0) rfl rfl;have g:=zw3 (G:=G) k j b (AR m) b.cells (OR b) (fun e=>bT (l:=0) rfl rfl) c b.ex 0 none rfl (by omega) rfl;have i:=fun o=>JD (G:=G) b o;have n:(gZ b.ex).length=b.ex.length:=by simp
    rw[aT];generalize b.cells=f at g c i⊢;generalize gZ b.ex=R at*;simp[Mc.a6,Ks.a6,aC,i,c,aW,n,-aB];simpa using g
   ·cases a
  ·cases a
 ·cases a
end
end Go.Proofs.YtpefhfiehfkocaaGreatDoor
