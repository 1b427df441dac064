/- Functions that look at the heap that t -/
import Derived.Test.YtdebajodkallbaaGreatDoorAm8
namespace Go.Proofs.YtdebajodkallbaaGreatDoor
open Go.RowKit Go.IntWalk
noncomputable section
theorem xh8{C D:Cx}(m:C.Le D){a:AV}{a2 T:Value}(h:Rel C a a2)(d:Rel D a T):Rel ⟨D.im,C.bl,C.ar⟩ a T:=by induction h generalizing T with
 |bool b=>rw[jJ d];exact .bool b|int k n=>rw[fF d];exact .int k n|str s=>rw[fM d];exact .str s|agg Y y L U x=>cases d with|agg _ X M E=>
   exact .agg _ _ M fun i c F u N=>by
    have K:i<y.size:=by rw[<-L];exact(aV.1 u).1
    exact x i c y[i] u (by simp[K]) m (E i c F u N)|tup Y y L U x=>cases d with|tup _ X M E=>
   exact .tup _ _ M fun i c F u N=>by
    have K:i<y.size:=by rw[<-L];exact(aV.1 u).1
    exact x i c y[i] u (by simp[K]) m (E i c F u N)|slnil=>cases d with
  |slnil=>exact .slnil|slz a q=>exact .slz a q|sl _ b o q w p z j t h4=>exact .sl _ b o q w p z j t h4
 |slz a q=>cases d with
  |slnil=>exact .slnil|slz a q=>exact .slz a q|sl _ b o q w p z j t h4=>exact .sl _ b o q w p z j t h4
 |tslz a=>cases d with
  |tslnil=>exact .tslnil|tslz a=>exact .tslz a|tsl _ b o w p j t h4=>exact .tsl _ b o w p j t h4
 |sl a1=>cases d with
  |slnil=>exact .slnil|slz a q=>exact .slz a q|sl _ b o q w p z j t h4=>exact .sl _ b o q w p z j t h4
 |tsl a1=>cases d with
  |tslnil=>exact .tslnil|tslz a=>exact .tslz a|tsl _ b o w p j t h4=>exact .tsl _ b o w p j t h4
 |tslnil=>cases d with
  |tslnil=>exact .tslnil|tslz a=>exact .tslz a|tsl _ b o w p j t h4=>exact .tsl _ b o w p j t h4
 |nils=>cases d;exact .nils|ownnil l H k=>cases d with
  |ownnil _ _ e=>exact .ownnil l H k|own _ _ _ r e W=>have:=m.ar _ _ _ k;rw[e]at this;cases this
 |own l H n r k W=>cases d with
  |ownnil _ _ e=>have:=m.ar _ _ _ k;rw[e]at this;cases this|own _ _ _ O e S=>
   have:=m.ar _ _ _ k;rw[e]at this;injection this with this;injection this with this;subst this;exact .own l H n O k S
 |win l H Z n r k W=>cases d with|win _ _ _ _ O e S=>
   have:=m.ar _ _ _ k;rw[e]at this;injection this with this;injection this with this;subst this;exact .win l H Z n O k S
 |ptr l I b k=>cases d with|ptr _ _ J e=>
   have:=m.bl _ _ k;rw[e]at this;injection this with this;subst this;exact .ptr l I J k
 |fptr b2 I=>cases d with|fptr _ _ b o p z j=>exact .fptr _ _ b o p z j
 |eptr l H i I r k=>cases d with|eptr _ _ _ _ O e=>
   have:=m.ar _ _ _ k;rw[e]at this;injection this with this;injection this with this;subst this;exact .eptr l H i I O k
 |gptr g I=> cases d; exact .gptr g I| nilp => cases d; exact .nilp| map l b k =>cases d with|map _ J e=>
   have:=m.bl _ _ k;rw[e]at this;injection this with this;subst this;exact .map l J k|nilm=>cases d;exact .nilm|fn f b1 y L U x=>cases d with|fn _ _ X M E=>
   exact .fn _ _ _ M fun i c F u N=>by
    have K:i<y.size:=by rw[<-L];exact(aV.1 u).1
    exact x i c y[i] u (by simp[K]) m (E i c F u N)|mth f a v _ x=>cases d with|mth _ _ F E=>exact .mth f a F (x m E)
 |nilf=>cases d;exact .nilf|iface b3 a v _ x=>cases d with|iface _ _ a3 h=>exact .iface _ _ a3 (x m h)
 |nili=>cases d;exact .nili|yld l b k=>cases d with|yld _ J e=>
   have:=m.bl _ _ k;rw[e]at this;injection this with this;subst this;exact .yld l J k
 |junk v=>exact .junk _
theorem zI7{C D:Cx}(f:C.Le D){a:List AV}{j e:List Value}(h:RelL C a j)(b:RelL D a e):RelL ⟨D.im,C.bl,C.ar⟩ a e:=by
 refine⟨b.1,fun i c l d g=>?_⟩;obtain⟨v,_,k⟩:=h.get d;exact xh8 f k (b.2 i c l d g)
theorem yT8{B:Base}{C D:Cx}{h n:aA}{w z:World}(i:Inv B C h w)(j:Inv B D n z)(f:C.Le D)(L:∀(l:Nat)c,h[l]?=some c->n[l]?=some c):Inv B ⟨D.im,C.bl,C.ar⟩ h z:=by
 have v:∀(l:Nat)c,bJ (⟨D.im,C.bl,C.ar⟩:Cx) l c=bJ C l c:=fun l c=>by cases c<;>rfl
 refine⟨j.im,j.one,fun l c y=>?_,fun l O c E b a n t h4=>i.inj l O c E b a n (by rw[<-v];exact t) (by rw[<-v];exact h4),i.fr,i.fv,j.hB,j.low,j.gl,j.tb,i.rcl,⟨fun b d2 e2 x=>f.im _ _ _ (i.cle.im _ _ _ x),i.cle.bl,i.cle.ar⟩⟩;have k:=i.ok l c y;have k2:=j.ok l c (L l c y);cases c with
 |cellsT tg vs=>
  obtain⟨b,I,e,a,n,t,h4,h5,K⟩:=k;obtain⟨g,o,J,d,p,g3,g4,g5,q⟩:=k2;have:=f.bl _ _ a;rw[d]at this;injection this with this;subst this;exact⟨g,o,J,a,p,g3,g4,zI7 f h5 g5,q⟩|arrX U tg sz e3 e1 wr=>
  rcases k with⟨k,N⟩|⟨r,I,a,a1,a2,a3,b1,b2,b3,M,c1⟩;·exact .inl ⟨k,N⟩
  ·rcases k2 with⟨k2,c2⟩|⟨u,o,d,k2,k3,k4,k5,k6,k7,k8,k9⟩;·have:=f.ar _ _ _ a;rw[k2]at this;cases this
   ·have:=f.ar _ _ _ a;rw[d]at this;injection this with this;injection this with this;subst this;refine .inr ⟨u,o,a,k2,k3,k4,k5,k6,k7,?_,k9⟩;cases U with
    |false=>exact k8|true=>exact zI7 f M k8
 |map Z=>
  obtain⟨b,ms,Y,a,k⟩:=k;obtain⟨g,T,H,d,k2⟩:=k2;have:=f.bl _ _ a;rw[d]at this;injection this with this;subst this;exact⟨g,T,H,a,k2⟩|iter s d3=>
  obtain⟨b,a,k⟩:=k;obtain⟨g,d,k2⟩:=k2;have:=f.bl _ _ a;rw[d]at this;injection this with this;subst this;exact⟨g,a,k2⟩|lp X x=>
  obtain⟨b,r,a,k⟩:=k;obtain⟨g,u,d,k2⟩:=k2;have:=f.bl _ _ a;rw[d]at this;injection this with this;subst this;exact⟨g,u,a,k2⟩|mit m d1 seen c3=>
  obtain⟨b,mo,a,n,t,h4⟩:=k;obtain⟨g,S,d,p,g3,g4⟩:=k2;have:=f.bl _ _ a;rw[d]at this;injection this with this;subst this;refine⟨g,S,a,p,g3,?_⟩;cases m with
  |none=>exact g4|some m=>
   obtain⟨W,h5,K⟩:=h4;obtain⟨F,g5,q⟩:=g4;have:=f.bl _ _ h5;rw[g5]at this;injection this with this;subst this;exact⟨F,h5,q⟩
 |dead=>trivial
def fP(b:List RV)(r:AV)(a:aA):aY:=fun x env fr h=>(match x with|.exit _=>False|_=>True)/\∃v,dS (bV env fr) h b=some v/\view h v=some r/\∃t,eS h (owns v)=a++t
def cJ(F:List AV->aA->Option AV):List AV->aA->Option (AV×aA):=fun a h=>(F a h).map fun r=>(r,h)
section
variable{P:Program}{G:Gam}
abbrev LW(G:Gam)(b:MC)(c:List RV)(ks:List Nat)(F:List AV->aA->Option AV):Prop:=∀a h r,F a h=some r->wpM G b (fP c r h) [] (aC ks a) h
theorem zz4(M:P.follows .mixedOrders=true){g:Gv}(E:GamOK P g G){f:FuncId}{a:Func}{c:Code}(I:P.funcs[f]?=some a)(e:a.body=some c){ks X:List Nat}{j:List (List Nat)}{rs:List RV}{o:MC}(L:ks.all (fun k=>decide (k<a.ntmps))=true)(S:mD P a.results.toList=some rs)(N:(nH P g ks a.ntmps X c j).1=o){F:List AV->aA->Option AV}(z:∀b h r,F b h=some r->wpM G o (fP rs r h) [] (aC ks b) h):fA P g f (cJ F):=by
 intro B C h w b r h' b1 K i O d;subst K;simp only[cJ,dJ,dF]at d;obtain⟨p,d,rfl,rfl⟩:=d;have T:=uM (n:=a.ntmps) i L O;have n:=z b h p d;rw[<-N]at n;have U:=lU M c true none (fun _=>rfl) B (GamOK.b E) j _ w [] _ [] _ h _ _ w T (.start rfl) n;refine xU I e i.hB U fun x env fr l C' a' w' k0 k5 k6 k7=>?_;obtain⟨k2,v,k3,k4,a3,W⟩:=k0;refine⟨k2,?_⟩;obtain⟨u,Y,Z⟩:=wF k5.inv k5.rel S k3;have J:frz l v=some (p,eS l (owns v)):=by simp[frz,k4]
 obtain⟨D,q,t,y,d4,d5⟩:=tZ k5.inv J Y;have m:C.Le D:=k6.trans q;have H:=yT8 i t m (fun a2 a1 e=>by rw[W,gC (aV.1 e).1];exact e);exact⟨u,Z,u,⟨D.im,C.bl,C.ar⟩,rfl,⟨m.im,fun _ _ x=>x,fun _ _ _ x=>x⟩,H,y.mono ⟨fun _ _ _ x=>x,(fun _ _ x=>by cases x),(fun _ _ _ x=>by cases x)⟩,k7⟩
end
abbrev Bs:=List UInt8
def big:Nat:=1099511627776
structure Enc(α:Type)where
 enc:α->AV
 dec:AV->Option α
 de:∀x,dec (enc x)=some x
 ed:∀a x,dec a=some x->a=enc x
structure REnc(α:Type)where
 enc:α->List AV
 dec:List AV->Option α
 de:∀x,dec (enc x)=some x
 ed:∀a x,dec a=some x->a=enc x
def eStr:Enc Bs where
 enc:=.str
 dec:=fun a=>match a with|.str s=>some s|_=>none
 de:=fun _=>rfl
 ed:=fun a x h=>by cases a<;>simp at h;subst h;rfl
def eInt:Enc Int where
 enc:=.n
 dec:=fun a=>match a with|.n s=>some s|_=>none
 de:=fun _=>rfl
 ed:=fun a x h=>by
  split at h;·injection h with h;subst h;rfl
  ·cases h
def fG(k:IntKind):Enc Int where
 enc:=.int k
 dec:=fun a=>match a with|.int b s=>if k=b then some s else none|_=>none
 de:=fun _=>if_pos rfl
 ed:=fun a x h=>by
  split at h
  ·split at h;·rename_i e;injection h with h;subst h e;rfl
   ·cases h
  ·cases h
def eBool:Enc Bool where
 enc:=.bool
 dec:=fun a=>match a with|.bool s=>some s|_=>none
 de:=fun _=>rfl
 ed:=fun a x h=>by cases a<;>simp at h;subst h;rfl
def jA{α:Type}(r:REnc α):Enc α where
 enc:=fun x=>.agg (r.enc x)
 dec:=fun a=>match a with|.agg s=>r.dec s|_=>none
 de:=fun x=>r.de x
 ed:=fun a x h=>by cases a<;>simp at h;rw[r.ed _ _ h]
def qP{α:Type}(a:List AV->Option α):List (List AV)->Option (List α)
 |[]=>some []|r::b=>match a r,qP a b with
  |some x,some c=>some (x::c)|_,_=>none
theorem PA{α:Type}(r:REnc α):∀{c:List (List AV)}{b:List α},qP r.dec c=some b->c=b.map r.enc
 |[],b,h=>by simp[qP]at h;subst h;rfl|a::f,b,h=>by
  simp only[qP]at h;split at h
  ·rename_i x g d e;injection h with h;subst h;rw[r.ed _ x d,PA r e];rfl
  ·cases h
theorem JA{α:Type}(r:REnc α):∀(a:List α),qP r.dec (a.map r.enc)=some a
 |[]=>rfl|x::a=>by simp[qP,r.de,JA r a]
def eSl{α:Type}(r:REnc α):Enc (List α)where
 enc:=fun c=>.sl (c.map r.enc)
 dec:=fun a=>match a with|.sl b=>qP r.dec b|_=>none
 de:=fun x=>JA r x
 ed:=fun a x h=>by cases a<;>simp at h;rw[PA r h]
def rA{α:Type}(e:Enc α):REnc α where
 enc:=fun x=>[e.enc x]
 dec:=fun a=>match a with|[x]=>e.dec x|_=>none
 de:=fun x=>e.de x
 ed:=fun a x h=>by match a,h with|[y],h=>rw[e.ed _ _ h]
def yw5{α β:Type}(a:Enc α)(b:Enc β):Enc (α×β)where
 enc:=fun x=>.tup [a.enc x.1,b.enc x.2]
 dec:=fun v=>match v with
  |.tup [x,y]=>(a.dec x).bind fun x=>(b.dec y).map fun y=>(x,y)|_=>none
 de:=fun x=>by simp[a.de,b.de]
 ed:=fun v x h=>by
  split at h
  ·rename_i p q;simp only[IC,dJ]at h;obtain⟨e,c,f,d,rfl⟩:=h;rw[a.ed _ _ c,b.ed _ _ d]
  ·cases h
def yw6{α β γ:Type}(a:Enc α)(b:Enc β)(c:Enc γ):Enc (α×β×γ)where
 enc:=fun x=>.tup [a.enc x.1,b.enc x.2.1,c.enc x.2.2]
 dec:=fun v=>match v with
  |.tup [x,y,z]=>(a.dec x).bind fun x=>(b.dec y).bind fun y=>(c.dec z).map fun z=>(x,y,z)|_=>none
 de:=fun x=>by simp[a.de,b.de,c.de]
 ed:=fun v x h=>by
  split at h
  ·rename_i p q r;simp only[IC,dJ]at h;obtain⟨g,d,i,e,j,f,rfl⟩:=h;rw[a.ed _ _ d,b.ed _ _ e,c.ed _ _ f]
  ·cases h
section
variable{α β γ δ ε ρ:Type}(A:Enc α)(B:Enc β)(C:Enc γ)(D:Enc δ)(R:Enc ρ)
def F0(r:AV):List AV->Option AV
 |[]=>some r|_=>none
def F1(f:α->Option ρ):List AV->Option AV
 |[a]=>(A.dec a).bind fun x=>(f x).map R.enc|_=>none
def F2(f:α->β->Option ρ):List AV->Option AV
 |[a,b]=>(A.dec a).bind fun x=>(B.dec b).bind fun y=>(f x y).map R.enc|_=>none
def F3(f:α->β->γ->Option ρ):List AV->Option AV
 |[a,b,c]=>(A.dec a).bind fun x=>(B.dec b).bind fun y=>(C.dec c).bind fun z=>(f x y z).map R.enc|_=>none
variable{A B C D R}
theorem nB{f:α->Option ρ}{x:α}{r:ρ}(h:f x=some r):F1 A R f [A.enc x]=some (R.enc r):=by simp[F1,A.de,h]
theorem MH{f:α->β->Option ρ}{x:α}{y:β}{r:ρ}(h:f x y=some r):F2 A B R f [A.enc x,B.enc y]=some (R.enc r):=by simp[F2,A.de,B.de,h]
theorem zY1{f:α->β->γ->Option ρ}{x:α}{y:β}{z:γ}{r:ρ}(h:f x y z=some r):F3 A B C R f [A.enc x,B.enc y,C.enc z]=some (R.enc r):=by simp[F3,A.de,B.de,C.de,h]
theorem zc0{Q:List AV->AV->Prop}{r:AV}(h:Q [] r):∀b c,F0 r b=some c->Q b c:=by
 intro b c a;unfold F0 at a;split at a;·injection a with a;subst a;exact h
 ·cases a
theorem mK{Q:List AV->AV->Prop}{f:α->Option ρ}(h:∀x r,f x=some r->Q [A.enc x] (R.enc r)):∀b r,F1 A R f b=some r->Q b r:=by
 intro b r a;unfold F1 at a;split at a
 ·simp only[IC,dJ]at a;obtain⟨x,c,e,d,rfl⟩:=a;rw[A.ed _ _ c];exact h x e d
 ·cases a
theorem MG{Q:List AV->AV->Prop}{f:α->β->Option ρ}(h:∀x y r,f x y=some r->Q [A.enc x,B.enc y] (R.enc r)):∀b r,F2 A B R f b=some r->Q b r:=by
 intro b r a;unfold F2 at a;split at a
 ·simp only[IC,dJ]at a;obtain⟨x,c,y,d,g,e,rfl⟩:=a;rw[A.ed _ _ c,B.ed _ _ d];exact h x y g e
 ·cases a
theorem zY0{Q:List AV->AV->Prop}{f:α->β->γ->Option ρ}(h:∀x y z r,f x y z=some r->Q [A.enc x,B.enc y,C.enc z] (R.enc r)):∀b r,F3 A B C R f b=some r->Q b r:=by
 intro b r a;unfold F3 at a;split at a
 ·simp only[IC,dJ]at a;obtain⟨x,c,y,d,z,e,g,h4,rfl⟩:=a;rw[A.ed _ _ c,B.ed _ _ d,C.ed _ _ e];exact h x y z g h4
 ·cases a
end
theorem zX9{α β ρ:Type}{A:Enc α}{B:Enc β}{R:Enc ρ}{f:α->β->Option ρ}{a:List AV}{r:AV}(h:F2 A B R f a=some r):∃x y z,a=[A.enc x,B.enc y]/\f x y=some z/\r=R.enc z:=MG (Q:=fun a r=>∃x y z,a=[A.enc x,B.enc y]/\f x y=some z/\r=R.enc z) (fun x y z h=>⟨x,y,z,rfl,h,rfl⟩) a r h
section
variable{G:Gam}{s:Bool}{ks:List MK}{Q:aY}{env fr:List (Nat×AV)}{h:aA}
@[simp]theorem xu1:trunc h.length fr h=h:=by unfold trunc;split<;>simp
@[simp]theorem xb8{f:FuncId}{b a:List AV}:opV G false h .callv (some (.fn f b::a))=eD G f (a++b) h:=rfl
theorem eX{f:FuncId}{F:List AV->aA->Option (AV×aA)}{a:List AV}(b:G f=some (.gen F)):opV G false h (.call f) (some a)=F a h:=by simp only[opV,eW,dE,bY,jB,dN,AO.quiet,cG,eD,b]
theorem TT{f:FuncId}{F:List AV->Option AV}{a us:List AV}{r:AV}(c:G f=some (.pure F))(e:bU h a=some us)(b:F us=some r)(d:scalar r=true):eD G f a h=some (r,h):=by simp only[eD,c,e,b,d,bD]
theorem lB{f:FuncId}{F:List AV->aA->Option (AV×aA)}{a:List AV}(b:G f=some (.gen F)):eD G f a h=F a h:=by simp only[eD,b]
theorem yU7{α β:Type}{c:Prop}[Decidable c]{v a:α}{h:β}:(if c then some (v,h)else some (a,h))=some (if c then v else a,h):=by split<;>rfl
theorem yU4{c:Prop}[Decidable c]{x y:Bool}:(if c then AV.bool x else AV.bool y)=AV.bool (if c then x else y):=by split<;>rfl
theorem yQ3{a:Bool}{r:Option (AV×aA)}{c:Prop}[Decidable c]{x y:AV}:yE a h r (some (if c then x else y))=if c then yE a h r (some x)else yE a h r (some y):=by split<;>rfl
theorem yU5{x y:Bool}:(if On x then true else y)=(x||y):=by cases x<;>rfl
theorem yU2{x y:Bool}:(if On x then y else false)=(x&&y):=by cases x<;>rfl
theorem yU6{x y:Bool}:(if On x then y else true)=(!x||y):=by cases x<;>rfl
theorem yU3{x y:Bool}:(if On x then false else y)=(!x&&y):=by cases x<;>rfl
def ltB(a b:Int):Bool:=decide (a<b)
def eqB(a b:Int):Bool:=decide (a=b)
theorem aO{a b:Int}:ltB a b=true↔a<b:=by simp[ltB]
theorem bC{a b:Int}:ltB a b=false↔b<=a:=by simp[ltB]
theorem gW{a b:Int}:eqB a b=true↔a=b:=by simp[eqB]
theorem eU{a b:Int}:eqB a b=false↔¬a=b:=by simp[eqB]
@[simp]theorem yx8{a:Int}:eqB a a=true:=by simp[eqB]
@[simp]theorem xH3{a:Int}:ltB a a=false:=by simp[ltB]
theorem xn5{k:IntKind}{a b:Int}:aW .lss (.int k a) (.int k b)=some (.bool (ltB a b)):=by simp[aW,fS,ltB]
theorem xn3{k:IntKind}{a b:Int}:aW .gtr (.int k a) (.int k b)=some (.bool (ltB b a)):=by simp[aW,fS,ltB]
theorem xn4{k:IntKind}{a b:Int}:aW .leq (.int k a) (.int k b)=some (.bool (!ltB b a)):=by by_cases h:b<a<;>simp[aW,fS,ltB,h]<;>omega
theorem LB{k:IntKind}{a b:Int}:aW .geq (.int k a) (.int k b)=some (.bool (!ltB a b)):=by by_cases h:a<b<;>simp[aW,fS,ltB,h]<;>omega
theorem xn2{k:IntKind}{a b:Int}:aW .eql (.int k a) (.int k b)=some (.bool (eqB a b)):=by simp[aW,fS,eqB];rfl
theorem xn6{k:IntKind}{a b:Int}:aW .neq (.int k a) (.int k b)=some (.bool (!eqB a b)):=by simp[aW,fS,eqB];rfl
theorem LA{k:IntKind}{a b:Int}:aW .add (.int k a) (.int k b)=some (.int k (k.wrap (a+b))):=by simp[aW,fS]
theorem xn8{k:IntKind}{a b:Int}:aW .sub (.int k a) (.int k b)=some (.int k (k.wrap (a-b))):=by simp[aW,fS]
theorem xn7{c:BinOp}{a b:Bs}:aW c (.str a) (.str b)=dV c a b:=rfl
open Classical in def ask(G:Gam)(h:aA)(f:FuncId)(a:List AV)(x:AV):Option Bool:=if eD G f (x::a) h=some (.T,h)then some true else if eD G f (x::a) h=some (.F,h)then some false else none
theorem DS{f:FuncId}{a:List AV}{x:AV}{b:Bool}(c:eD G f (x::a) h=some (.bool b,h)):ask G h f a x=some b:=by
 unfold ask;cases b<;>simp[c]
theorem TI{f:FuncId}{c:List AV}{x:AV}{b:Bool}(a:ask G h f c x=some b):eD G f (x::c) h=some (.bool b,h):=by
 unfold ask at a;split at a;·injection a with a;subst a;assumption
 ·split at a;·injection a with a;subst a;assumption
  ·cases a
def nJ{α:Type}(p:α->Option Bool):Nat->List α->Option Int
 |_,[]=>some (-1)|i,x::a=>match p x with
  |some true=>some i|some false=>nJ p (i+1) a|none=>none
def jM{α:Type}(p:α->Bool):Nat->List α->Int
 |_,[]=>-1|i,x::a=>if p x then i else jM p (i+1) a
theorem US{α β:Type}{q:β->Option Bool}{p:α->Bool}{e:α->β}:∀(a:List α)(i:Nat),(∀x∈a,q (e x)=some (p x))->nJ q i (a.map e)=some (jM p i a)
 |[],i,_=>rfl|x::a,i,b=>by
  simp only[iO,nJ,b x (by simp),jM];cases p x with
  |true=>rfl|false=>exact US a (i+1) (fun y c=>b y (by simp[c]))
theorem UT{α:Type}{p:α->Bool}:∀(a:List α)(i:Nat),0<=jM p i a↔a.any p=true
 |[],i=>by simp[jM]|x::a,i=>by
  simp only[jM,List.any_cons];cases b:p x with
  |true=>simp|false=>simp[UT a (i+1)]
theorem dT{i:Nat}(a:i<big):IntKind.i64.wrap ((i:Int)+1)=((i+1:Nat):Int):=by unfold big at a;rw[i64_in _ (by omega)];rfl
theorem zp0{α:Type}{a:List α}{i:Nat}(h:i<a.length):∃x,a[i]?=some x/\a.drop i=x::a.drop (i+1):=⟨a[i],by simp[h],xN h⟩
theorem AP{a:List AV}{n:Nat}(h:a.length=n):cut a 0 n=a:=by subst h;simp[cut]
@[simp]theorem xB7{v:AV}:cut [v] 0 1=[v]:=rfl
theorem eT{α:Type}{a c:List α}{i:Nat}{x:α}(h:a.drop i=x::c):i<a.length/\a[i]?=some x/\a.drop (i+1)=c:=by
 have b:i<a.length:=by
  rcases mA i a.length with b|b;·exact b
  ·rw[List.drop_eq_nil_iff.2 b]at h;cases h
 refine⟨b,?_,by rw[<-DP,h];rfl⟩;have:=congrArg (·[0]?) h;simpa using this
theorem drop_nil{α:Type}{a:List α}{i:Nat}(h:a.drop i=[]):a.length<=i:=by simpa using h
def oR(c:Bool)(n:Nat)(G:Gam):List AV->aA->Option AV
 |[.sl b,.fn f d],h=>if b.length<=big then(nJ (fun a=>if a.length=n then(aE c n a).bind (ask G h f d)else none) 0 b).map (.n)else none|_,_=>none
def oQ(c:Bool)(n:Nat)(G:Gam):List AV->aA->Option AV
 |[.sl b,.fn f d],h=>if b.length<=big then(nJ (fun a=>if a.length=n then(aE c n a).bind (ask G h f d)else none) 0 b).map (fun i=>.bool (!ltB i 0))else none|_,_=>none
theorem zd0{e:Bool}{n:Nat}{d:List AV}{r:AV}(a:oR e n G d h=some r):∃b f c v,d=[.sl b,.fn f c]/\b.length<=big/\nJ (fun g=>if g.length=n then(aE e n g).bind (ask G h f c)else none) 0 b=some v/\r=.n v:=by match d,a with
 |[.sl b,.fn f c],a=>
  simp only[oR]at a;split at a
  ·rename_i i;simp only[dJ]at a;obtain⟨v,j,rfl⟩:=a;exact⟨b,f,c,v,rfl,i,j,rfl⟩
  ·cases a
theorem zc9{e:Bool}{n:Nat}{d:List AV}{r:AV}(a:oQ e n G d h=some r):∃b f c v,d=[.sl b,.fn f c]/\b.length<=big/\nJ (fun g=>if g.length=n then(aE e n g).bind (ask G h f c)else none) 0 b=some v/\r=.bool (!ltB v 0):=by match d,a with
 |[.sl b,.fn f c],a=>
  simp only[oQ]at a;split at a
  ·rename_i i;simp only[dJ]at a;obtain⟨v,j,rfl⟩:=a;exact⟨b,f,c,v,rfl,i,j,rfl⟩
  ·cases a
theorem TZ{α:Type}{C f:FuncId}{agg:Bool}{n:Nat}{G0:Gam}{caps:List AV}{xs:List α}{e:α->List AV}{val:α->AV}{p:α->Bool}(g:G C=some (.gen (cJ (oQ agg n G0))))(i:xs.length<=big)(c:∀x,aE agg n (e x)=some (val x)/\(e x).length=n)(m:∀x∈xs,ask G0 h f caps (val x)=some (p x)):opV G false h (.call C) (some [.sl (xs.map e),.fn f caps])=some (.bool (xs.any p),h):=by
 rw[eX g];have:=US (q:=fun d=>if d.length=n then(aE agg n d).bind (ask G0 h f caps)else none) (p:=p) (e:=e) xs 0 (fun x o=>by simp[(c x).1,(c x).2,m x o]);have b:=UT (p:=p) xs 0;have j:(xs.map e).length<=big:=by simpa using i
 simp only[cJ,oQ,j,bD,this,fC,aT,dF,AV.bool.injEq,and_true];cases a:xs.any p with
 |true=>simp[bC.2 (b.2 a)]|false=>
  have l:¬0<=jM p 0 xs:=fun k=>by rw[b.1 k]at a;cases a
  simp[aO.2 (Int.not_le.1 l)]
theorem yS5{α:Type}{C f:FuncId}{agg:Bool}{n:Nat}{G0:Gam}{a:List AV}{xs:List α}{e:α->List AV}{val:α->AV}{p:α->Bool}(d:G C=some (.gen (cJ (oR agg n G0))))(g:xs.length<=big)(b:∀x,aE agg n (e x)=some (val x)/\(e x).length=n)(j:∀x∈xs,ask G0 h f a (val x)=some (p x)):opV G false h (.call C) (some [.sl (xs.map e),.fn f a])=some (.n (jM p 0 xs),h):=by
 rw[eX d];have:=US (q:=fun c=>if c.length=n then(aE agg n c).bind (ask G0 h f a)else none) (p:=p) (e:=e) xs 0 (fun x k=>by simp[(b x).1,(b x).2,j x k]);have i:(xs.map e).length<=big:=by simpa using g
 simp only[cJ,oR,i,bD,this,fC]
theorem jX{c:Bool}{s:Bs}{i:Nat}{b:UInt8}{k:IntKind}(a:s[i]?=some b):opV G c h .istr (some [.str s,.int k i])=some (.int .u8 b.toNat,h):=by rw[eV rfl];simp[dH,a]
@[simp]theorem FF{a:Bool}{s:Bs}{b:UInt8}{k:IntKind}:opV G a h .istr (some [.str (b::s),.int k 0])=some (.int .u8 b.toNat,h):=jX (i:=0) rfl
attribute[simp]yU7 yU4 yQ3 yU5 yU2 yU6 yU3
attribute[simp]bM bW low bN cV gD uC dV CM xn5 xn3 xn4 LB xn2 xn6 LA xn8 xn7 aI aD dS eZ fK view bU aB
end
def sG{β:Type}(k:Bs):List (Bs×β)->Option β
 |[]=>none|(a,v)::r=>if k=a then some v else sG k r
def FH{β:Type}(k:Bs)(v:β):List (Bs×β)->List (Bs×β)
 |[]=>[(k,v)]|(a,u)::r=>if k=a then(a,v)::r else(a,u)::FH k v r
section
variable{β:Type}(V:Enc β)
def mG(m:List (Bs×β)):List (AV×AV):=m.map fun p=>(.str p.1,V.enc p.2)
variable{V}
theorem zB6{k:Bs}:∀m:List (Bs×β),yH .s (.str k) (mG V m)=some ((sG k m).map V.enc)
 |[]=>rfl|(b,x)::r=>by
  have a:=zB6 (k:=k) r;simp only[mG]at a;simp only[mG,iO,yH,vU,sG];by_cases h:k=b;·simp[h]
  ·have:(k==b)=false:=by simp[h]
   simp only[this,h,bY];exact a
theorem zC5{k:Bs}{v:β}:∀m:List (Bs×β),vW .s (.str k) (V.enc v) (mG V m)=some (mG V (FH k v m))
 |[]=>rfl|(b,x)::r=>by
  have a:=zC5 (k:=k) (v:=v) r;simp only[mG]at a;simp only[mG,iO,vW,vU,FH];by_cases h:k=b;·simp[h]
  ·have:(k==b)=false:=by simp[h]
   simp only[this,h,bY,a];rfl
variable{G:Gam}{s:Bool}{h:aA}
theorem xb9{l:Nat}{m:List (Bs×β)}{k:Bs}{a:AV}(b:h[l]?=some (.map (mG V m))):opV G s h (.look .s false a) (some [.map l,.str k])=some (((sG k m).map V.enc).getD a,h):=by
 rw[eV rfl];simp only[dH,isKey,bD,b,zB6,fC];cases sG k m<;>rfl
theorem xc1{l:Nat}{m:List (Bs×β)}{k:Bs}{v:β}{x:AV}(a:h[l]?=some (.map (mG V m)))(d:x=V.enc v)(c:view h x=some x)(b:owns x=[]):opV G s h (.mapup .s) (some [.map l,.str k,x])=some (.junk,h.set l (.map (mG V (FH k v m)))):=by
 subst d;rw[eG rfl];simp only[cG,isKey,bD,frz,c,fC,b,eS,a,zC5]
end
section
variable{G:Gam}{s:Bool}{h:aA}
@[simp]theorem xA4(c:List AV):(AV.agg c).cells=c:=rfl
@[simp]theorem xA5(b:Bool):(AV.bool b).cells=[.bool b]:=rfl
@[simp]theorem xH7(b:Bool):bE (AV.bool b)=true:=rfl
@[simp]theorem xA7(k:IntKind)(n:Int):(AV.int k n).cells=[.int k n]:=rfl
@[simp]theorem xH9(k:IntKind)(n:Int):bE (AV.int k n)=true:=rfl
@[simp]theorem xB3(s:Bs):(AV.str s).cells=[.str s]:=rfl
@[simp]theorem xI5(s:Bs):bE (AV.str s)=true:=rfl
@[simp]theorem xB2(r:List (List AV)):(AV.sl r).cells=[.sl r]:=rfl
@[simp]theorem xI4(r:List (List AV)):bE (AV.sl r)=true:=rfl
@[simp]theorem xB4(r:List (List AV)):(AV.tsl r).cells=[.tsl r]:=rfl
@[simp]theorem xI6(r:List (List AV)):bE (AV.tsl r)=true:=rfl
@[simp]theorem xA9:(AV.nils).cells=[.nils]:=rfl
@[simp]theorem xI1:bE (AV.nils)=true:=rfl
@[simp]theorem xB0(l v n:Nat):(AV.own l v n).cells=[.own l v n]:=rfl
@[simp]theorem xI2(l v n:Nat):bE (AV.own l v n)=true:=rfl
@[simp]theorem xA8(l:Nat):(AV.map l).cells=[.map l]:=rfl
@[simp]theorem xI0(l:Nat):bE (AV.map l)=true:=rfl
@[simp]theorem xB1(l o:Nat):(AV.ptr l o).cells=[.ptr l o]:=rfl
@[simp]theorem xI3(l o:Nat):bE (AV.ptr l o)=true:=rfl
@[simp]theorem xA6(f:FuncId)(c:List AV):(AV.fn f c).cells=[.fn f c]:=rfl
@[simp]theorem xH8(f:FuncId)(c:List AV):bE (AV.fn f c)=true:=rfl
@[simp]theorem xG9{α:Type}(a b c:α):[a,b].set 1 c=[a,c]:=rfl
@[simp]theorem xB8{x:AV}{a:List AV}{n k:Nat}:cut (x::a) (n+1) k=cut a n k:=rfl
@[simp]theorem xB9{x:AV}{a:List AV}{k:Nat}:cut (x::a) 0 (k+1)=x::cut a 0 k:=rfl
@[simp]theorem xB6{a:List AV}{n:Nat}:cut a n 0=[]:=by simp[cut]
@[simp]theorem xH5{c:AV}{a:List AV}{n:Nat}:aE true n (c::a)=if(c::a).length=n then some (.agg (c::a))else none:=by simp[aE]
attribute[simp]bK owns dX eS
theorem KQ{v:AV}{c:AV}{a:List AV}(b:v.cells=c::a):opV G s h .box (some [v])=some (.ptr h.length 0,h++[.cells (c::a)]):=by rw[eG rfl];simp only[cG,b]
@[simp]theorem xJ0{c:AV}{a:List AV}:opV G s h .box (some [.agg (c::a)])=some (.ptr h.length 0,h++[.cells (c::a)]):=KQ rfl
@[simp]theorem xJ4{x:Bs}:opV G s h .box (some [.str x])=some (.ptr h.length 0,h++[.cells [.str x]]):=KQ rfl
@[simp]theorem xJ2{l:Nat}:opV G s h .box (some [.map l])=some (.ptr h.length 0,h++[.cells [.map l]]):=KQ rfl
@[simp]theorem xJ1{k:IntKind}{n:Int}:opV G s h .box (some [.int k n])=some (.ptr h.length 0,h++[.cells [.int k n]]):=KQ rfl
@[simp]theorem xJ3{n:List (List AV)}:opV G s h .box (some [.sl n])=some (.ptr h.length 0,h++[.cells [.sl n]]):=KQ rfl
@[simp]theorem bB{n l a:Nat}{v:AV}:aU n h (.ptr l a) v=if v.cells.length=n/\0<n/\v.cells.all bE then(match h[l]? with
 |some (.cellsT tg b)=>if a+n<=b.length then some (h.set l (.cellsT tg (bK b a v.cells)))else none|_=>none)else none:=rfl
theorem sL{tg:Option TypeId}{l v sz:Nat}{rows:List (List AV)}{wr:Bool}(a:h[l]?=some (.arrT tg sz v rows wr)){n:Nat}(b:n=rows.length):rowsOf h (.own l v n)=some rows:=by subst b;simp[rowsOf,a]
theorem PV{tg:Option TypeId}{l v j c i n:Nat}{a:List (List AV)}{wr:Bool}{k:IntKind}{row:List AV}(e:h[l]?=some (.arrT tg j v a wr))(f:n=a.length)(b:a[i]?=some row)(g:row.length=c):bA c h (.own l v n) (.int k i)=some (.eptr l v i 0):=by
 have m:i<a.length:=(aV.1 b).1;subst f;have d:(i:Int)<a.length:=by omega
 simp[bA,e,b,g,d]
theorem VS{tg:Option TypeId}{l v j a i c:Nat}{b:Bool}{e:List (List AV)}{wr:Bool}{d:List AV}(g:h[l]?=some (.arrT tg j v e wr))(f:e[i]?=some d):aB a b h (.eptr l v i c)=aE b a (cut d c a):=by simp[aB,g,f]
theorem WZ{l v d n i a:Nat}{c:List (List AV)}{b:List AV}{x:AV}(k:h[l]?=some (.arr d v c true))(j:c[i]?=some b)(e:x.cells.length=n)(f:0<n)(g:x.cells.all bE=true)(h4:a+n<=b.length)(o:view h x=some x)(m:owns x=[]):opV G s h (.st n) (some [.eptr l v i a,x])=some (.junk,h.set l (.arr d v (c.set i (bK b a x.cells)) true)):=by rw[vZ];simp[aU,e,f,g,frz,o,m,eS,k,j,h4]
theorem QY{zero:List AV}{bytes n:Nat}{k k':IntKind}(a:n*bytes<=bT)(b:n<=bT):opV G s h (.mksl zero bytes) (some [.int k n,.int k' n])=some (.own h.length 0 n,h++[.arr zero.length 0 (List.replicate n zero) true]):=by rw[eG rfl];simp[cG,a,b]
theorem FM{α:Type}{e:α->List AV}{n:Nat}(b:∀x,(e x).length=n):∀a:List α,dB n (a.map e)=true
 |[]=>rfl|x::a=>by simp[dB,b,FM b a]
theorem vY{α:Type}{e:α->List AV}{n b l:Nat}{os:List α}{x:α}(f:h[l]?=some (.arr n os.length (os.map e) true))(g:(e x).length=n)(c:b<=64)(a:os.length<big):opV G s h (.app false n b) (some [.own l os.length os.length,.tsl [e x]])=some (.own l (os++[x]).length (os++[x]).length,h.set l (.arr n (os++[x]).length ((os++[x]).map e) true)):=by
 have d:(os.length+1)*b<=bT:=by
  have:(os.length+1)*b<=big*64:=Nat.mul_le_mul (by omega) c;unfold bT;unfold big at this a;omega
 have:=QX (G:=G) (s:=s) (h:=h) (n:=n) (b:=b) (l:=l) (ver:=os.length) (k:=os.length) (x:=.tsl [e x]) (new:=[e x]) (rows:=os.map e) rfl f (by simp) (by simp[dB,g]) (by simp) (by simpa using d) (by unfold big at a;unfold bT;simp;omega);simpa using this
end
def eNat:Enc Nat where
 enc:=fun n=>.n n
 dec:=fun a=>match a with|.n s=>if 0<=s then some s.toNat else none|_=>none
 de:=fun n=>by simp
 ed:=fun a x h=>by
  split at h
  ·split at h;·injection h with h;subst h;rename_i s b;congr 1;omega
   ·cases h
  ·cases h
@[simp]theorem xD2(n:Nat):eNat.enc n=.n n:=rfl
@[simp]theorem xD3(n:Bs):eStr.enc n=.str n:=rfl
@[simp]theorem xD0(n:Int):eInt.enc n=.n n:=rfl
@[simp]theorem xD1(k:IntKind)(n:Int):(fG k).enc n=.int k n:=rfl
@[simp]theorem xC9(n:Bool):eBool.enc n=.bool n:=rfl
@[simp]theorem xD4{α β:Type}(a:Enc α)(b:Enc β)(x:α×β):(yw5 a b).enc x=.tup [a.enc x.1,b.enc x.2]:=rfl
@[simp]theorem xD5{α β γ:Type}(a:Enc α)(b:Enc β)(c:Enc γ)(x:α×β×γ):(yw6 a b c).enc x=.tup [a.enc x.1,b.enc x.2.1,c.enc x.2.2]:=rfl
end
end Go.Proofs.YtdebajodkallbaaGreatDoor
