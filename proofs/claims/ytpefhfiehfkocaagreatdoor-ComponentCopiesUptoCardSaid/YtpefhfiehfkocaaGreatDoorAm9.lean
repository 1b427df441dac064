/- Functions that look at the heap that t -/
import Derived.Test.YtpefhfiehfkocaaGreatDoorAm7
import Derived.Shelf.Strings.Split
import Derived.Lib.Repeat
import Derived.Shelf.Sort.Plain
import Derived.Lib.SlicesCompact
namespace Go.Proofs.YtpefhfiehfkocaaGreatDoor
open Go.RowKit Go.IntWalk
noncomputable section
theorem xm3{C D:Cx}(m:C.Le D){a:AV}{a2 T:Value}(h:Rel C a a2)(d:Rel D a T):Rel ⟨D.im,C.bl,C.ar⟩ a T:=by induction h generalizing T with
 |bool b=>rw[jG d];exact .bool b|int k n=>rw[dK d];exact .int k n|str s=>rw[eD d];exact .str s|agg Y y L U x=>cases d with|agg _ X M E=>
   exact .agg _ _ M fun i c F u N=>by
    have K:i<y.size:=by rw[<-L];exact(aF.1 u).1
    exact x i c y[i] u (by simp[K]) m (E i c F u N)|tup Y y L U x=>cases d with|tup _ X M E=>
   exact .tup _ _ M fun i c F u N=>by
    have K:i<y.size:=by rw[<-L];exact(aF.1 u).1
    exact x i c y[i] u (by simp[K]) m (E i c F u N)|slnil=>cases d with
  |slnil=>exact .slnil|slz a q=>exact .slz a q|sl _ b o q w p z j t h4=>exact .sl _ b o q w p z j t h4
 |slz a q=>cases d with
  |slnil=>exact .slnil|slz a q=>exact .slz a q|sl _ b o q w p z j t h4=>exact .sl _ b o q w p z j t h4
 |tslz a=>cases d with
  |tslnil=>exact .tslnil|tslz a=>exact .tslz a|tsl _ b o w p j t h4=>exact .tsl _ b o w p j t h4
 |sl a1=>cases d with
  |slnil=>exact .slnil|slz a q=>exact .slz a q|sl _ b o q w p z j t h4=>exact .sl _ b o q w p z j t h4
 |tsl a1=>cases d with
  |tslnil=>exact .tslnil|tslz a=>exact .tslz a|tsl _ b o w p j t h4=>exact .tsl _ b o w p j t h4
 |tslnil=>cases d with
  |tslnil=>exact .tslnil|tslz a=>exact .tslz a|tsl _ b o w p j t h4=>exact .tsl _ b o w p j t h4
 |nils=>cases d;exact .nils|ownnil l H k=>cases d with
  |ownnil _ _ e=>exact .ownnil l H k|own _ _ _ r e W=>have:=m.ar _ _ _ k;rw[e]at this;cases this
 |own l H n r k W=>cases d with
  |ownnil _ _ e=>have:=m.ar _ _ _ k;rw[e]at this;cases this|own _ _ _ O e S=>
   have:=m.ar _ _ _ k;rw[e]at this;injection this with this;injection this with this;subst this;exact .own l H n O k S
 |win l H Z n r k W=>cases d with|win _ _ _ _ O e S=>
   have:=m.ar _ _ _ k;rw[e]at this;injection this with this;injection this with this;subst this;exact .win l H Z n O k S
 |ptr l I b k=>cases d with|ptr _ _ J e=>
   have:=m.bl _ _ k;rw[e]at this;injection this with this;subst this;exact .ptr l I J k
 |fptr b2 I=>cases d with|fptr _ _ b o p z j=>exact .fptr _ _ b o p z j
 |eptr l H i I r k=>cases d with|eptr _ _ _ _ O e=>
   have:=m.ar _ _ _ k;rw[e]at this;injection this with this;injection this with this;subst this;exact .eptr l H i I O k
 |gptr g I=> cases d; exact .gptr g I| nilp => cases d; exact .nilp| map l b k =>cases d with|map _ J e=>
   have:=m.bl _ _ k;rw[e]at this;injection this with this;subst this;exact .map l J k|nilm=>cases d;exact .nilm|fn f b1 y L U x=>cases d with|fn _ _ X M E=>
   exact .fn _ _ _ M fun i c F u N=>by
    have K:i<y.size:=by rw[<-L];exact(aF.1 u).1
    exact x i c y[i] u (by simp[K]) m (E i c F u N)|mth f a v _ x=>cases d with|mth _ _ F E=>exact .mth f a F (x m E)
 |nilf=>cases d;exact .nilf|iface b3 a v _ x=>cases d with|iface _ _ a3 h=>exact .iface _ _ a3 (x m h)
 |nili=>cases d;exact .nili|yld l b k=>cases d with|yld _ J e=>
   have:=m.bl _ _ k;rw[e]at this;injection this with this;subst this;exact .yld l J k
 |junk v=>exact .junk _
theorem zU4{C D:Cx}(f:C.Le D){a:List AV}{j e:List Value}(h:RelL C a j)(b:RelL D a e):RelL ⟨D.im,C.bl,C.ar⟩ a e:=by
 refine⟨b.1,fun i c l d g=>?_⟩;obtain⟨v,_,k⟩:=h.get d;exact xm3 f k (b.2 i c l d g)
theorem yU9{B:Base}{C D:Cx}{h j:aA}{w F:World}(g:Inv B C h w)(i:Inv B D j F)(e:C.Le D)(N:∀(l:Nat)c,h[l]?=some c->j[l]?=some c):Inv B ⟨D.im,C.bl,C.ar⟩ h F:=by
 have z:∀(l:Nat)c,aU (⟨D.im,C.bl,C.ar⟩:Cx) l c=aU C l c:=fun l c=>by cases c<;>rfl
 refine⟨i.im,i.one,fun l c E=>?_,fun l T c H b a j v h4=>g.inj l T c H b a j (by rw[<-z];exact v) (by rw[<-z];exact h4),g.fr,g.fv,i.hB,i.low,i.gl,i.tb,g.rcl,⟨fun b d3 e3 x=>e.im _ _ _ (g.cle.im _ _ _ x),g.cle.bl,g.cle.ar⟩⟩;have k:=g.ok l c E;have k2:=i.ok l c (N l c E);cases c with
 |cellsT tg vs=>
  obtain⟨b,K,a1,a,j,v,h4,h5,M⟩:=k;obtain⟨f,o,L,d,p,q,n,t,u⟩:=k2;have:=e.bl _ _ a;rw[d]at this;injection this with this;subst this;exact⟨f,o,L,a,p,q,n,zU4 e h5 t,u⟩|arrX X tg sz f1 e2 wr=>
  rcases k with⟨k,S⟩|⟨r,K,a,a2,a3,b1,b2,b3,c1,O,c2⟩;·exact .inl ⟨k,S⟩
  ·rcases k2 with⟨k2,c3⟩|⟨y,o,d,k2,k3,k4,k5,k6,k7,k8,k9⟩;·have:=e.ar _ _ _ a;rw[k2]at this;cases this
   ·have:=e.ar _ _ _ a;rw[d]at this;injection this with this;injection this with this;subst this;refine .inr ⟨y,o,a,k2,k3,k4,k5,k6,k7,?_,k9⟩;cases X with
    |false=>exact k8|true=>exact zU4 e O k8
 |map es=>
  obtain⟨b,ms,ck,a,k⟩:=k;obtain⟨f,W,J,d,k2⟩:=k2;have:=e.bl _ _ a;rw[d]at this;injection this with this;subst this;exact⟨f,W,J,a,k2⟩|iter s e1=>
  obtain⟨b,a,k⟩:=k;obtain⟨f,d,k2⟩:=k2;have:=e.bl _ _ a;rw[d]at this;injection this with this;subst this;exact⟨f,a,k2⟩|lp Z x=>
  obtain⟨b,r,a,k⟩:=k;obtain⟨f,y,d,k2⟩:=k2;have:=e.bl _ _ a;rw[d]at this;injection this with this;subst this;exact⟨f,y,a,k2⟩|mit m d2 seen d1=>
  obtain⟨b,mo,a,j,v,h4⟩:=k;obtain⟨f,U,d,p,q,n⟩:=k2;have:=e.bl _ _ a;rw[d]at this;injection this with this;subst this;refine⟨f,U,a,p,q,?_⟩;cases m with
  |none=>exact n|some m=>
   obtain⟨Y,h5,M⟩:=h4;obtain⟨I,t,u⟩:=n;have:=e.bl _ _ h5;rw[t]at this;injection this with this;subst this;exact⟨I,h5,u⟩
 |dead=>trivial
def eQ(b:List RV)(r:AV)(a:aA):aS:=fun x env fr h=>(match x with|.exit _=>False|_=>True)/\∃v,cZ (aV env fr) h b=some v/\view h v=some r/\∃t,dC h (owns v)=a++t
def bO(F:List AV->aA->Option AV):List AV->aA->Option (AV×aA):=fun a h=>(F a h).map fun r=>(r,h)
section
variable{P:Program}{G:Gam}
abbrev LW(G:Gam)(b:MC)(c:List RV)(ks:List Nat)(F:List AV->aA->Option AV):Prop:=∀a h r,F a h=some r->wpM G b (eQ c r h) [] (aC ks a) h
theorem oP(M:P.follows .mixedOrders=true){g:Gv}(E:GamOK P g G){f:FuncId}{a:Func}{c:Code}(I:P.funcs[f]?=some a)(e:a.body=some c){ks X:List Nat}{j:List (List Nat)}{rs:List RV}{o:MC}(L:ks.all (fun k=>decide (k<a.ntmps))=true)(S:lE P a.results.toList=some rs)(N:(bU P g ks a.ntmps X c j).1=o){F:List AV->aA->Option AV}(z:∀b h r,F b h=some r->wpM G o (eQ rs r h) [] (aC ks b) h):gG P g f (bO F):=by
 intro B C h w b r h' b1 K i O d;subst K;simp only[bO,bS,aR]at d;obtain⟨p,d,rfl,rfl⟩:=d;have T:=rY (n:=a.ntmps) i L O;have n:=z b h p d;rw[<-N]at n;have U:=kX M c true none (fun _=>rfl) B (GamOK.b E) j _ w [] _ [] _ h _ _ w T (.start rfl) n;refine uR I e i.hB U fun x env fr l C' a' w' k0 k5 k6 k7=>?_;obtain⟨k2,v,k3,k4,a3,W⟩:=k0;refine⟨k2,?_⟩;obtain⟨u,Y,Z⟩:=vL k5.inv k5.rel S k3;have J:frz l v=some (p,dC l (owns v)):=by simp[frz,k4]
 obtain⟨D,q,t,y,d4,d5⟩:=tA k5.inv J Y;have m:C.Le D:=k6.trans q;have H:=yU9 i t m (fun a2 a1 e=>by rw[W,aX (aF.1 e).1];exact e);exact⟨u,Z,u,⟨D.im,C.bl,C.ar⟩,rfl,⟨m.im,fun _ _ x=>x,fun _ _ _ x=>x⟩,H,y.mono ⟨fun _ _ _ x=>x,(fun _ _ x=>by cases x),(fun _ _ _ x=>by cases x)⟩,k7⟩
end
abbrev Bs:=List UInt8
def big:Nat:=1099511627776
structure Enc(α:Type)where
 enc:α->AV
 dec:AV->Option α
 de:∀x,dec (enc x)=some x
 ed:∀a x,dec a=some x->a=enc x
structure REnc(α:Type)where
 enc:α->List AV
 dec:List AV->Option α
 de:∀x,dec (enc x)=some x
 ed:∀a x,dec a=some x->a=enc x
def eStr:Enc Bs where
 enc:=.str
 dec:=fun a=>match a with|.str s=>some s|_=>none
 de:=fun _=>rfl
 ed:=fun a x h=>by cases a<;>simp at h;subst h;rfl
def eInt:Enc Int where
 enc:=.n
 dec:=fun a=>match a with|.n s=>some s|_=>none
 de:=fun _=>rfl
 ed:=fun a x h=>by
  split at h;·injection h with h;subst h;rfl
  ·cases h
def gV(k:IntKind):Enc Int where
 enc:=.int k
 dec:=fun a=>match a with|.int b s=>if k=b then some s else none|_=>none
 de:=fun _=>if_pos rfl
 ed:=fun a x h=>by
  split at h
  ·split at h;·rename_i e;injection h with h;subst h e;rfl
   ·cases h
  ·cases h
def eBool:Enc Bool where
 enc:=.bool
 dec:=fun a=>match a with|.bool s=>some s|_=>none
 de:=fun _=>rfl
 ed:=fun a x h=>by cases a<;>simp at h;subst h;rfl
def pT{α:Type}(r:REnc α):Enc α where
 enc:=fun x=>.agg (r.enc x)
 dec:=fun a=>match a with|.agg s=>r.dec s|_=>none
 de:=fun x=>r.de x
 ed:=fun a x h=>by cases a<;>simp at h;rw[r.ed _ _ h]
def pR{α:Type}(a:List AV->Option α):List (List AV)->Option (List α)
 |[]=>some []|r::b=>match a r,pR a b with
  |some x,some c=>some (x::c)|_,_=>none
theorem PQ{α:Type}(r:REnc α):∀{c:List (List AV)}{b:List α},pR r.dec c=some b->c=b.map r.enc
 |[],b,h=>by simp[pR]at h;subst h;rfl|a::f,b,h=>by
  simp only[pR]at h;split at h
  ·rename_i x g d e;injection h with h;subst h;rw[r.ed _ x d,PQ r e];rfl
  ·cases h
theorem JY{α:Type}(r:REnc α):∀(a:List α),pR r.dec (a.map r.enc)=some a
 |[]=>rfl|x::a=>by simp[pR,r.de,JY r a]
def eSl{α:Type}(r:REnc α):Enc (List α)where
 enc:=fun c=>.sl (c.map r.enc)
 dec:=fun a=>match a with|.sl b=>pR r.dec b|_=>none
 de:=fun x=>JY r x
 ed:=fun a x h=>by cases a<;>simp at h;rw[PQ r h]
def qG{α:Type}(e:Enc α):REnc α where
 enc:=fun x=>[e.enc x]
 dec:=fun a=>match a with|[x]=>e.dec x|_=>none
 de:=fun x=>e.de x
 ed:=fun a x h=>by match a,h with|[y],h=>rw[e.ed _ _ h]
def yG0{α β:Type}(a:Enc α)(b:Enc β):Enc (α×β)where
 enc:=fun x=>.tup [a.enc x.1,b.enc x.2]
 dec:=fun v=>match v with
  |.tup [x,y]=>(a.dec x).bind fun x=>(b.dec y).map fun y=>(x,y)|_=>none
 de:=fun x=>by simp[a.de,b.de]
 ed:=fun v x h=>by
  split at h
  ·rename_i p q;simp only[zN,bS]at h;obtain⟨e,c,f,d,rfl⟩:=h;rw[a.ed _ _ c,b.ed _ _ d]
  ·cases h
def yG1{α β γ:Type}(a:Enc α)(b:Enc β)(c:Enc γ):Enc (α×β×γ)where
 enc:=fun x=>.tup [a.enc x.1,b.enc x.2.1,c.enc x.2.2]
 dec:=fun v=>match v with
  |.tup [x,y,z]=>(a.dec x).bind fun x=>(b.dec y).bind fun y=>(c.dec z).map fun z=>(x,y,z)|_=>none
 de:=fun x=>by simp[a.de,b.de,c.de]
 ed:=fun v x h=>by
  split at h
  ·rename_i p q r;simp only[zN,bS]at h;obtain⟨g,d,i,e,j,f,rfl⟩:=h;rw[a.ed _ _ d,b.ed _ _ e,c.ed _ _ f]
  ·cases h
section
variable{α β γ δ ε ρ:Type}(A:Enc α)(B:Enc β)(C:Enc γ)(D:Enc δ)(R:Enc ρ)
def F0(r:AV):List AV->Option AV
 |[]=>some r|_=>none
def F1(f:α->Option ρ):List AV->Option AV
 |[a]=>(A.dec a).bind fun x=>(f x).map R.enc|_=>none
def F2(f:α->β->Option ρ):List AV->Option AV
 |[a,b]=>(A.dec a).bind fun x=>(B.dec b).bind fun y=>(f x y).map R.enc|_=>none
def F3(f:α->β->γ->Option ρ):List AV->Option AV
 |[a,b,c]=>(A.dec a).bind fun x=>(B.dec b).bind fun y=>(C.dec c).bind fun z=>(f x y z).map R.enc|_=>none
variable{A B C D R}
theorem tZ{f:α->Option ρ}{x:α}{r:ρ}(h:f x=some r):F1 A R f [A.enc x]=some (R.enc r):=by simp[F1,A.de,h]
theorem zi4{f:α->β->Option ρ}{x:α}{y:β}{r:ρ}(h:f x y=some r):F2 A B R f [A.enc x,B.enc y]=some (R.enc r):=by simp[F2,A.de,B.de,h]
theorem yj6{f:α->β->γ->Option ρ}{x:α}{y:β}{z:γ}{r:ρ}(h:f x y z=some r):F3 A B C R f [A.enc x,B.enc y,C.enc z]=some (R.enc r):=by simp[F3,A.de,B.de,C.de,h]
theorem zi2{Q:List AV->AV->Prop}{r:AV}(h:Q [] r):∀b c,F0 r b=some c->Q b c:=by
 intro b c a;unfold F0 at a;split at a;·injection a with a;subst a;exact h
 ·cases a
theorem vY{Q:List AV->AV->Prop}{f:α->Option ρ}(h:∀x r,f x=some r->Q [A.enc x] (R.enc r)):∀b r,F1 A R f b=some r->Q b r:=by
 intro b r a;unfold F1 at a;split at a
 ·simp only[zN,bS]at a;obtain⟨x,c,e,d,rfl⟩:=a;rw[A.ed _ _ c];exact h x e d
 ·cases a
theorem zi3{Q:List AV->AV->Prop}{f:α->β->Option ρ}(h:∀x y r,f x y=some r->Q [A.enc x,B.enc y] (R.enc r)):∀b r,F2 A B R f b=some r->Q b r:=by
 intro b r a;unfold F2 at a;split at a
 ·simp only[zN,bS]at a;obtain⟨x,c,y,d,g,e,rfl⟩:=a;rw[A.ed _ _ c,B.ed _ _ d];exact h x y g e
 ·cases a
theorem yj5{Q:List AV->AV->Prop}{f:α->β->γ->Option ρ}(h:∀x y z r,f x y z=some r->Q [A.enc x,B.enc y,C.enc z] (R.enc r)):∀b r,F3 A B C R f b=some r->Q b r:=by
 intro b r a;unfold F3 at a;split at a
 ·simp only[zN,bS]at a;obtain⟨x,c,y,d,z,e,g,h4,rfl⟩:=a;rw[A.ed _ _ c,B.ed _ _ d,C.ed _ _ e];exact h x y z g h4
 ·cases a
end
theorem yj4{α β ρ:Type}{A:Enc α}{B:Enc β}{R:Enc ρ}{f:α->β->Option ρ}{a:List AV}{r:AV}(h:F2 A B R f a=some r):∃x y z,a=[A.enc x,B.enc y]/\f x y=some z/\r=R.enc z:=zi3 (Q:=fun a r=>∃x y z,a=[A.enc x,B.enc y]/\f x y=some z/\r=R.enc z) (fun x y z h=>⟨x,y,z,rfl,h,rfl⟩) a r h
section
variable{G:Gam}{s:Bool}{ks:List MK}{Q:aS}{env fr:List (Nat×AV)}{h:aA}
@[simp]theorem xz9:trunc h.length fr h=h:=by unfold trunc;split<;>simp
@[simp]theorem xg0{f:FuncId}{b a:List AV}:opV G false h .callv (some (.fn f b::a))=dE G f (a++b) h:=rfl
theorem dV{f:FuncId}{F:List AV->aA->Option (AV×aA)}{a:List AV}(b:G f=some (.gen F)):opV G false h (.call f) (some a)=F a h:=by simp only[opV,iB,bM,bH,fV,cG,AO.quiet,bC,dE,b]
theorem WR{f:FuncId}{F:List AV->Option AV}{a us:List AV}{r:AV}(c:G f=some (.pure F))(e:cV h a=some us)(b:F us=some r)(d:scalar r=true):dE G f a h=some (r,h):=by simp only[dE,c,e,b,d,aM]
theorem mA{f:FuncId}{F:List AV->aA->Option (AV×aA)}{a:List AV}(b:G f=some (.gen F)):dE G f a h=F a h:=by simp only[dE,b]
theorem yV9{α β:Type}{c:Prop}[Decidable c]{v a:α}{h:β}:(if c then some (v,h)else some (a,h))=some (if c then v else a,h):=by split<;>rfl
theorem yV6{c:Prop}[Decidable c]{x y:Bool}:(if c then AV.bool x else AV.bool y)=AV.bool (if c then x else y):=by split<;>rfl
theorem yR9{a:Bool}{r:Option (AV×aA)}{c:Prop}[Decidable c]{x y:AV}:xC a h r (some (if c then x else y))=if c then xC a h r (some x)else xC a h r (some y):=by split<;>rfl
theorem yV7{x y:Bool}:(if On x then true else y)=(x||y):=by cases x<;>rfl
theorem yV4{x y:Bool}:(if On x then y else false)=(x&&y):=by cases x<;>rfl
theorem yV8{x y:Bool}:(if On x then y else true)=(!x||y):=by cases x<;>rfl
theorem yV5{x y:Bool}:(if On x then false else y)=(!x&&y):=by cases x<;>rfl
def ltB(a b:Int):Bool:=decide (a<b)
def eqB(a b:Int):Bool:=decide (a=b)
theorem cH{a b:Int}:ltB a b=true↔a<b:=by simp[ltB]
theorem dQ{a b:Int}:ltB a b=false↔b<=a:=by simp[ltB]
theorem kQ{a b:Int}:eqB a b=true↔a=b:=by simp[eqB]
theorem gM{a b:Int}:eqB a b=false↔¬a=b:=by simp[eqB]
@[simp]theorem yH6{a:Int}:eqB a a=true:=by simp[eqB]
@[simp]theorem xQ7{a:Int}:ltB a a=false:=by simp[ltB]
theorem xq6{k:IntKind}{a b:Int}:bY .lss (.int k a) (.int k b)=some (.bool (ltB a b)):=by simp[bY,jJ,ltB]
theorem xq4{k:IntKind}{a b:Int}:bY .gtr (.int k a) (.int k b)=some (.bool (ltB b a)):=by simp[bY,jJ,ltB]
theorem xq5{k:IntKind}{a b:Int}:bY .leq (.int k a) (.int k b)=some (.bool (!ltB b a)):=by by_cases h:b<a<;>simp[bY,jJ,ltB,h]<;>omega
theorem MR{k:IntKind}{a b:Int}:bY .geq (.int k a) (.int k b)=some (.bool (!ltB a b)):=by by_cases h:a<b<;>simp[bY,jJ,ltB,h]<;>omega
theorem xq3{k:IntKind}{a b:Int}:bY .eql (.int k a) (.int k b)=some (.bool (eqB a b)):=by simp[bY,jJ,eqB];rfl
theorem xq7{k:IntKind}{a b:Int}:bY .neq (.int k a) (.int k b)=some (.bool (!eqB a b)):=by simp[bY,jJ,eqB];rfl
theorem xq2{k:IntKind}{a b:Int}:bY .add (.int k a) (.int k b)=some (.int k (k.wrap (a+b))):=by simp[bY,jJ]
theorem xq9{k:IntKind}{a b:Int}:bY .sub (.int k a) (.int k b)=some (.int k (k.wrap (a-b))):=by simp[bY,jJ]
theorem xq8{c:BinOp}{a b:Bs}:bY c (.str a) (.str b)=eC c a b:=rfl
open Classical in def ask(G:Gam)(h:aA)(f:FuncId)(a:List AV)(x:AV):Option Bool:=if dE G f (x::a) h=some (.T,h)then some true else if dE G f (x::a) h=some (.F,h)then some false else none
theorem DI{f:FuncId}{a:List AV}{x:AV}{b:Bool}(c:dE G f (x::a) h=some (.bool b,h)):ask G h f a x=some b:=by
 unfold ask;cases b<;>simp[c]
theorem VW{f:FuncId}{c:List AV}{x:AV}{b:Bool}(a:ask G h f c x=some b):dE G f (x::c) h=some (.bool b,h):=by
 unfold ask at a;split at a;·injection a with a;subst a;assumption
 ·split at a;·injection a with a;subst a;assumption
  ·cases a
def mT{α:Type}(p:α->Option Bool):Nat->List α->Option Int
 |_,[]=>some (-1)|i,x::a=>match p x with
  |some true=>some i|some false=>mT p (i+1) a|none=>none
def jI{α:Type}(p:α->Bool):Nat->List α->Int
 |_,[]=>-1|i,x::a=>if p x then i else jI p (i+1) a
theorem XS{α β:Type}{q:β->Option Bool}{p:α->Bool}{e:α->β}:∀(a:List α)(i:Nat),(∀x∈a,q (e x)=some (p x))->mT q i (a.map e)=some (jI p i a)
 |[],i,_=>rfl|x::a,i,b=>by
  simp only[fE,mT,b x (by simp),jI];cases p x with
  |true=>rfl|false=>exact XS a (i+1) (fun y c=>b y (by simp[c]))
theorem XT{α:Type}{p:α->Bool}:∀(a:List α)(i:Nat),0<=jI p i a↔a.any p=true
 |[],i=>by simp[jI]|x::a,i=>by
  simp only[jI,List.any_cons];cases b:p x with
  |true=>simp|false=>simp[XT a (i+1)]
theorem iJ{i:Nat}(a:i<big):IntKind.i64.wrap ((i:Int)+1)=((i+1:Nat):Int):=by unfold big at a;rw[i64_in _ (by omega)];rfl
theorem zu2{α:Type}{a:List α}{i:Nat}(h:i<a.length):∃x,a[i]?=some x/\a.drop i=x::a.drop (i+1):=⟨a[i],by simp[h],zE h⟩
theorem PH{a:List AV}{n:Nat}(h:a.length=n):cut a 0 n=a:=by subst h;simp[cut]
@[simp]theorem xK3{v:AV}:cut [v] 0 1=[v]:=rfl
theorem lG{α:Type}{a c:List α}{i:Nat}{x:α}(h:a.drop i=x::c):i<a.length/\a[i]?=some x/\a.drop (i+1)=c:=by
 have b:i<a.length:=by
  rcases lY i a.length with b|b;·exact b
  ·rw[List.drop_eq_nil_iff.2 b]at h;cases h
 refine⟨b,?_,by rw[<-List.drop_drop,h];rfl⟩;have:=congrArg (·[0]?) h;simpa using this
theorem drop_nil{α:Type}{a:List α}{i:Nat}(h:a.drop i=[]):a.length<=i:=by simpa using h
def nY(c:Bool)(n:Nat)(G:Gam):List AV->aA->Option AV
 |[.sl b,.fn f d],h=>if b.length<=big then(mT (fun a=>if a.length=n then(aD c n a).bind (ask G h f d)else none) 0 b).map (.n)else none|_,_=>none
def nX(c:Bool)(n:Nat)(G:Gam):List AV->aA->Option AV
 |[.sl b,.fn f d],h=>if b.length<=big then(mT (fun a=>if a.length=n then(aD c n a).bind (ask G h f d)else none) 0 b).map (fun i=>.bool (!ltB i 0))else none|_,_=>none
theorem zj5{e:Bool}{n:Nat}{d:List AV}{r:AV}(a:nY e n G d h=some r):∃b f c v,d=[.sl b,.fn f c]/\b.length<=big/\mT (fun g=>if g.length=n then(aD e n g).bind (ask G h f c)else none) 0 b=some v/\r=.n v:=by match d,a with
 |[.sl b,.fn f c],a=>
  simp only[nY]at a;split at a
  ·rename_i i;simp only[bS]at a;obtain⟨v,j,rfl⟩:=a;exact⟨b,f,c,v,rfl,i,j,rfl⟩
  ·cases a
theorem zj4{e:Bool}{n:Nat}{d:List AV}{r:AV}(a:nX e n G d h=some r):∃b f c v,d=[.sl b,.fn f c]/\b.length<=big/\mT (fun g=>if g.length=n then(aD e n g).bind (ask G h f c)else none) 0 b=some v/\r=.bool (!ltB v 0):=by match d,a with
 |[.sl b,.fn f c],a=>
  simp only[nX]at a;split at a
  ·rename_i i;simp only[bS]at a;obtain⟨v,j,rfl⟩:=a;exact⟨b,f,c,v,rfl,i,j,rfl⟩
  ·cases a
theorem XC{α:Type}{C f:FuncId}{agg:Bool}{n:Nat}{G0:Gam}{caps:List AV}{xs:List α}{e:α->List AV}{val:α->AV}{p:α->Bool}(g:G C=some (.gen (bO (nX agg n G0))))(i:xs.length<=big)(c:∀x,aD agg n (e x)=some (val x)/\(e x).length=n)(m:∀x∈xs,ask G0 h f caps (val x)=some (p x)):opV G false h (.call C) (some [.sl (xs.map e),.fn f caps])=some (.bool (xs.any p),h):=by
 rw[dV g];have:=XS (q:=fun d=>if d.length=n then(aD agg n d).bind (ask G0 h f caps)else none) (p:=p) (e:=e) xs 0 (fun x o=>by simp[(c x).1,(c x).2,m x o]);have b:=XT (p:=p) xs 0;have j:(xs.map e).length<=big:=by simpa using i
 simp only[bO,nX,j,aM,this,dI,aE,aR,AV.bool.injEq,and_true];cases a:xs.any p with
 |true=>simp[dQ.2 (b.2 a)]|false=>
  have l:¬0<=jI p 0 xs:=fun k=>by rw[b.1 k]at a;cases a
  simp[cH.2 (Int.not_le.1 l)]
theorem yT5{α:Type}{C f:FuncId}{agg:Bool}{n:Nat}{G0:Gam}{a:List AV}{xs:List α}{e:α->List AV}{val:α->AV}{p:α->Bool}(d:G C=some (.gen (bO (nY agg n G0))))(g:xs.length<=big)(b:∀x,aD agg n (e x)=some (val x)/\(e x).length=n)(j:∀x∈xs,ask G0 h f a (val x)=some (p x)):opV G false h (.call C) (some [.sl (xs.map e),.fn f a])=some (.n (jI p 0 xs),h):=by
 rw[dV d];have:=XS (q:=fun c=>if c.length=n then(aD agg n c).bind (ask G0 h f a)else none) (p:=p) (e:=e) xs 0 (fun x k=>by simp[(b x).1,(b x).2,j x k]);have i:(xs.map e).length<=big:=by simpa using g
 simp only[bO,nY,i,aM,this,dI]
theorem vH{c:Bool}{s:Bs}{i:Nat}{b:UInt8}{k:IntKind}(a:s[i]?=some b):opV G c h .istr (some [.str s,.int k i])=some (.int .u8 b.toNat,h):=by rw[bW rfl];simp[bV,a]
@[simp]theorem LU{a:Bool}{s:Bs}{b:UInt8}{k:IntKind}:opV G a h .istr (some [.str (b::s),.int k 0])=some (.int .u8 b.toNat,h):=vH (i:=0) rfl
attribute[simp]yV9 yV6 yR9 yV7 yV4 yV8 yV5
attribute[simp]aY cQ low bA bG gR tF eC GO xq6 xq4 xq5 MR xq3 xq7 xq2 xq9 xq8 aW aJ cZ eR fA view cV aB
end
def AI{β:Type}(k:Bs):List (Bs×β)->Option β
 |[]=>none|(a,v)::r=>if k=a then some v else AI k r
def FV{β:Type}(k:Bs)(v:β):List (Bs×β)->List (Bs×β)
 |[]=>[(k,v)]|(a,u)::r=>if k=a then(a,v)::r else(a,u)::FV k v r
section
variable{β:Type}(V:Enc β)
def lQ(m:List (Bs×β)):List (AV×AV):=m.map fun p=>(.str p.1,V.enc p.2)
variable{V}
theorem zO0{k:Bs}:∀m:List (Bs×β),iP .s (.str k) (lQ V m)=some ((AI k m).map V.enc)
 |[]=>rfl|(b,x)::r=>by
  have a:=zO0 (k:=k) r;simp only[lQ]at a;simp only[lQ,fE,iP,qA,AI];by_cases h:k=b;·simp[h]
  ·have:(k==b)=false:=by simp[h]
   simp only[this,h,bH];exact a
theorem zO3{k:Bs}{v:β}:∀m:List (Bs×β),tG .s (.str k) (V.enc v) (lQ V m)=some (lQ V (FV k v m))
 |[]=>rfl|(b,x)::r=>by
  have a:=zO3 (k:=k) (v:=v) r;simp only[lQ]at a;simp only[lQ,fE,tG,qA,FV];by_cases h:k=b;·simp[h]
  ·have:(k==b)=false:=by simp[h]
   simp only[this,h,bH,a];rfl
variable{G:Gam}{s:Bool}{h:aA}
theorem xg1{l:Nat}{m:List (Bs×β)}{k:Bs}{a:AV}(b:h[l]?=some (.map (lQ V m))):opV G s h (.look .s false a) (some [.map l,.str k])=some (((AI k m).map V.enc).getD a,h):=by
 rw[bW rfl];simp only[bV,isKey,aM,b,zO0,dI];cases AI k m<;>rfl
theorem xg3{l:Nat}{m:List (Bs×β)}{k:Bs}{v:β}{x:AV}(a:h[l]?=some (.map (lQ V m)))(d:x=V.enc v)(c:view h x=some x)(b:owns x=[]):opV G s h (.mapup .s) (some [.map l,.str k,x])=some (.junk,h.set l (.map (lQ V (FV k v m)))):=by
 subst d;rw[fG rfl];simp only[bC,isKey,aM,frz,c,dI,b,dC,a,zO3]
end
section
variable{G:Gam}{s:Bool}{h:aA}
@[simp]theorem xJ0(c:List AV):(AV.agg c).cells=c:=rfl
@[simp]theorem xJ1(b:Bool):(AV.bool b).cells=[.bool b]:=rfl
@[simp]theorem xR2(b:Bool):bE (AV.bool b)=true:=rfl
@[simp]theorem xJ3(k:IntKind)(n:Int):(AV.int k n).cells=[.int k n]:=rfl
@[simp]theorem xR4(k:IntKind)(n:Int):bE (AV.int k n)=true:=rfl
@[simp]theorem xJ9(s:Bs):(AV.str s).cells=[.str s]:=rfl
@[simp]theorem xS0(s:Bs):bE (AV.str s)=true:=rfl
@[simp]theorem xJ8(r:List (List AV)):(AV.sl r).cells=[.sl r]:=rfl
@[simp]theorem xR9(r:List (List AV)):bE (AV.sl r)=true:=rfl
@[simp]theorem xK0(r:List (List AV)):(AV.tsl r).cells=[.tsl r]:=rfl
@[simp]theorem xS1(r:List (List AV)):bE (AV.tsl r)=true:=rfl
@[simp]theorem xJ5:(AV.nils).cells=[.nils]:=rfl
@[simp]theorem xR6:bE (AV.nils)=true:=rfl
@[simp]theorem xJ6(l v n:Nat):(AV.own l v n).cells=[.own l v n]:=rfl
@[simp]theorem xR7(l v n:Nat):bE (AV.own l v n)=true:=rfl
@[simp]theorem xJ4(l:Nat):(AV.map l).cells=[.map l]:=rfl
@[simp]theorem xR5(l:Nat):bE (AV.map l)=true:=rfl
@[simp]theorem xJ7(l o:Nat):(AV.ptr l o).cells=[.ptr l o]:=rfl
@[simp]theorem xR8(l o:Nat):bE (AV.ptr l o)=true:=rfl
@[simp]theorem xJ2(f:FuncId)(c:List AV):(AV.fn f c).cells=[.fn f c]:=rfl
@[simp]theorem xR3(f:FuncId)(c:List AV):bE (AV.fn f c)=true:=rfl
@[simp]theorem xQ2{α:Type}(a b c:α):[a,b].set 1 c=[a,c]:=rfl
@[simp]theorem xK4{x:AV}{a:List AV}{n k:Nat}:cut (x::a) (n+1) k=cut a n k:=rfl
@[simp]theorem xK5{x:AV}{a:List AV}{k:Nat}:cut (x::a) 0 (k+1)=x::cut a 0 k:=rfl
@[simp]theorem xK2{a:List AV}{n:Nat}:cut a n 0=[]:=by simp[cut]
@[simp]theorem xQ9{c:AV}{a:List AV}{n:Nat}:aD true n (c::a)=if(c::a).length=n then some (.agg (c::a))else none:=by simp[aD]
attribute[simp]bF owns eZ dC
theorem LT{v:AV}{c:AV}{a:List AV}(b:v.cells=c::a):opV G s h .box (some [v])=some (.ptr h.length 0,h++[.cells (c::a)]):=by rw[fG rfl];simp only[bC,b]
@[simp]theorem xS4{c:AV}{a:List AV}:opV G s h .box (some [.agg (c::a)])=some (.ptr h.length 0,h++[.cells (c::a)]):=LT rfl
@[simp]theorem xS8{x:Bs}:opV G s h .box (some [.str x])=some (.ptr h.length 0,h++[.cells [.str x]]):=LT rfl
@[simp]theorem xS6{l:Nat}:opV G s h .box (some [.map l])=some (.ptr h.length 0,h++[.cells [.map l]]):=LT rfl
@[simp]theorem xS5{k:IntKind}{n:Int}:opV G s h .box (some [.int k n])=some (.ptr h.length 0,h++[.cells [.int k n]]):=LT rfl
@[simp]theorem xS7{n:List (List AV)}:opV G s h .box (some [.sl n])=some (.ptr h.length 0,h++[.cells [.sl n]]):=LT rfl
@[simp]theorem aQ{n l a:Nat}{v:AV}:bB n h (.ptr l a) v=if v.cells.length=n/\0<n/\v.cells.all bE then(match h[l]? with
 |some (.cellsT tg b)=>if a+n<=b.length then some (h.set l (.cellsT tg (bF b a v.cells)))else none|_=>none)else none:=rfl
theorem xV{tg:Option TypeId}{l v d:Nat}{a:List (List AV)}{e:Bool}(b:h[l]?=some (.arrT tg d v a e)){n:Nat}(c:n=a.length):rowsOf h (.own l v n)=some a:=by subst c;simp[rowsOf,b]
theorem KO{tg:Option TypeId}{l v j c i n:Nat}{a:List (List AV)}{m:Bool}{k:IntKind}{row:List AV}(e:h[l]?=some (.arrT tg j v a m))(f:n=a.length)(b:a[i]?=some row)(g:row.length=c):bN c h (.own l v n) (.int k i)=some (.eptr l v i 0):=by
 have o:i<a.length:=(aF.1 b).1;subst f;have d:(i:Int)<a.length:=by omega
 simp[bN,e,b,g,d]
theorem KS{tg:Option TypeId}{l v j a i c:Nat}{b:Bool}{e:List (List AV)}{k:Bool}{d:List AV}(g:h[l]?=some (.arrT tg j v e k))(f:e[i]?=some d):aB a b h (.eptr l v i c)=aD b a (cut d c a):=by simp[aB,g,f]
theorem SL{l v d n i a:Nat}{c:List (List AV)}{b:List AV}{x:AV}(k:h[l]?=some (.arr d v c true))(j:c[i]?=some b)(e:x.cells.length=n)(f:0<n)(g:x.cells.all bE=true)(h4:a+n<=b.length)(o:view h x=some x)(m:owns x=[]):opV G s h (.st n) (some [.eptr l v i a,x])=some (.junk,h.set l (.arr d v (c.set i (bF b a x.cells)) true)):=by rw[xN];simp[bB,e,f,g,frz,o,m,dC,k,j,h4]
theorem za1{zero:List AV}{bytes n:Nat}{k k':IntKind}(a:n*bytes<=dJ)(b:n<=dJ):opV G s h (.mksl zero bytes) (some [.int k n,.int k' n])=some (.own h.length 0 n,h++[.arr zero.length 0 (List.replicate n zero) true]):=by rw[fG rfl];simp[bC,a,b]
theorem ya0{α:Type}{e:α->List AV}{n:Nat}(b:∀x,(e x).length=n):∀a:List α,dH n (a.map e)=true
 |[]=>rfl|x::a=>by simp[dH,b,ya0 b a]
theorem tI{α:Type}{e:α->List AV}{n b l:Nat}{os:List α}{x:α}(f:h[l]?=some (.arr n os.length (os.map e) true))(g:(e x).length=n)(c:b<=64)(a:os.length<big):opV G s h (.app false n b) (some [.own l os.length os.length,.tsl [e x]])=some (.own l (os++[x]).length (os++[x]).length,h.set l (.arr n (os++[x]).length ((os++[x]).map e) true)):=by
 have d:(os.length+1)*b<=dJ:=by
  have:(os.length+1)*b<=big*64:=Nat.mul_le_mul (by omega) c;unfold dJ;unfold big at this a;omega
 have:=SK (G:=G) (s:=s) (h:=h) (n:=n) (b:=b) (l:=l) (ver:=os.length) (k:=os.length) (x:=.tsl [e x]) (new:=[e x]) (rows:=os.map e) rfl f (by simp) (by simp[dH,g]) (by simp) (by simpa using d) (by unfold big at a;unfold dJ;simp;omega);simpa using this
end
def eNat:Enc Nat where
 enc:=fun n=>.n n
 dec:=fun a=>match a with|.n s=>if 0<=s then some s.toNat else none|_=>none
 de:=fun n=>by simp
 ed:=fun a x h=>by
  split at h
  ·split at h;·injection h with h;subst h;rename_i s b;congr 1;omega
   ·cases h
  ·cases h
@[simp]theorem xM1(n:Nat):eNat.enc n=.n n:=rfl
@[simp]theorem xM2(n:Bs):eStr.enc n=.str n:=rfl
@[simp]theorem xL9(n:Int):eInt.enc n=.n n:=rfl
@[simp]theorem xM0(k:IntKind)(n:Int):(gV k).enc n=.int k n:=rfl
@[simp]theorem xL8(n:Bool):eBool.enc n=.bool n:=rfl
@[simp]theorem xM3{α β:Type}(a:Enc α)(b:Enc β)(x:α×β):(yG0 a b).enc x=.tup [a.enc x.1,b.enc x.2]:=rfl
@[simp]theorem xM4{α β γ:Type}(a:Enc α)(b:Enc β)(c:Enc γ)(x:α×β×γ):(yG1 a b c).enc x=.tup [a.enc x.1,b.enc x.2.1,c.enc x.2.2]:=rfl
def rStr:REnc Bs:=qG eStr
@[simp]theorem xW0(s:Bs):rStr.enc s=[.str s]:=rfl
def jS(c:UInt8):Bs->List Bs
 |[]=>[[]]|b::r=>if b=c then[]::jS c r else match jS c r with
  |p::a=>(b::p)::a|[]=>[[b]]
theorem yb1(c:UInt8):∀s:Bs,Lib.splitK [c] 0 (Lib.count s [c]) s=jS c s
 |[]=>by simp[Lib.count_one,Lib.splitK,jS]|b::r=>by
  have a:=yb1 c r;by_cases h:b=c
  ·subst h;have d:Lib.index (b::r) [b]=0:=by rw[Lib.index_one];simp[Lib.indexByte]
   rw[Lib.count_cons_eq,Nat.add_comm 1];simp only[Lib.splitK,d];simp[a,jS]
  ·rw[Lib.count_cons_ne b c r h];have d:Lib.index (b::r) [c]=if Lib.index r [c]==-1 then-1 else Lib.index r [c]+1:=by rw[Lib.index_one,Lib.index_one];simp[Lib.indexByte,h]
   simp only[jS,h,bH];cases f:Lib.count r [c]with
   |zero=>
    rw[f]at a;simp only[Lib.splitK]at a⊢;rw[<-a]|succ k=>
    rw[f]at a;simp only[Lib.splitK]at a⊢;rw[d];by_cases g:Lib.index r [c]=-1
    ·simp only[g,BEq.rfl,aM]at a⊢;rw[<-a]
    ·have l:=Lib.index_ge r [c];have i:(Lib.index r [c]==-1)=false:=by simp[g]
     have j:(Lib.index r [c]+1==-1)=false:=by simp;omega
     simp only[i,bM,bH,j]at a⊢;rw[<-a];have e:(Lib.index r [c]+1).toNat=(Lib.index r [c]).toNat+1:=by omega
     simp[e]
theorem xj9{P:Program}{t:Gv}{f:FuncId}{F:List AV->Option AV}{ty:TypeId}(y:∀(I:Nat->Nat->Option Value)(w:World)(l:List AV)(r:AV)(n:Array Value),Holds I w->GvHolds t I w->RelL (Cx.pure I) l n.toList->F l=some r->∃d:List Bs,r=.sl (d.map rStr.enc)/\Calls P f n w fun e x=>e=.returned (.slice (some ⟨w.heap.size,0,none⟩) d.length d.length)/\x=w.alloc (.cells ((d.map fun s=>Value.string ⟨s.toArray⟩).toArray) ty)):dP P t f F:=by
 intro I w l r n m H N z;obtain⟨d,rfl,E⟩:=y I w l r n m H N z;refine E.mono fun e x J=>?_;obtain⟨rfl,rfl⟩:=J;have M:(w.alloc (.cells ((d.map fun s=>Value.string ⟨s.toArray⟩).toArray) ty)).heap[w.heap.size]?=some (.cells ((d.map fun s=>Value.string ⟨s.toArray⟩).toArray) ty (0,0)):=heap_alloc_new w _;have L:∀b o u,I b o=some u->b<w.heap.size:=fun b o u a=>rA (m.cell b o u a);refine⟨_,fun b o=>if b=w.heap.size then(d[o]?).map (fun s=>Value.string ⟨s.toArray⟩)else I b o,rfl,⟨fun b o u a=>?_,fun b o u a O=>?_⟩,⟨fun b o u a=>?_,fun b o u a=>?_⟩,?_,gY w _⟩
 ·show(if b=w.heap.size then _ else _)=_;rw[if_neg (by have:=L b o u a;omega)];exact a
 ·replace a:(if b=w.heap.size then(d[o]?).map (fun s=>Value.string ⟨s.toArray⟩)else I b o)=some u:=a;rw[if_neg (by omega)]at a;exact a
 ·replace a:(if b=w.heap.size then(d[o]?).map (fun s=>Value.string ⟨s.toArray⟩)else I b o)=some u:=a;split at a
  ·rename_i e;subst e;rw[cell_of_heap M];obtain⟨s,g,rfl⟩:=bS.1 a;simp[g]
  ·have g:=m.cell b o u a;rw[Below.cell (gY w _) (p:=⟨b,o,none⟩) (rA g)];exact g
 ·replace a:(if b=w.heap.size then(d[o]?).map (fun s=>Value.string ⟨s.toArray⟩)else I b o)=some u:=a;split at a
  ·obtain⟨s,g,rfl⟩:=bS.1 a;rfl
  ·exact m.one b o u a
 ·have K:d.length=(d.map rStr.enc).length:=by simp
  rw[K];refine .sl _ w.heap.size 0 _ 1 (fun i _=>.string ⟨((d[i]?).getD []).toArray⟩) (bP _) (fun i v h=>?_) (fun i v j c g k=>?_) (fun i v j c g k=>?_)
  ·simp only[pM,bS]at h;obtain⟨s,_,rfl⟩:=h;rfl
  ·simp only[pM,bS]at g;obtain⟨s,p,rfl⟩:=g;have q:j=0:=by cases j with
    |zero=>rfl|succ j=>simp at k
   subst q;simp[Cx.pure,p]
  ·simp only[pM,bS]at g;obtain⟨s,p,rfl⟩:=g;have q:j=0:=by cases j with
    |zero=>rfl|succ j=>simp at k
   subst q;simp at k;subst k;simp only[p,Option.getD_some];exact .str s
def HG:List AV->Option AV:=F2 eStr eStr (eSl rStr) fun s a=>match a with
 |[c]=>if s.length<4294967281 then some (jS c s)else none|_=>none
theorem xv1{P:Program}{j:Gv}{f:FuncId}{ty g:Nat}{m:Int}(z:j g=some [.n m])(x:∀(s a:ByteArray)(w:World),s.size<4294967281->w.cell? ⟨g,0,none⟩=some (.int .i64 m)->1<=a.size->Calls P f #[.string s,.string a] w fun e M=>e=.returned (.slice (some ⟨w.heap.size,0,none⟩) (Lib.countB s a+1) (Lib.countB s a+1))/\M=w.alloc (.cells ((Lib.splitB a 0 (Lib.countB s a) s).map Value.string).toArray ty)):dP P j f HG:=by
 refine xj9 (ty:=ty) fun I w N r L u E d t=>?_;obtain⟨s,a,O,rfl,h,rfl⟩:=yj4 t;split at h
 ·rename_i c;split at h
  ·rename_i J;injection h with h;subst h;refine⟨jS c s,rfl,?_⟩;obtain⟨W,T,n,p,d⟩:=d.inv_cons;obtain⟨X,U,rfl,q,d⟩:=d.inv_cons;have:=d.inv_nil;subst this;have:=eD p;subst this;have:=eD q;subst this;have K:L=#[.string ⟨s.toArray⟩,.string ⟨[c].toArray⟩]:=by apply kK;simpa using n
   subst K;have H:w.cell? ⟨g,0,none⟩=some (.int .i64 m):=by
    have:=E.gl g _ z;cases this with|fptr _ _ b o S k1 k2=>
     have e:=k2 0 (.n m) rfl;have:=dK e;have i:=u.cell _ _ _ (k1 0 (.n m) rfl);rw[this]at i;simpa using i
   have k:=x ⟨s.toArray⟩ ⟨[c].toArray⟩ w (by rw[nB];exact J) H (by rw[nB];simp);have v:=Lib.splitB_all (⟨[c].toArray⟩:ByteArray) (by rw[nB];simp) 0 _ ⟨s.toArray⟩ rfl;have l:(Lib.splitB ⟨[c].toArray⟩ 0 (Lib.countB ⟨s.toArray⟩ ⟨[c].toArray⟩) ⟨s.toArray⟩).map (·.data.toList)=jS c s:=by rw[Lib.splitB_data];exact yb1 c s
   have y:(Lib.splitB ⟨[c].toArray⟩ 0 (Lib.countB ⟨s.toArray⟩ ⟨[c].toArray⟩) ⟨s.toArray⟩).map Value.string=(jS c s).map fun s=>Value.string ⟨s.toArray⟩:=by rw[<-l,List.map_map];rfl
   have F:(jS c s).length=Lib.countB ⟨s.toArray⟩ ⟨[c].toArray⟩+1:=by rw[<-l,kG];exact v
   rw[y,<-F]at k;exact k
  ·cases h
 ·cases h
section
variable{G:Gam}{ks:List MK}{Q:aS}{env fr:List (Nat×AV)}{h:aA}
theorem zQ3{Y:Nat->List AV->aA->Option (AV×aA)}{k:Nat}{a:List AV}:opV {G with y:=Y} false h .callv (some (.yld k::a))=Y k a h:=rfl
@[simp]theorem xX7{Y:Nat->List AV->aA->Option (AV×aA)}{f:FuncId}:({G with y:=Y}:Gam).fn f=G.fn f:=rfl
theorem AF{l:Nat}{v:AV}(a:h[l]?=some (.cells [v])):aB 1 false h (.ptr l 0)=some v:=by simp[aB,a,cut,aD]
end
mutual theorem AM{n m:Nat}(a:n<=m):∀{v:AV},low n v=true->low m v=true
 |.own l _ _,h=>by simp only[low,fD]at h⊢;omega|.win l _ _ _,h=>by simp only[low,fD]at h⊢;omega|.ptr l _,h=>by simp only[low,fD]at h⊢;omega|.eptr l _ _ _,h=>by simp only[low,fD]at h⊢;omega|.map l,h=>by simp only[low,fD]at h⊢;omega|.yld l,h=>by simp only[low,fD]at h⊢;omega|.agg c,h=>by simp only[low]at h⊢;exact AK a h|.tup c,h=>by simp only[low]at h⊢;exact AK a h|.fn _ c,h=>by simp only[low]at h⊢;exact AK a h|.mth _ v,h=>by simp only[low]at h⊢;exact AM a h|.iface _ v,h=>by simp only[low]at h⊢;exact AM a h|.bool _,_=>rfl|.int _ _,_=>rfl|.str _,_=>rfl|.sl _,_=>rfl|.tsl _,_=>rfl|.nils,_=>rfl|.fptr _ _,_=>rfl|.gptr _ _,_=>rfl|.nilp,_=>rfl|.nilm,_=>rfl|.nilf,_=>rfl|.nili,_=>rfl|.junk,_=>rfl theorem AK{n m:Nat}(a:n<=m):∀{b:List AV},bA n b=true->bA m b=true
 |[],_=>rfl|v::b,h=>by
  simp only[bA,bR]at h⊢;exact⟨AM a h.1,AK a h.2⟩end
theorem zM5{n m:Nat}(b:n<=m):∀{a:List (List AV)},tF n a=true->tF m a=true
 |[],_=>rfl|r::a,h=>by
  simp only[tF,bR]at h⊢;exact⟨AK b h.1,zM5 b h.2⟩
theorem zL8{n m:Nat}(a:n<=m){b:Blk}(h:gR n b=true):gR m b=true:=by cases b with
 |cellsT tg i=>exact AK a h|arrX c tg f g e j=>cases c with
  |false=>rfl|true=>exact zM5 a h
 |mit k q seen d=>cases k with
  |none=>rfl|some k=>simp only[gR,fD]at h⊢;omega
 |_=>rfl
theorem AJ{n m:Nat}(b:n<=m){h:aA}(k:bG n h=true):bG m h=true:=KW fun _ _ a=>zL8 b (ER k a)
theorem KX{n l:Nat}{h:aA}{b:Blk}(k:bG n h=true)(d:gR n b=true):bG n (h.set l b)=true:=by
 refine KW fun i c a=>?_;rw[iZ]at a;split at a
 ·split at a;·injection a with a;subst a;exact d
  ·cases a
 ·exact ER k a
theorem xH{n:Nat}{a b:aA}(e:bG n a=true)(f:bG n b=true):bG n (a++b)=true:=by
 refine KW fun i c d=>?_;rw[List.getElem?_append]at d;split at d;·exact ER e d
 ·exact ER f d
theorem yE{n:Nat}{fr:List (Nat×AV)}{a b:aA}(e:a.length=n)(d:cQ n fr=true)(c:bG n a=true):trunc n fr (a++b)=a:=by
 have f:(a++b).take n=a:=by subst e;simp
 unfold trunc;rw[f,d,c];rfl
theorem KU{a b:aA}:Leaves a (a++b):=⟨by simp,fun l c d=>.inr (by rw[aX (aF.1 d).1];exact d)⟩
theorem yX1{a:aA}:Leaves a a:=⟨bP _,fun _l _c b=>.inr b⟩
mutual def fT:AV->AV->Bool
 |.bool a,.bool b=>a==b|.int k a,.int o b=>decide (k=o)&&decide (a=b)|.str s,.str t=>decide (s=t)|.agg a,.agg b=>pO a b|.tup a,.tup b=>pO a b|.sl a,.sl b=>wP a b|.tsl a,.tsl b=>wP a b|.nils,.nils=>true|.own a b c,.own e i m=>decide (a=e)&&decide (b=i)&&decide (c=m)|.ptr a b,.ptr e i=>decide (a=e)&&decide (b=i)|.fptr r a,.fptr p e=>pO r p&&decide (a=e)|.eptr a b c d,.eptr e i m n=>decide (a=e)&&decide (b=i)&&decide (c=m)&&decide (d=n)|.gptr a b,.gptr e i=>decide (a=e)&&decide (b=i)|.nilp,.nilp=>true|.map a,.map b=>decide (a=b)|.nilm,.nilm=>true|.fn f a,.fn g b=>decide (f=g)&&pO a b|.mth f a,.mth g b=>decide (f=g)&&fT a b|.nilf,.nilf=>true|.iface t a,.iface u b=>decide (t=u)&&fT a b|.nili,.nili=>true|.junk,.junk=>true|_,_=>false def pO:List AV->List AV->Bool
 |[],[]=>true|a::j,b::l=>fT a b&&pO j l|_,_=>false def wP:List (List AV)->List (List AV)->Bool
 |[],[]=>true|a::j,b::l=>pO a b&&wP j l|_,_=>false end
mutual theorem wQ:∀(a b:AV),fT a b=true->a=b
 |.bool a,b,h=>by cases b<;>simp_all[fT]|.int k a,b,h=>by cases b<;>simp_all[fT]|.str s,b,h=>by cases b<;>simp_all[fT]|.agg a,b,h=>by
  cases b<;>simp only[fT,bM]at h;rw[uQ a _ h]|.tup a,b,h=>by
  cases b<;>simp only[fT,bM]at h;rw[uQ a _ h]|.sl a,b,h=>by
  cases b<;>simp only[fT,bM]at h;rw[ON a _ h]|.tsl a,b,h=>by
  cases b<;>simp only[fT,bM]at h;rw[ON a _ h]|.nils,b,h=>by cases b<;>simp_all[fT]|.own _ _ _,b,h=>by cases b<;>simp_all[fT]|.win _ _ _ _,b,h=>by cases b<;>simp_all[fT]|.ptr _ _,b,h=>by cases b<;>simp_all[fT]|.fptr r _,b,h=>by
  cases b<;>simp only[fT,bM,bR,fD]at h;rw[uQ r _ h.1,h.2]|.eptr _ _ _ _,b,h=>by cases b<;>simp_all[fT]|.gptr _ _,b,h=>by cases b<;>simp_all[fT]|.nilp,b,h=>by cases b<;>simp_all[fT]|.map _,b,h=>by cases b<;>simp_all[fT]|.nilm,b,h=>by cases b<;>simp_all[fT]|.fn _ a,b,h=>by
  cases b<;>simp only[fT,bM,bR,fD]at h;rw[uQ a _ h.2,h.1]|.mth _ a,b,h=>by
  cases b<;>simp only[fT,bM,bR,fD]at h;rw[wQ a _ h.2,h.1]|.nilf,b,h=>by cases b<;>simp_all[fT]|.iface _ a,b,h=>by
  cases b<;>simp only[fT,bM,bR,fD]at h;rw[wQ a _ h.2,h.1]|.nili,b,h=>by cases b<;>simp_all[fT]|.yld _,b,h=>by cases b<;>simp_all[fT]|.junk,b,h=>by cases b<;>simp_all[fT]theorem uQ:∀(a b:List AV),pO a b=true->a=b
 |[],b,h=>by cases b<;>simp_all[pO]|a::c,b,h=>by cases b with
  |nil=>simp[pO]at h|cons b d=>
   simp only[pO,bR]at h;rw[wQ a b h.1,uQ c d h.2]theorem ON:∀(a b:List (List AV)),wP a b=true->a=b
 |[],b,h=>by cases b<;>simp_all[wP]|a::c,b,h=>by cases b with
  |nil=>simp[wP]at h|cons b d=>
   simp only[wP,bR]at h;rw[uQ a b h.1,ON c d h.2]end
def MT(G:Gam)(m:MI)(env fr:List (Nat×AV))(v:AV)(h:aA):Bool:=!m.o.loud&&match dG G true m (aV env fr) h with
 |some (u,_)=>fT u v|none=>false
theorem yb8{G:Gam}{m:MI}{e:Nat->Option AV}{h c:aA}{v:AV}(d:m.o.loud=false)(a:dG G true m e h=some (v,c)):c=h:=by
 unfold dG at a;simp only[d,lA,Bool.and_true,aM]at a;split at a
 ·split at a;·cases b:iN G h m.o _ with
   |none=>rw[b]at a;cases a|some u=>rw[b]at a;simp at a;exact a.2.symm
  ·cases a
 ·split at a
  ·split at a
   ·split at a;·cases b:iN G h m.o _ with
     |none=>rw[b]at a;cases a|some u=>rw[b]at a;simp at a;exact a.2.symm
    ·cases a
   ·simp at a;exact a.2.symm
  ·simp at a;exact a.2.symm
  ·cases a
theorem zY4{G:Gam}{m:MI}{env fr:List (Nat×AV)}{v:AV}{h:aA}(a:MT G m env fr v h=true):dG G true m (aV env fr) h=some (v,h):=by
 unfold MT at a;simp only[bR,mM]at a;obtain⟨c,a⟩:=a;split at a
 ·rename_i u d b;rw[b,wQ _ _ a,yb8 c b]
 ·cases a
structure PX where
 n:Nat
 m:MI
 env:List (Nat×AV)fr:List (Nat×AV)v:AV
def PX.pd(G:Gam)(x:PX):Nat×(aA->Prop):=(x.n,fun h=>dG G true x.m (aV x.env x.fr) h=some (x.v,h))
def DY(G:Gam)(h:aA):List PX->Bool
 |[]=>true|x::r=>(x.n !=0||MT G x.m x.env x.fr x.v h)&&DY G h r
def vD:List PX->List PX
 |[]=>[]|⟨0,_,_,_,_⟩::r=>vD r|⟨n+1,m,e,f,v⟩::r=>⟨n,m,e,f,v⟩::vD r
def xJ(m:MI)(env fr:List (Nat×AV))(v:AV):List Nat->List PX
 |[]=>[]|d::r=>⟨d,m,env,fr,v⟩::xJ m env fr v r
theorem QA{G:Gam}{h:aA}:∀{l:List PX},DY G h l=true->mX h (l.map (PX.pd G))
 |[],_=>trivial|⟨0,m,e,f,v⟩::r,a=>by
  simp only[DY,bR,zD,bne_iff_ne,ne_eq,not_true_eq_false,false_or]at a;exact⟨zY4 a.1,QA a.2⟩|⟨n+1,m,e,f,v⟩::r,a=>by
  simp only[DY,bR]at a;exact QA (l:=r) a.2
theorem RZ{G:Gam}:∀{l:List PX},mE (l.map (PX.pd G))=(vD l).map (PX.pd G)
 |[]=>rfl|⟨0,_,_,_,_⟩::r=>RZ (l:=r)|⟨_+1,_,_,_,_⟩::r=>congrArg (_::·) (RZ (l:=r))
theorem ZT{G:Gam}{m:MI}{env fr:List (Nat×AV)}{v:AV}:∀{l:List Nat},qF G m env fr v l=(xJ m env fr v l).map (PX.pd G)
 |[]=>rfl|_::r=>congrArg (_::·) (ZT (l:=r))
def xX(G:Gam)(b:aA):List ME->List PX->List (Nat×AV)->List (Nat×AV)->aA->Option (List (Nat×AV)×List (Nat×AV)×aA)
 |[],a,env,fr,h=>if DY G h a then some (env,fr,h)else none|(e,f,m)::d,a,env,fr,h=>if DY G h a then(match dG G true m (aV env fr) h with
  |none=>none|some (v,c)=>if !e||MT G m env fr v b then(match m.dst with
   |none=>xX G b d (xJ m env fr v f++vD a) env fr c|some t=>if m.kept then xX G b d (xJ m env fr v f++vD a) env (upd t v fr) c else xX G b d (xJ m env fr v f++vD a) ((t,v)::env) fr c)else none)else none
theorem TI{G:Gam}{n:aA}{Q:List (Nat×AV)->List (Nat×AV)->aA->Prop}:∀{l:List ME}{pd:List PX}{env fr d f:List (Nat×AV)}{h g:aA},xX G n l pd env fr h=some (d,f,g)->Q d f g->jP G n l Q (pd.map (PX.pd G)) env fr h
 |[],pd,env,fr,d,f,h,g,a,c=>by
  simp only[xX]at a;split at a
  ·rename_i i;simp only[aE,aR]at a;obtain⟨rfl,rfl,rfl⟩:=a;exact⟨QA i,c⟩
  ·cases a|(e,u,m)::l,pd,env,fr,d,f,h,g,a,c=>by
  simp only[xX]at a;split at a
  ·rename_i i;refine⟨QA i,?_⟩;split at a;·cases a
   ·rename_i v q p;split at a
    ·rename_i b;rw[p];refine⟨fun o=>?_,?_⟩
     ·subst o;simp only[uK,Bool.false_or]at b;have r:m.o.loud=false:=by
       unfold MT at b;simp only[bR,mM]at b;exact b.1
      exact zY4 b
     ·rw[ZT,RZ,<-List.map_append];split at a;·rename_i k;simp only[k];exact TI a c
      ·rename_i t k;simp only[k];split at a;·rename_i j;rw[if_pos j];exact TI a c
       ·rename_i j;rw[if_neg j];exact TI a c
    ·cases a
  ·cases a
abbrev StX:=MX×List (Nat×AV)×List (Nat×AV)×aA
abbrev TX:=List (Nat×AV)->List (Nat×AV)->aA->Option StX
def RO(T:TX)(a:List Nat)(n:Nat):Nat->List (Nat×AV)->aA->Option StX
 |0,_,_=>none|N+1,fr,h=>match T [] (aY a fr) (nU a n (aY a fr) h)with
  |some (.normal,_,b,c)=>RO T a n N b c|r=>r
def ET(h:aA)(k:Nat)(b:Bool):Bool:=match h[k]? with
 |some (.lp c .normal)=>c==b|_=>false
theorem RU{h:aA}{k:Nat}{b:Bool}(a:ET h k b=true):h[k]?=some (.lp b .normal):=by
 unfold ET at a;split at a;·rename_i c d;rw[d];simp at a;rw[a]
 ·cases a
def zc7(e f:TX)(d:List Nat)(fr:List (Nat×AV))(k:Nat)(a:List AV)(h:aA):Option (MX×aA):=if ET h k false&&decide (a.length=d.length)then(match e [] (nQ d a fr) h with
 |some (.normal,_,g,b)=>if ET b k false then(match f [] g (b.set k (.lp true .normal))with
  |some (x,_,_,c)=>if ET c k true then some (x,c.set k (.lp false x))else none|none=>none)else none|_=>none)else none
def rgX(F:RdF)(T:List AV->aA->Option (MX×aA))(k:Nat):Nat->Nat->aA->Option (MX×aA)
 |0,_,_=>none|N+1,j,h=>match F j h with
  |none=>none|some (none,a)=>if ET a k false then some (.normal,a.set k .dead)else none|some (some c,a)=>match T c a with
   |some (.normal,b)=>rgX F T k N (j+1) b|some (x,b)=>some (x,b.set k .dead)|none=>none
def oW:R->Option StX
 |.ok env fr h=>some (.normal,env,fr,h)|.bad=>none
def zc6:Option (List (Nat×AV)×List (Nat×AV)×aA)->Option StX
 |some (env,fr,h)=>some (.normal,env,fr,h)|none=>none
def zZ1(r:Option StX)(k:TX):Option StX:=match r with
 |some (.normal,env,fr,h)=>k env fr h|r=>r
def zI8(c:Option AV)(a b:TX)(env fr:List (Nat×AV))(h:aA):Option StX:=match c with
 |some (.T)=>a env fr h|some (.F)=>b env fr h|_=>none
def zp6(id:Nat)(r:Option StX):Option StX:=match r with
 |some (.exit j,env,fr,h)=>some (if j=id then .normal else .exit j,env,fr,h)|r=>r
def zV6(G:Gam)(N:Nat)(g:Option AV)(e:List Nat)(a b:TX)(env fr:List (Nat×AV))(h:aA):Option StX:=match g with
 |some (.fn f c)=>(match G f with
  |some (.iter F)=>match rgX (F c (h++[.lp false .normal])) (zc7 a b e fr h.length) h.length N 0 (h++[.lp false .normal])with
   |some (x,d)=>some (x,env,fr,d)|none=>none
  |_=>none)|_=>none
def zV7(G:Gam)(g:Option AV)(a:Option Nat)(c:Bool)(b:List MI)(fr:List (Nat×AV))(h:aA):Option StX:=match g with
 |some (.ptr l 0)=>(match iG h l with
  |some [r]=>oW (run G false b (iD a c [] fr (some r)))|_=>none)|_=>none
def iI(G:Gam)(N:Nat):MC->TX
 |.skip=>fun env fr h=>some (.normal,env,fr,h)|.reg d=>fun _ fr h=>oW (run G false d (.ok [] fr h))|.rgd d=>fun _ fr h=>oW (run G true d (.ok [] fr h))|.rge d=>fun _ fr h=>zc6 (xX G h d [] [] fr h)|.seq a b=>fun env fr h=>zZ1 (iI G N a env fr h) (iI G N b)|.ite c a b=>fun env fr h=>zI8 (gO (aV env fr) c) (iI G N a) (iI G N b) env fr h|.blk id a=>fun env fr h=>zp6 id (iI G N a env fr h)|.loop e a=>fun _ fr h=>RO (iI G N a) e h.length N fr h|.exit id=>fun env fr h=>some (.exit id,env,fr,h)|.ret=>fun env fr h=>some (.ret,env,fr,h)|.rgf g j a b=>fun env fr h=>zV6 G N (gO (aV env fr) g) j (iI G N a) (iI G N b) env fr h|.rgn g f i d=>fun _ fr h=>zV7 G (gO (aV [] fr) g) f i d fr h|.both _ _=>fun _ _ _=>none|.bad=>fun _ _ _=>none
theorem zL7{T:aS->List (Nat×AV)->List (Nat×AV)->aA->Prop}{R:TX}(e:∀{Q:aS}{env fr h x b c d},R env fr h=some (x,b,c,d)->Q x b c d->T Q env fr h){g:List Nat}{n:Nat}{Q:aS}:∀(N:Nat){env fr:List (Nat×AV)}{h:aA}{x:MX}{b c:List (Nat×AV)}{d:aA},RO R g n N fr h=some (x,b,c,d)->Q x b c d->gS T g n Q N env fr h
 |0,_,_,_,_,_,_,_,a,_=>by cases a|N+1,env,fr,h,x,b,c,d,a,f=>by
  simp only[RO]at a;simp only[gS];split at a
  ·rename_i l m o k;exact e k (by simp only[oY];exact zL7 e N a f)
  ·rename_i j;refine e a ?_;cases x with
   |normal=>exact absurd a (j _ _ _)|exit i=>exact f|ret=>exact f
theorem xn5{Ta Tb:aS->List (Nat×AV)->List (Nat×AV)->aA->Prop}{f g:TX}(l:∀{Q:aS}{env fr h x c d b},f env fr h=some (x,c,d,b)->Q x c d b->Ta Q env fr h)(m:∀{Q:aS}{env fr h x c d b},g env fr h=some (x,c,d,b)->Q x c d b->Tb Q env fr h){j:List Nat}{fr:List (Nat×AV)}{k:Nat}{i:List AV}{h b:aA}{x:MX}{K:MX->aA->Prop}(a:zc7 f g j fr k i h=some (x,b))(n:K x b):oX Ta Tb j fr k i h K:=by
 unfold zc7 at a;split at a
 ·rename_i e;simp only[bR,fD]at e;refine⟨RU e.1,e.2,?_⟩;split at a
  ·rename_i t v z q;split at a
   ·rename_i o;split at a
    ·rename_i y u w E r;split at a
     ·rename_i p;simp only[aE,aR]at a;obtain⟨rfl,rfl⟩:=a;exact l q ⟨RU o,m r ⟨RU p,n⟩⟩
     ·cases a
    ·cases a
   ·cases a
  ·cases a
 ·cases a
theorem zV5{F:RdF}{T:List AV->aA->(MX->aA->Prop)->Prop}{R:List AV->aA->Option (MX×aA)}(e:∀{d h x b}{K:MX->aA->Prop},R d h=some (x,b)->K x b->T d h K){k:Nat}{Q:MX->aA->Prop}:∀(N j:Nat){h:aA}{x:MX}{b:aA},rgX F R k N j h=some (x,b)->Q x b->rgM F T k Q N j h
 |0,_,_,_,_,a,_=>by cases a|N+1,j,h,x,b,a,c=>by
  simp only[rgX]at a;simp only[rgM];split at a;·cases a
  ·rename_i l f;simp only[f];split at a
   ·rename_i n;simp only[aE,aR]at a;obtain⟨rfl,rfl⟩:=a;exact⟨RU n,c⟩
   ·cases a
  ·rename_i d l f;simp only[f];split at a
   ·rename_i m g;exact e g (zV5 e N (j+1) a c)
   ·rename_i y m o g;simp only[aE,aR]at a;obtain⟨rfl,rfl⟩:=a;refine e g ?_;cases y with
    |normal=>simp at o|exit i=>exact c|ret=>exact c
   ·cases a
theorem lS{G:Gam}{N:Nat}:∀(c:MC){Q:aS}{env fr:List (Nat×AV)}{h:aA}{x:MX}{env' fr':List (Nat×AV)}{h':aA},iI G N c env fr h=some (x,env',fr',h')->Q x env' fr' h'->wpM G c Q env fr h
 |.skip,Q,env,fr,h,x,env',fr',h',d,e=>by simp only[iI,aE,aR]at d;obtain⟨rfl,rfl,rfl,rfl⟩:=d;exact e|.reg m,Q,env,fr,h,x,env',fr',h',d,e=>by
  simp only[iI,oW]at d;simp only[wpM];split at d;·rename_i k;simp only[aE,aR]at d;obtain⟨rfl,rfl,rfl,rfl⟩:=d;rw[k];exact e
  ·cases d|.rgd m,Q,env,fr,h,x,env',fr',h',d,e=>by
  simp only[iI,oW]at d;simp only[wpM];split at d;·rename_i k;simp only[aE,aR]at d;obtain⟨rfl,rfl,rfl,rfl⟩:=d;rw[k];exact e
  ·cases d|.rge m,Q,env,fr,h,x,env',fr',h',d,e=>by
  simp only[iI,zc6]at d;simp only[wpM];split at d
  ·rename_i k;simp only[aE,aR]at d;obtain⟨rfl,rfl,rfl,rfl⟩:=d;exact TI (pd:=[]) k e
  ·cases d|.seq a b,Q,env,fr,h,x,env',fr',h',d,e=>by
  simp only[iI,zZ1]at d;simp only[wpM];split at d
  ·rename_i z E t n;exact lS a n (by simp only[oY];exact lS b d e)
  ·rename_i q;refine lS a d ?_;cases x with
   |normal=>exact absurd d (q _ _ _)|exit i=>exact e|ret=>exact e
 |.ite c a b,Q,env,fr,h,x,env',fr',h',d,e=>by
  simp only[iI,zI8]at d;simp only[wpM];split at d;·rename_i o;rw[o];exact lS a d e
  ·rename_i o;rw[o];exact lS b d e
  ·cases d|.blk id a,Q,env,fr,h,x,env',fr',h',d,e=>by
  simp only[iI,zp6]at d;simp only[wpM];split at d
  ·rename_i j z E t n;simp only[aE,aR]at d;obtain⟨rfl,rfl,rfl,rfl⟩:=d;refine lS a n ?_;simp only[oL];split<;>rename_i u;·rw[if_pos u]at e;exact e
   ·rw[if_neg u]at e;exact e
  ·rename_i q;refine lS a d ?_;cases x with
   |normal=>exact e|exit i=>exact absurd d (q _ _ _ _)|ret=>exact e
 |.loop S a,Q,env,fr,h,x,env',fr',h',d,e=>by
  simp only[iI]at d;simp only[wpM];exact⟨N,zL7 (T:=wpM G a) (fun d e=>lS a d e) N d e⟩|.exit id,Q,env,fr,h,x,env',fr',h',d,e=>by simp only[iI,aE,aR]at d;obtain⟨rfl,rfl,rfl,rfl⟩:=d;exact e|.ret,Q,env,fr,h,x,env',fr',h',d,e=>by simp only[iI,aE,aR]at d;obtain⟨rfl,rfl,rfl,rfl⟩:=d;exact e|.rgf g M a b,Q,env,fr,h,x,env',fr',h',d,e=>by
  simp only[iI,zV6]at d;simp only[wpM];split at d
  ·rename_i f O p;rw[p];dsimp only;split at d
   ·rename_i F H;rw[H];split at d
    ·rename_i y t k;simp only[aE,aR]at d;obtain⟨rfl,rfl,rfl,rfl⟩:=d;exact⟨N,zV5 (T:=oX (wpM G a) (wpM G b) M fr h.length) (fun d e=>xn5 (Ta:=wpM G a) (Tb:=wpM G b) (fun d e=>lS a d e) (fun d e=>lS b d e) d e) N 0 k e⟩
    ·cases d
   ·cases d
  ·cases d|.rgn g w K m,Q,env,fr,h,x,env',fr',h',d,e=>by
  simp only[iI,zV7]at d;simp only[wpM];split at d
  ·rename_i l p;rw[p];split at d
   ·rename_i r I;have L:(match iG h l with
     |some v=>∀r∈v,match run G false m (iD w K [] fr (some r))with
      |.ok env' fr' h'=>Q .normal env' fr' h'|.bad=>False
     |none=>False):=by
     rw[I];intro T J;obtain rfl:=gU.1 J;unfold oW at d;split at d;·rename_i k;simp only[aE,aR]at d;obtain⟨rfl,rfl,rfl,rfl⟩:=d;first|exact e|(rw[k];exact e)
     ·cases d
    exact L
   ·cases d
  ·cases d|.both a b,Q,env,fr,h,x,env',fr',h',d,e=>by cases d|.bad,Q,env,fr,h,x,env',fr',h',d,e=>by cases d
structure FE where
 ks:List Nat
 ow:List Nat
 dl:List (List Nat)kind:Nat deriving Inhabited
def fin(x:Option StX)(a:List RV):Option (AV×aA):=match x with
 |some (.exit _,_,_,_)=>none|some (_,env,fr,h)=>(cZ (aV env fr) h a).map fun v=>(v,h)|none=>none
def GA(G:Gam)(N:Nat)(b:MC)(ks:List Nat)(c:List RV)(a:List AV)(h:aA):Option (AV×aA):=fin (iI G N b [] (aC ks a) h) c
def xp1(G:Gam)(N:Nat)(b:MC)(ks:List Nat)(c:List RV)(a:List AV):Option AV:=match GA G N b ks c a []with
 |some (v,h)=>view h v|none=>none
def xo7(G:Gam)(N:Nat)(b:MC)(ks:List Nat)(c:List RV)(a:List AV):Option AV:=match GA G N b ks c a []with
 |some (v,h)=>fH h v|none=>none
def xp0(G:Gam)(N:Nat)(c:MC)(ks:List Nat)(d:List RV)(a:List AV):Option AV:=match GA G N c ks d a []with
 |some (v,h)=>(match xY h (zb0 v)with
  |some b=>fH b v|none=>none)|none=>none
def xp2(G:Gam)(N:Nat)(c:MC)(ks:List Nat)(d:List RV)(a:List AV)(h:aA):Option (AV×aA):=match GA G N c ks d a h with
 |some (v,b)=>frz b v|none=>none
def xG(n:Nat)(v:AV)(h:aA):Option aA:=if decide (n<=h.length)&&low n v&&bG n (h.take n)then some (h.take n)else if decide (n<=h.length)&&low h.length v&&bG h.length h then some h else none
theorem KT{n:Nat}{rs:List RV}{e:Nat->Option AV}{v:AV}{h f:aA}(i:cZ e h rs=some v)(a:xG n v h=some f):OF n rs e h v f:=by
 unfold xG at a;split at a
 ·rename_i c;simp only[bR,fD]at c;injection a with a;subst a;have g:(h.take n).length=n:=by simp;omega
  refine⟨i,by omega,⟨by simp;omega,fun l b d=>.inr ?_⟩,by rw[g];exact c.1.2,by rw[g];exact c.2⟩;rw[fS]at d;split at d;·exact d
  ·cases d
 ·split at a
  ·rename_i c;simp only[bR,fD]at c;injection a with a;subst a;exact⟨i,c.1.1,⟨bP _,fun l b d=>.inr d⟩,c.1.2,c.2⟩
  ·cases a
def xo8(G:Gam)(N:Nat)(d:MC)(ks:List Nat)(e:List RV)(a:List AV)(h:aA):Option (AV×aA):=match GA G N d ks e a h with
 |some (v,b)=>(xG h.length v b).map fun c=>(v,c)|none=>none
structure DfE where
 is0:List MI
 m1:MI
 g:FuncId
 gks:List Nat
 gis:List MI
structure Ent where
 mc:MC
 ks:List Nat
 rs:List RV
 kind:Nat
 df:Option DfE
def xo5(G:Gam)(N:Nat)(i:MC)(ks:List Nat)(j:List RV)(x:DfE)(d:List AV)(h:aA):Option (AV×aA):=match run G false x.is0 (.ok [] (aC ks d) h)with
 |.ok _ a b=>(match dG G false x.m1 (aV [] a) b with
  |some (.fn g k,_)=>if g=x.g then(match iI G N i [] a b with
   |some (.exit _,_,_,_)=>none|some (_,env,fr,e)=>(match run G false x.gis (.ok [] (aC x.gks k) e)with
    |.ok _ _ c=>(match cZ (aV env fr) c j with
     |some v=>(xG h.length v c).map fun f=>(v,f)|none=>none)|.bad=>none)|none=>none)else none|_=>none)|.bad=>none
def KB(P:Program)(a:Gv)(T:FuncId->Option FE)(e:FE)(n:Nat)(p:List RV)(c:Code):Option Ent:=match ze9 c with
 |some (m,i,f,t,g,_,o)=>(match T g,P.funcs[g]? with
  |some b,some d=>(match d.body with
   |some j=>(match zc1 j with
    |some l=>if !(e.ks.contains t)&&d.results.toList.isEmpty&&(b.ks.all fun k=>decide (k<d.ntmps))&&zY P g&&(dF P a e.ks n e.ow i f).o.quiet then some ⟨(bU P a e.ks n e.ow o e.dl).1,e.ks,p,4,some ⟨aO P a e.ks n e.ow m,dF P a e.ks n e.ow i f,g,b.ks,aO P a b.ks d.ntmps b.ow l⟩⟩else none|none=>none)|none=>none)|_,_=>none)|none=>none
def entry(P:Program)(b:Gv)(T:FuncId->Option FE)(f:FuncId):Option Ent:=match T f with
 |none=>none|some e=>match P.funcs[f]? with
  |none=>none|some a=>match a.body with
   |none=>none|some c=>match lE P a.results.toList with
    |none=>none|some d=>if(e.ks.all fun k=>decide (k<a.ntmps))&&zY P f then(if e.kind=4 then KB P b T e a.ntmps d c else some ⟨(bU P b e.ks a.ntmps e.ow c e.dl).1,e.ks,d,e.kind,none⟩)else none
def Ent.ct(x:Ent)(G:Gam)(N:Nat):CT:=match x.df with
 |some d=>.gen (xo5 G N x.mc x.ks x.rs d)|none=>match x.kind with
  |0=>.pure (xp1 G N x.mc x.ks x.rs)|1=>.pure (xo7 G N x.mc x.ks x.rs)|3=>.gen (xo8 G N x.mc x.ks x.rs)|5=>.pure (xp0 G N x.mc x.ks x.rs)|6=>.gen (xp2 G N x.mc x.ks x.rs)|_=>.gen (GA G N x.mc x.ks x.rs)
theorem yb7{G:Gam}{m:MI}{e:Nat->Option AV}{h c:aA}{v:AV}(f:m.o.quiet=true)(a:dG G false m e h=some (v,c)):c=h:=by
 have g:∀d,fV G h m.o d=some (v,c)->c=h:=fun d b=>by
  have i:fV G h m.o d=cG G h m.o d:=by
   generalize m.o=o at f;cases o<;>first|rfl|cases f
  rw[i,cG,if_pos f]at b;split at b;·injection b with b;injection b with _ b;exact b.symm
  ·cases b
 unfold dG at a;simp only[iB,bM,bH]at a;split at a
 ·split at a;·exact g _ a
  ·cases a
 ·split at a
  ·split at a
   ·split at a;·exact g _ a
    ·cases a
   ·injection a with a;injection a with _ a;exact a.symm
  ·injection a with a;injection a with _ a;exact a.symm
  ·cases a
def ED:List (AV×AV)->List (AV×AV)->Bool
 |[],[]=>true|(a,b)::r,(c,d)::s=>fT a c&&(fT b d&&ED r s)|_,_=>false
theorem zv5:∀(a b:List (AV×AV)),ED a b=true->a=b
 |[],b,h=>by cases b<;>simp_all[ED]|(a,b)::r,[],h=>by simp[ED]at h|(a,b)::r,(c,d)::s,h=>by
  simp only[ED,bR]at h;rw[wQ _ _ h.1,wQ _ _ h.2.1,zv5 r s h.2.2]
def WI:Blk->Blk->Bool
 |.cellsT t l,.cellsT u o=>decide (t=u)&&pO l o|.arrX c t g v e m,.arrX d j i k f n=>decide (c=d/\t=j/\g=i/\v=k/\m=n)&&wP e f|.map a,.map b=>ED a b|.dead,.dead=>true|_,_=>false
theorem yr1(a b:Blk)(h:WI a b=true):a=b:=by
 cases a<;>cases b<;>simp only[WI,bM,bR,fD]at h;·rw[h.1,uQ _ _ h.2]
 ·obtain⟨⟨rfl,rfl,rfl,rfl,rfl⟩,c⟩:=h;rw[ON _ _ c]
 ·rw[zv5 _ _ h]
 ·rfl
def xE:aA->aA->Bool
 |[],[]=>true|a::r,b::s=>WI a b&&xE r s|_,_=>false
theorem QQ:∀(a b:aA),xE a b=true->a=b
 |[],b,h=>by cases b<;>simp_all[xE]|a::r,[],h=>by simp[xE]at h|a::r,b::s,h=>by
  simp only[xE,bR]at h;rw[yr1 _ _ h.1,QQ r s h.2]
abbrev TS:=List (Nat×AV)->List (Nat×AV)->aA->Option (List StX)
def IZ(f:StX->Option (List StX)):List StX->Option (List StX)
 |[]=>some []|o::a=>match f o with
  |some l=>(IZ f a).map (l++·)|none=>none
theorem WE{f:StX->Option (List StX)}:∀{L b:List StX},IZ f L=some b->∀o∈L,∃l,f o=some l/\∀x∈l,x∈b
 |[],b,h,o,a=>by cases a|p::k,b,h,o,a=>by
  simp only[IZ]at h;split at h
  ·rename_i l i;simp only[bS]at h;obtain⟨r,d,rfl⟩:=h;rcases dD.1 a with rfl|a;·exact⟨l,i,fun x c=>zI _ c⟩
   ·obtain⟨j,e,g⟩:=WE d o a;exact⟨j,e,fun x c=>List.mem_append_right _ (g x c)⟩
  ·cases h
def DP(k:TS):StX->Option (List StX)
 |(.normal,env,fr,h)=>k env fr h|o=>some [o]
def RL(T:TS)(a:List Nat)(n:Nat):Nat->List (Nat×AV)->aA->Option (List StX)
 |0,_,_=>none|N+1,fr,h=>match T [] (aY a fr) (nU a n (aY a fr) h)with
  |some L=>IZ (DP fun _ fr h=>RL T a n N fr h) L|none=>none
def OU(id:Nat):StX->StX
 |(.exit j,env,fr,h)=>(if j=id then .normal else .exit j,env,fr,h)|o=>o
def LS:Option StX->Option (List StX)
 |some o=>some [o]|none=>none
def IX(G:Gam)(a:Option Nat)(c:Bool)(b:List MI)(fr:List (Nat×AV)):List (AV×aA)->Option (List StX)
 |[]=>some []|r::d=>match oW (run G false b (iD a c [] fr (some r))),IX G a c b fr d with
  |some o,some l=>some (o::l)|_,_=>none
theorem zo1{G:Gam}{c:Option Nat}{e:Bool}{d:List MI}{fr:List (Nat×AV)}:∀{b:List (AV×aA)}{L:List StX},IX G c e d fr b=some L->∀r∈b,∃o∈L,oW (run G false d (iD c e [] fr (some r)))=some o
 |[],L,_,r,a=>by cases a|s::b,L,h,r,a=>by
  simp only[IX]at h;split at h
  ·rename_i o l f g;injection h with h;subst h;rcases dD.1 a with rfl|a;·exact⟨o,by simp,f⟩
   ·obtain⟨j,i,h4⟩:=zo1 g r a;exact⟨j,by simp[i],h4⟩
  ·cases h
def uW:List (Nat×AV)->List (Nat×AV)->Bool
 |[],[]=>true|(a,v)::r,(b,w)::s=>Nat.beq a b&&(fT v w&&uW r s)|_,_=>false
theorem KK:∀(a b:List (Nat×AV)),uW a b=true->a=b
 |[],b,h=>by cases b<;>simp_all[uW]|(a,v)::r,[],h=>by simp[uW]at h|(a,v)::r,(b,w)::s,h=>by
  simp only[uW,bR]at h;rw[Nat.eq_of_beq_eq_true h.1,wQ _ _ h.2.1,KK r s h.2.2]
def UD:StX->StX->Bool
 |(.normal,e,f,h),(.normal,a,b,c)=>uW e a&&(uW f b&&xE h c)|(.exit i,e,f,h),(.exit j,a,b,c)=>Nat.beq i j&&(uW e a&&(uW f b&&xE h c))|_,_=>false
theorem xv7(a b:StX)(c:UD a b=true):a=b:=by
 obtain⟨x,e,f,h⟩:=a;obtain⟨y,d,g,i⟩:=b;cases x<;>cases y<;>simp only[UD,bM,bR]at c;·rw[KK _ _ c.1,KK _ _ c.2.1,QQ _ _ c.2.2]
 ·rw[Nat.eq_of_beq_eq_true c.1,KK _ _ c.2.1,KK _ _ c.2.2.1,QQ _ _ c.2.2.2]
def ddS:List StX->List StX
 |[]=>[]|o::a=>o::(ddS a).filter fun p=>!UD o p
theorem zs5:∀{L:List StX}{o:StX},o∈L->o∈ddS L
 |[],o,h=>by cases h|p::b,o,h=>by
  rw[ddS];cases a:UD p o with
  |true=>rw[xv7 _ _ a];exact List.mem_cons_self|false=>
   rcases dD.1 h with rfl|h;·exact List.mem_cons_self
   ·exact lC _ (nG.2 ⟨zs5 h,by simp[a]⟩)
def iW(G:Gam)(N:Nat):MC->TS
 |.skip=>fun env fr h=>some [(.normal,env,fr,h)]|.reg d=>fun _ fr h=>LS (oW (run G false d (.ok [] fr h)))|.rgd d=>fun _ fr h=>LS (oW (run G true d (.ok [] fr h)))|.rge d=>fun _ fr h=>LS (zc6 (xX G h d [] [] fr h))|.seq a b=>fun env fr h=>match iW G N a env fr h with
  |some L=>IZ (DP (iW G N b)) L|none=>none
 |.ite c a b=>fun env fr h=>match gO (aV env fr) c with
  |some (.T)=>iW G N a env fr h|some (.F)=>iW G N b env fr h|_=>none
 |.blk id a=>fun env fr h=>(iW G N a env fr h).map fun L=>L.map (OU id)|.loop f a=>fun _ fr h=>(RL (iW G N a) f h.length N fr h).map ddS|.exit id=>fun env fr h=>some [(.exit id,env,fr,h)]|.ret=>fun env fr h=>some [(.ret,env,fr,h)]|.rgf g k a b=>fun env fr h=>LS (iI G N (.rgf g k a b) env fr h)|.rgn g i j d=>fun _ fr h=>match gO (aV [] fr) g with
  |some (.ptr l 0)=>(match iG h l with
   |some e=>IX G i j d fr e|none=>none)|_=>none
 |.both a b=>fun env fr h=>match iW G N a env fr h,iW G N b env fr h with
  |some L,some M=>some (L++M)|_,_=>none
 |.bad=>fun _ _ _=>none
abbrev sI(Q:aS)(o:StX):Prop:=Q o.1 o.2.1 o.2.2.1 o.2.2.2
theorem zL5{T:aS->List (Nat×AV)->List (Nat×AV)->aA->Prop}{R:TS}(k:∀{Q:aS}{env fr:List (Nat×AV)}{h:aA}{L:List StX},R env fr h=some L->(∀o∈L,sI Q o)->T Q env fr h){j:List Nat}{n:Nat}{Q:aS}:∀(N:Nat){env fr:List (Nat×AV)}{h:aA}{L:List StX},RL R j n N fr h=some L->(∀o∈L,sI Q o)->gS T j n Q N env fr h
 |0,_,_,_,_,a,_=>by cases a|N+1,env,fr,h,L,a,g=>by
  simp only[RL]at a;simp only[gS];split at a
  ·rename_i p m;refine k m fun o d=>?_;obtain⟨l,b,c⟩:=WE a o d;obtain⟨x,e,f,q⟩:=o;cases x with
   |normal=>exact zL5 k N b fun o d=>g o (c o d)|exit i=>
    simp only[DP,aE]at b;subst b;exact g _ (c _ (by simp))|ret=>
    simp only[DP,aE]at b;subst b;exact g _ (c _ (by simp))
  ·cases a
theorem SJ{r:Option StX}{L:List StX}(h:LS r=some L):∃o,r=some o/\L=[o]:=by cases r with
 |none=>cases h|some o=>injection h with h;exact⟨o,rfl,h.symm⟩
theorem rS{G:Gam}{N:Nat}:∀(c:MC){Q:aS}{env fr:List (Nat×AV)}{h:aA}{L:List StX},iW G N c env fr h=some L->(∀o∈L,sI Q o)->wpM G c Q env fr h
 |.skip,Q,env,fr,h,L,d,j=>by simp only[iW,aE]at d;subst d;exact j _ (gU.2 rfl)|.reg q,Q,env,fr,h,L,d,j=>by
  simp only[iW]at d;obtain⟨o,k,rfl⟩:=SJ d;obtain⟨x,e,f,p⟩:=o;exact lS (.reg q) (N:=N) k (j _ (gU.2 rfl))|.rgd q,Q,env,fr,h,L,d,j=>by
  simp only[iW]at d;obtain⟨o,k,rfl⟩:=SJ d;obtain⟨x,e,f,p⟩:=o;exact lS (.rgd q) (N:=N) k (j _ (gU.2 rfl))|.rge q,Q,env,fr,h,L,d,j=>by
  simp only[iW]at d;obtain⟨o,k,rfl⟩:=SJ d;obtain⟨x,e,f,p⟩:=o;exact lS (.rge q) (N:=N) k (j _ (gU.2 rfl))|.seq a b,Q,env,fr,h,L,d,j=>by
  simp only[iW]at d;simp only[wpM];split at d
  ·rename_i w k;refine rS a k fun o n=>?_;obtain⟨l,m,u⟩:=WE d o n;obtain⟨x,e,f,p⟩:=o;cases x with
   |normal=>exact rS b m fun o n=>j o (u o n)|exit i=>
    simp only[DP,aE]at m;subst m;exact j _ (u _ (by simp))|ret=>
    simp only[DP,aE]at m;subst m;exact j _ (u _ (by simp))
  ·cases d|.ite c a b,Q,env,fr,h,L,d,j=>by
  simp only[iW]at d;simp only[wpM];split at d;·rename_i v;rw[v];exact rS a d j
  ·rename_i v;rw[v];exact rS b d j
  ·cases d|.blk id a,Q,env,fr,h,L,d,j=>by
  simp only[iW,bS]at d;obtain⟨w,k,rfl⟩:=d;simp only[wpM];refine rS a k fun o n=>?_;have t:=j _ (jE.2 ⟨o,n,rfl⟩);obtain⟨x,e,f,p⟩:=o;cases x with
  |normal=>exact t|ret=>exact t|exit i=>
   simp only[sI,OU]at t;simp only[sI,oL];split<;>rename_i E;·rw[if_pos E]at t;exact t
   ·rw[if_neg E]at t;exact t
 |.loop X a,Q,env,fr,h,L,d,j=>by
  simp only[iW]at d;simp only[wpM];simp only[bS]at d;obtain⟨U,d,rfl⟩:=d;exact⟨N,zL5 (T:=wpM G a) (fun d j=>rS a d j) N d fun o n=>j o (zs5 n)⟩|.exit id,Q,env,fr,h,L,d,j=>by simp only[iW,aE]at d;subst d;exact j _ (gU.2 rfl)|.ret,Q,env,fr,h,L,d,j=>by simp only[iW,aE]at d;subst d;exact j _ (gU.2 rfl)|.rgf g T a b,Q,env,fr,h,L,d,j=>by
  simp only[iW]at d;obtain⟨o,k,rfl⟩:=SJ d;obtain⟨x,e,f,p⟩:=o;exact lS (.rgf g T a b) (N:=N) k (j _ (gU.2 rfl))|.rgn g z H q,Q,env,fr,h,L,d,j=>by
  simp only[iW]at d;simp only[wpM];split at d
  ·rename_i l K;rw[K];split at d
   ·rename_i y M;have S:(match iG h l with
     |some y=>∀r∈y,match run G false q (iD z H [] fr (some r))with
      |.ok I J p=>Q .normal I J p|.bad=>False
     |none=>False):=by
     rw[M];intro r O;obtain⟨o,k,m⟩:=zo1 d r O;have u:=j o k;cases F:run G false q (iD z H [] fr (some r))with
     |ok e f p=>
      rw[F]at m;simp only[oW,aE]at m;subst m;exact u|bad=>rw[F]at m;cases m
    exact S
   ·cases d
  ·cases d|.both a b,Q,env,fr,h,L,d,j=>by
  simp only[iW]at d;split at d
  ·rename_i w W k m;injection d with d;subst d;exact⟨rS a k fun o n=>j o (zI _ n),rS b m fun o n=>j o (List.mem_append_right _ n)⟩
  ·cases d|.bad,Q,env,fr,h,L,d,j=>by cases d
def wY(b:List RV)(a:AV->aA->Option (AV×aA)):StX->Option (AV×aA)
 |(.exit _,_,_,_)=>none|(_,env,fr,h)=>match cZ (aV env fr) h b with
  |some v=>a v h|none=>none
theorem zw5{d:List RV}{c:AV->aA->Option (AV×aA)}{x:MX}{env fr:List (Nat×AV)}{h:aA}{r:AV×aA}:wY d c (x,env,fr,h)=some r->(match x with|.exit _=>False|_=>True)/\∃v,cZ (aV env fr) h d=some v/\c v h=some r:=by
 intro a;cases x with
 |exit i=>cases a|normal=>
  simp only[wY]at a;split at a;·rename_i v b;exact⟨trivial,v,b,a⟩
  ·cases a|ret=>
  simp only[wY]at a;split at a;·rename_i v b;exact⟨trivial,v,b,a⟩
  ·cases a
def zI4(r:AV×aA):Option (AV×aA)->Bool
 |some q=>fT r.1 q.1&&xE r.2 q.2|none=>false
def OM(f:StX->Option (AV×aA)):List StX->Option (AV×aA)
 |[]=>none|o::a=>match f o with
  |some r=>if a.all fun p=>zI4 r (f p)then some r else none|none=>none
theorem zn8{f:StX->Option (AV×aA)}{L:List StX}{r:AV×aA}(h:OM f L=some r):∀o∈L,f o=some r:=by cases L with
 |nil=>cases h|cons p k=>
  simp only[OM]at h;split at h
  ·rename_i j i;split at h
   ·rename_i g;injection h with h;subst h;intro o b;rcases dD.1 b with rfl|b;·exact i
    ·have a:=fK.1 g o b;cases e:f o with
     |none=>rw[e]at a;cases a|some q=>
      rw[e]at a;simp only[zI4,bR]at a;obtain⟨n,t⟩:=j;obtain⟨l,m⟩:=q;have c:=wQ _ _ a.1;have d:=QQ _ _ a.2;dsimp only at c d;subst c;subst d;rfl
   ·cases h
  ·cases h
def vO(G:Gam)(N:Nat)(b:MC)(ks:List Nat)(d:List RV)(a:List AV)(h:aA)(c:AV->aA->Option (AV×aA)):Option (AV×aA):=match iW G N b [] (aC ks a) h with
 |some L=>OM (wY d c) L|none=>none
theorem AZ{G:Gam}{N:Nat}{c:MC}{ks:List Nat}{f:List RV}{d:List AV}{h:aA}{e:AV->aA->Option (AV×aA)}{r:AV×aA}(b:vO G N c ks f d h e=some r){Q:aS}(k:∀x env fr a,(match x with|.exit _=>False|_=>True)->(∃v,cZ (aV env fr) a f=some v/\e v a=some r)->Q x env fr a):wpM G c Q [] (aC ks d) h:=by
 unfold vO at b;split at b
 ·rename_i L j;refine rS c j fun o l=>?_;obtain⟨x,env,fr,a⟩:=o;obtain⟨g,i⟩:=zw5 (zn8 b _ l);exact k x env fr a g i
 ·cases b
def pU(v:AV)(h:aA):Option (AV×aA):=(view h v).map fun r=>(r,[])
def pK(v:AV)(h:aA):Option (AV×aA):=(fH h v).map fun r=>(r,[])
def pS(v:AV)(h:aA):Option (AV×aA):=match xY h (zb0 v)with
 |some a=>(fH a v).map fun r=>(r,[])|none=>none
def pG(v:AV)(h:aA):Option (AV×aA):=some (v,h)
def pL(n:Nat)(v:AV)(h:aA):Option (AV×aA):=(xG n v h).map fun a=>(v,a)
def pZ(v:AV)(h:aA):Option (AV×aA):=frz h v
def pZL(n:Nat)(v:AV)(h:aA):Option (AV×aA):=match frz h v with
 |some (u,a)=>(xG n u a).map fun b=>(u,b)|none=>none
def XQ(G:Gam)(d:List RV)(x:DfE)(e:List AV)(n:Nat):StX->Option (AV×aA)
 |(.exit _,_,_,_)=>none|(_,env,fr,b)=>match run G false x.gis (.ok [] (aC x.gks e) b)with
  |.ok _ _ a=>(match cZ (aV env fr) a d with
   |some v=>(xG n v a).map fun c=>(v,c)|none=>none)|.bad=>none
theorem zw4{G:Gam}{d:List RV}{x:DfE}{e:List AV}{n:Nat}{y:MX}{env fr:List (Nat×AV)}{b:aA}{r:AV×aA}:XQ G d x e n (y,env,fr,b)=some r->(match y with|.exit _=>False|_=>True)/\(match run G false x.gis (.ok [] (aC x.gks e) b)with
  |.ok _ _ c=>(match cZ (aV env fr) c d with
   |some v=>(xG n v c).map fun f=>(v,f)|none=>none)|.bad=>none)=some r:=by
 intro a;cases y with
 |exit i=>cases a|normal=>exact⟨trivial,a⟩|ret=>exact⟨trivial,a⟩
def zX4(G:Gam)(N:Nat)(d:MC)(ks:List Nat)(e:List RV)(x:DfE)(c:List AV)(h:aA):Option (AV×aA):=match run G false x.is0 (.ok [] (aC ks c) h)with
 |.ok _ a b=>(match dG G false x.m1 (aV [] a) b with
  |some (.fn g f,_)=>if g=x.g then(match iW G N d [] a b with
   |some L=>OM (XQ G e x f h.length) L|none=>none)else none|_=>none)|.bad=>none
def Ent.ctS(x:Ent)(G:Gam)(N:Nat):CT:=match x.df with
 |some d=>.gen (zX4 G N x.mc x.ks x.rs d)|none=>match x.kind with
  |0=>.pure fun a=>(vO G N x.mc x.ks x.rs a [] pU).map (·.1)|1=>.pure fun a=>(vO G N x.mc x.ks x.rs a [] pK).map (·.1)|3=>.gen fun a h=>vO G N x.mc x.ks x.rs a h (pL h.length)|5=>.pure fun a=>(vO G N x.mc x.ks x.rs a [] pS).map (·.1)|6=>.gen fun a h=>vO G N x.mc x.ks x.rs a h pZ|7=>.gen fun a h=>vO G N x.mc x.ks x.rs a h (pZL h.length)|_=>.gen fun a h=>vO G N x.mc x.ks x.rs a h pG
def fF(P:Program)(b:Gv)(T:FuncId->Option FE)(N:Nat)(a:Gam):Nat->Gam
 |0=>a|d+1=>{a with fn:=fun f=>match a.fn f with
  |some c=>some c|none=>match entry P b T f with
   |some x=>some (x.ctS (fF P b T N a d) N)|none=>none}
theorem yH3{P:Program}(U:P.follows .mixedOrders=true){g:Gv}{T:FuncId->Option FE}{f:FuncId}{e:FE}{d:Func}{c:Code}{k:List RV}{x:Ent}(I:P.funcs[f]?=some d)(H:d.body=some c)(O:(e.ks.all fun a2=>decide (a2<d.ntmps))=true)(Z:lE P d.results.toList=some k)(a:KB P g T e d.ntmps k c=some x){G:Gam}(E:GamOK P g G){N:Nat}:(x.ctS G N).OK P g f:=by
 unfold KB at a;split at a
 ·rename_i d3 e1 o1 f1 b3 b2 e3 a1;split at a
  ·rename_i r gn _ L;split at a
   ·rename_i gc K;split at a
    ·rename_i d1 M;split at a
     ·rename_i i;simp only[bR,mM]at i;obtain⟨⟨⟨⟨l,m⟩,n⟩,p⟩,q⟩:=i;simp only[aE]at a;subst a;show gG P g f _;refine zy7 U E I H (ow:=e.ow) (dl:=e.dl) a1 O l Z rfl rfl rfl L K M (by simpa using m) n (enters_of p) (gow:=r.ow) rfl fun b1 h e2 h' _ _ b=>?_;unfold zX4 at b;split at b
      ·rename_i t v h0 X;split at b
       ·rename_i g' vs d2 j;split at b
        ·rename_i J;subst J;have:=yb7 q j;subst this;refine⟨t,v,_,vs,X,j,?_⟩;split at b
         ·rename_i a3 F;refine rS _ F fun o W=>?_;have y:=zn8 b o W;obtain⟨f3,env,fr,hh⟩:=o;obtain⟨k0,k1⟩:=zw4 y;split at k1
          ·rename_i u w z Y;split at k1
           ·rename_i f2 hv;simp only[bS,aR]at k1;obtain⟨h3,S,rfl,rfl⟩:=k1;exact⟨k0,u,w,z,Y,KT hv S⟩
           ·cases k1
          ·cases k1
         ·cases b
        ·cases b
       ·cases b
      ·cases b
     ·cases a
    ·cases a
   ·cases a
  ·cases a
 ·cases a
theorem zu8{P:Program}(m:P.follows .mixedOrders=true){y:Gv}{T:FuncId->Option FE}{f:FuncId}{x:Ent}(b:entry P y T f=some x){G:Gam}(j:GamOK P y G){N:Nat}:Enters P f/\(x.ctS G N).OK P y f:=by
 unfold entry at b;split at b;·cases b
 ·rename_i e _;split at b;·cases b
  ·rename_i K l;split at b;·cases b
   ·rename_i c k;split at b;·cases b
    ·rename_i L n;split at b
     ·rename_i i;simp only[bR]at i;refine⟨enters_of i.2,?_⟩;split at b;·exact yH3 m l k i.1 n b j
      simp only[aE]at b;subst b;unfold Ent.ctS;dsimp only;split
      ·refine hJ m j l k (ow:=e.ow) (dl:=e.dl) i.1 n rfl fun p r a=>?_;simp only[bS]at a;obtain⟨q,w,rfl⟩:=a;refine AZ w fun x env fr t g d=>⟨g,?_⟩;obtain⟨v,k1,k2⟩:=d;simp only[pU,bS]at k2;obtain⟨r,k3,rfl⟩:=k2;exact⟨v,k1,k3⟩
      ·refine zT0 m j l k (ow:=e.ow) (dl:=e.dl) i.1 n rfl fun p r a=>?_;simp only[bS]at a;obtain⟨q,w,rfl⟩:=a;refine AZ w fun x env fr t g d=>⟨g,?_⟩;obtain⟨v,k1,k2⟩:=d;simp only[pK,bS]at k2;obtain⟨r,k3,rfl⟩:=k2;exact⟨v,k1,k3⟩
      ·refine tB m j l k (ow:=e.ow) (dl:=e.dl) i.1 n rfl fun p h r t _ _ a=>?_;refine AZ a fun x env fr g d o=>⟨d,?_⟩;obtain⟨v,k1,k2⟩:=o;simp only[pL,bS,aR]at k2;obtain⟨h4,k3,rfl,rfl⟩:=k2;exact KT k1 k3
      ·refine xj8 m j l k (ow:=e.ow) (dl:=e.dl) i.1 n rfl fun p r a=>?_;simp only[bS]at a;obtain⟨q,w,rfl⟩:=a;refine AZ w fun x env fr t g d=>⟨g,?_⟩;obtain⟨v,k1,k2⟩:=d;unfold pS at k2;split at k2
       ·rename_i g z;simp only[bS]at k2;obtain⟨r,k3,rfl⟩:=k2;exact⟨v,g,k1,z,k3⟩
       ·cases k2
      ·refine zy8 m j l k (ow:=e.ow) (dl:=e.dl) i.1 n rfl fun p h r t a=>?_;refine AZ a fun x env fr g d o=>⟨d,?_⟩;obtain⟨v,k1,k2⟩:=o;exact⟨v,k1,k2⟩
      ·refine uY m j l k (ow:=e.ow) (dl:=e.dl) i.1 n rfl fun p h r t _ _ a=>?_;refine AZ a fun x env fr g d o=>⟨d,?_⟩;obtain⟨v,k1,k2⟩:=o;unfold pZL at k2;split at k2
       ·rename_i u h4 E;simp only[bS,aR]at k2;obtain⟨h5,k3,rfl,rfl⟩:=k2;obtain⟨_,F,H,I,J⟩:=KT (rs:=[.tmp 0]) (e:=fun _=>some u) rfl k3;exact⟨v,h4,k1,E,F,H,I,J⟩
       ·cases k2
      ·refine mB m j l k (ow:=e.ow) (dl:=e.dl) i.1 n rfl fun p h r t a=>?_;refine AZ a fun x env fr g d o=>?_;obtain⟨v,k1,k2⟩:=o;simp only[pG,aE,aR]at k2;obtain⟨rfl,rfl⟩:=k2;exact⟨d,k1,rfl⟩
     ·cases b
theorem fZ{P:Program}(i:P.follows .mixedOrders=true){e:Gv}{T:FuncId->Option FE}{N:Nat}{k:Gam}(a:GamOK P e k):∀d,GamOK P e (fF P e T N k d)
 |0=>a|d+1=>by
  have l:=fZ i (T:=T) (N:=N) a d;refine⟨fun f c h=>?_,fun f c h=>?_,a.noy⟩
  ·simp only[fF]at h;split at h
   ·rename_i b g;exact a.enters f b g
   ·split at h
    ·rename_i x j;exact(zu8 i j l (N:=N)).1
    ·cases h
  ·simp only[fF]at h;split at h
   ·rename_i b g;injection h with h;subst h;exact a.ok f b g
   ·split at h
    ·rename_i x j;injection h with h;subst h;exact(zu8 i j l (N:=N)).2
    ·cases h
end
end Go.Proofs.YtpefhfiehfkocaaGreatDoor
