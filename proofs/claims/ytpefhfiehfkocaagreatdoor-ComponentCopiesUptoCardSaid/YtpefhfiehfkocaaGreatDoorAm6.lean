/- A region -/
import Derived.Test.YtpefhfiehfkocaaGreatDoorAm5
import Derived.OrdersIn
import Derived.StillTail
namespace Go.Proofs.YtpefhfiehfkocaaGreatDoor
open Go.RowKit
def fR(c:Option Nat):Fence:={Fence.wide with round:=c}
theorem zq5{P:Program}{d:Option Nat}{n:Nat}{f:FuncId}{c:Array Value}{w:World}{R:Ending->World->Prop}(h:Calls P f c w R):CallsIn (fR d) n P f c w R:=(callsIn_wide (n:=n)).2 h
theorem xn4{P:Program}{g:Option Nat}{l:Nat}{f:FuncId}{e:Array Value}{c d:Code}{w:World}{R:Ending->World->Prop}(h:RoundIn Fence.wide 0 P l f e c d w R):RoundIn (fR g) 0 P l f e c d w R:=h
theorem QG{ro:Option Nat}{p:Prop}:(fR ro).depth.isSome=true->p:=fun h=>by simp[fR,Fence.wide]at h
def dB:MI:=⟨none,none,false,.bot,[]⟩
def PF(P:Program)(own k:Bool)(o:Oper):Option (AO×List Operand):=match(if k then JN P own o.op else none)with
 |some r=>some r|none=>match JO P own o with
  |some r=>some r|none=>if o.guard.isSome then some (.bot,[])else none
def rI(c:List Nat):AO->AO
 |.call f=>if c.contains (1000000+f)then .callg f else .call f|o=>o
theorem XP{G:Gam}{h:aA}{ow:List Nat}{o:AO}{c:List AV}:cG G h (rI ow o) c=cG G h o c:=by
 cases o<;>first|rfl|skip
 simp only[rI];split<;>rfl
def EJ(c:List Nat):AO->AO
 |.call f=>.pre [.settle] (.call f)|.app d n b=>.pre [.settle,.slot 0] (.app d n b)|.st n=>.pre [.nest] (.st n)|.newnil n=>match c.find? fun x=>decide (4000000<x/\x<5000000)with
  |some m=>.pre [.spare (m-4000001)] (.newnil n)|none=>.newnil n
 |o=>o
def KL(c:List Nat):AO->AO
 |.st n=>.pre [.frzv] (.st n)|o=>rI c o
theorem zz0{ow:List Nat}(o:AO):KL ow o=rI ow o\/KL ow o=.pre [.frzv] o:=by cases o<;>first|exact .inl rfl|exact .inr rfl
def uX(c:List Nat)(o:AO):AO:=match o with
 |.pre _ _=>.bot|o=>if c.contains 4000000 then EJ c o else if c.contains 7000000 then KL c o else rI c o
theorem zy9{ow:List Nat}(o:AO):EJ ow o=o\/∃c,EJ ow o=.pre c o:=by
 cases o<;>first|exact .inl rfl|exact .inr ⟨_,rfl⟩|skip
 simp only[EJ];split;·exact .inr ⟨_,rfl⟩
 ·exact .inl rfl
theorem zv9{G:Gam}{h:aA}{o:AO}{c:List AV}(d:∀e q,o≠.pre e q):fV G h o c=cG G h o c:=by cases o<;>first|rfl|exact absurd rfl (d _ _)
theorem zv8{G:Gam}{h:aA}{c:List PK}{o:AO}{d:List AV}:cG G h (.pre c o) d=none:=by simp[cG,AO.quiet,bC]
theorem yI7{G:Gam}{h:aA}{d:List Nat}{o:AO}{f:List AV}{r:AV×aA}(c:cG G h (uX d o) f=some r):cG G h o f=some r:=by
 have g:cG G h (if d.contains 4000000 then EJ d o else if d.contains 7000000 then KL d o else rI d o) f=some r->cG G h o f=some r:=fun c=>by
  split at c
  ·rcases zy9 (ow:=d) o with e|⟨i,e⟩;·rw[e]at c;exact c
   ·rw[e,zv8]at c;cases c
  ·split at c
   ·rcases zz0 (ow:=d) o with e|e;·rw[e,XP]at c;exact c
    ·rw[e,zv8]at c;cases c
   ·rw[XP]at c;exact c
 cases o<;>first|exact g c|(simp[uX,cG,AO.quiet,bV]at c)
theorem yI8{G:Gam}{h:aA}{g:List Nat}{o:AO}{j:List AV}{r:AV×aA}(c:fV G h (uX g o) j=some r):∃i d f,vJ i h j=some (d,f)/\cG G d o f=some r:=by
 have p:(∀i q,o≠.pre i q)->fV G h (if g.contains 4000000 then EJ g o else if g.contains 7000000 then KL g o else rI g o) j=some r->∃i d f,vJ i h j=some (d,f)/\cG G d o f=some r:=fun m c=>by
  split at c
  ·rcases zy9 (ow:=g) o with e|⟨i,e⟩;·rw[e,zv9 m]at c;exact⟨[],h,j,rfl,c⟩
   ·rw[e]at c;simp only[fV]at c;split at c;·rename_i d f l;exact⟨i,d,f,l,c⟩
    ·cases c
  ·have plain:fV G h (rI g o) j=some r->∃i d f,vJ i h j=some (d,f)/\cG G d o f=some r:=fun c=>by
    refine⟨[],h,j,rfl,?_⟩;rw[<-XP (ow:=g),<-zv9 (o:=rI g o)];·exact c
    ·intro i q e;cases o<;>first|(simp only[rI]at e;cases e;done)|(simp only[rI]at e;split at e<;>cases e;done)|exact m _ _ rfl
   split at c
   ·rcases zz0 (ow:=g) o with e|e;·rw[e]at c;exact plain c
    ·rw[e]at c;simp only[fV]at c;split at c;·rename_i d f l;exact⟨_,d,f,l,c⟩
     ·cases c
   ·exact plain c
 cases o<;>first|exact p (fun _ _ e=>by cases e) c|(simp[uX,fV,cG,AO.quiet,bV]at c)
def LY(c:List Nat):List At->List Nat
 |.t a::_=>if c.contains (7000001+a)then 7000000::c else c|_=>c
def dF(P:Program)(g:Gv)(f:List Nat)(n:Nat)(d:List Nat)(ops:Array Oper)(o:Oper):MI:=match PF P ((o.dst.map fun t=>d.contains t).getD false) ((o.dst.map fun t=>d.contains (5000000+t)).getD false) o with
 |some (e,i)=>match JL g i with
  |some c=>if(o.dst.map fun t=>decide (t<n)).getD true then match o.guard with
   |none=>⟨none,o.dst,(o.dst.map fun t=>f.contains t).getD false,uX (LY d c) e,c⟩|some (j,b)=>match(ops[j]?).bind (·.dst)with
    |some t=>⟨some (t,b),o.dst,(o.dst.map fun t=>f.contains t).getD false,uX (LY d c) e,c⟩|none=>dB else dB|none=>dB
 |none=>dB
def aO(P:Program)(c:Gv)(d:List Nat)(n:Nat)(e:List Nat)(ops:Array Oper):List MI:=ops.toList.map (dF P c d n e ops)
def RelT(C:Cx)(e:Nat->Option AV)(a:Act):Prop:=∀t x,e t=some x->∃u,a.tmps[t]?=some u/\Rel C x u
section
variable{P:Program}{B:Base}{C D:Cx}{h:aA}{w w':World}{G:Gam}{a:Act}
theorem RelT.mono{e:Nat->Option AV}(h:RelT C e a)(f:C.Le D):RelT D e a:=fun t x g=>let⟨u,c,d⟩:=h t x g;⟨u,c,d.mono f⟩
theorem QE(q:Inv B C h w){e:Nat->Option AV}(s:RelT C e a){x:Operand}{m:At}{v:AV}(d:sU B.gv x=some m)(j:gO e m=some v):Rel C v (a.eval x):=by cases x with
 |tmp t=>
  simp only[sU,aE]at d;subst d;obtain⟨u,l,o⟩:=s t v j;have:a.eval (.tmp t)=u:=by simp[Act.eval,l]
  rw[this];exact o|const k=>
  simp only[sU,bS]at d;obtain⟨c,l,rfl⟩:=d;simp only[gO,aE]at j;subst j;exact zP4 l|global g=>
  simp only[sU,bS]at d;obtain⟨r,p,rfl⟩:=d;simp only[gO,aE]at j;subst j;exact(q.gl g r p).mono C.frozen_le|func f=>
  simp only[sU,aE]at d;subst d;simp only[gO,aE]at j;subst j;exact .fn f [] #[] rfl (fun i c v d=>by simp at d)
theorem zw1(j:Inv B C h w){e:Nat->Option AV}(l:RelT C e a):∀{i:List Operand}{f:List At}{g:List AV},JL B.gv i=some f->iF e f=some g->RelL C g (i.map a.eval)
 |[],f,g,c,d=>by simp[JL]at c;subst c;simp[iF]at d;subst d;exact .nil|x::i,f,g,c,d=>by
  simp only[JL]at c;split at c
  ·rename_i q r m o;cases c;simp only[iF]at d;split at d
   ·rename_i v s p h4;cases d;exact .cons (QE j l m p) (zw1 j l o h4)
   ·cases d
  ·cases c
theorem zw0{o:AO}{j:List AV}{v:AV}(c:iN G h o j=some v):cG G h o j=some (v,h):=by
 unfold iN at c;split at c
 ·rename_i e;simp only[cG,e,aM,c]
 ·rename_i e;have s:o.quiet=false:=by simpa using e
  simp only[cG,s,bM,bH];split at c
  ·rename_i f;split at c
   ·rename_i F q;split at c
    ·rename_i u i;split at c
     ·rename_i r t;simp only[bC,dE,q,i,t];split at c;·rename_i g;cases c;simp[g]
      ·rename_i g;split at c;·rename_i d;cases c;simp[g,d,dC]
       ·cases c
     ·cases c
    ·cases c
   ·cases c
  ·rename_i A;split at c
   ·rename_i d;split at c
    ·rename_i u i;split at c
     ·rename_i p;cases c;simp only[bC,xA,i,dI,d,dC];rw[if_pos p];rfl
     ·cases c
    ·cases c
   ·cases c
  ·cases j with
   |nil=>cases c|cons x y=>
    simp only at c;simp only[bC];split at c
    ·rename_i l r m z;simp only[GC,c]
    ·cases c
  ·cases c
theorem sS(s:Bool)(e:Nat->Option AV):dG G s dB e h=none:=by cases s<;>simp[dG,dB,iF,AO.loud,AO.quiet,fV,cG,bV,iN]
theorem SV(a:Act)(d:Option Nat)(u:Value):(a.put d u).tmps.size=a.tmps.size:=by cases d<;>simp[Act.put]
theorem SU(a:Act)(d:Option Nat)(u:Value):(a.put d u).defers=a.defers:=by cases d<;>rfl
theorem xg7(A:GamB P B G)(p:Inv B C h w){own k:Bool}{s:Oper}{g:AO}{x:List Operand}(c:PF P own k s=some (g,x)){t:List AV}{v:AV}{o:aA}{ρ:Operand->Value}(E:∀u,ρ (.const u)=u)(H:∀f,ρ (.func f)=.func (.func f) #[] #[])(q:RelL C t (x.map ρ))(e:cG G h g t=some (v,o)):tY P (fun u w'=>∃D,C.Le D/\Inv B D o w'/\Rel D v u/\Keep B w w') ((execOp ρ s).run P w):=by
 unfold PF at c;split at c
 ·rename_i r d;cases c;split at d
  ·obtain⟨n,u,D,w',y,z,i,j,l,m⟩:=ym5 p d rfl q e;rw[y];rcases z with rfl|⟨rfl,rfl⟩;·exact⟨D,i,j,l,m⟩
   ·exact⟨D,i,j,l,m⟩
  ·cases d
 split at c
 ·rename_i r d;cases c;exact xg6 A p d E H q e
 ·split at c
  ·cases c;simp[cG,AO.quiet,bV]at e
  ·cases c
theorem yy4{own:Bool}{o:Oper}{c:Call}(h:o.op=.defer c):JO P own o=none:=by simp[JO,XA,XB,PC,JM,PE,iL,h]
theorem zf4{ro:Option Nat}(hG:GamB P B G)(E:Inv B C h w){e:Nat->Option AV}(M:RelT C e a){I l:List Nat}{n:Nat}{ops:Array Oper}{k:Nat}{o:Oper}(ho:ops[k]?=some o){s:Bool}{v:AV}{p:aA}(d:dG G s (dF P B.gv I n l ops o) e h=some (v,p)){Q:Exit->Act->World->Prop}{K:Act->World->Prop}(g:∀u D w',C.Le D->Inv B D p w'->Rel D v u->Keep B w w'->K (a.put o.dst u) w'):wpOpIn (fR ro) 0 P ops Q k K a w:=by
 unfold wpOpIn;simp only[ho];have d1:dF P B.gv I n l ops o≠dB:=fun e1=>by rw[e1,sS]at d;cases d
 unfold dF at d d1;split at d
 ·rename_i z xs i;split at d
  ·rename_i A a3;split at d
   ·rename_i hd;have go:(match iF e A with
      |some y=>if s&&!(uX (LY l A) z).loud then(iN G h (uX (LY l A) z) y).map fun v=>(v,h)else fV G h (uX (LY l A) z) y|none=>none)=some (v,p)->o.wpIn (fR ro) 0 P a w K Q:=by
     intro m;split at m
     ·rename_i y c3;have b1:∃I q S,vJ I h y=some (q,S)/\cG G q z S=some (v,p):=by
       split at m
       ·simp only[bS,aR]at m;obtain⟨v',q,rfl,rfl⟩:=m;exact⟨[],_,y,rfl,yI7 (zw0 q)⟩
       ·exact yI8 m
      obtain⟨g1,q,S,b3,V⟩:=b1;obtain⟨Y,a2,b2,c1⟩:=zS9 E (zw1 E M a3 c3) b3;have g:∀u D w',Y.Le D->Inv B D p w'->Rel D v u->Keep B w w'->K (a.put o.dst u) w':=fun u D w' d2=>g u D w' (a2.trans d2);have f:=xg7 hG b2 i (ρ:=a.eval) (fun _=>rfl) (fun _=>rfl) c1 V;unfold Oper.wpIn;refine⟨fun _ _=>trivial,?_⟩;have c2:Oper.semAt (fR ro).round a.eval o=execOp a.eval o:=Oper.semAt_eq _ _ _ fun c U=>by
       unfold PF at i;have x:(if(o.dst.map fun t=>l.contains (5000000+t)).getD false then JN P ((o.dst.map fun t=>l.contains t).getD false) o.op else none)=none:=by simp[JN,U]
       rw[yy4 U,x]at i;simp only at i;split at i
       ·cases i;simp[cG,AO.quiet,bV]at V
       ·cases i
      rw[c2];generalize(execOp a.eval o).run P w=d3 at f;cases d3 with
      |halt g3 w'=>exact f.elim|ok nx w'=>cases nx with
       |value u=>obtain⟨D,k1,k2,k3,k4⟩:=f;exact g u D w' k1 k2 k3 k4|skip=>obtain⟨D,k1,k2,k3,k4⟩:=f;exact g _ D w' k1 k2 k3 k4|enter a1 e2=>
        refine⟨QG,zq5 (Calls.mono f fun e T x=>?_)⟩;obtain⟨u,rfl,D,k1,k2,k3,k4⟩:=x;exact g u D T k1 k2 k3 k4|round f3 a1 g2 e3 f1=>
        refine⟨QG,xn4 (RoundIn.mono f fun e T x=>?_)⟩;obtain⟨u,rfl,D,k1,k2,k3,k4⟩:=x;exact g u D T k1 k2 k3 k4|_=>exact f.elim
     ·cases m
    have X:Rel C rV undef:=.tup [] #[] rfl (fun f2 c v f=>by simp at f);split at d
    ·rename_i r;have hw:Region.wanted o (yielded ops a.tmps)=true:=by simp[Region.wanted,r]
     rw[if_pos hw];exact go d
    ·rename_i j b r;split at d
     ·rename_i t W;simp only[dG]at d;split at d
      ·rename_i Z J;obtain⟨u,N,O⟩:=M t _ J;have:=jG O;subst this;have H:yielded ops a.tmps j=some Z:=by simp[yielded,W,N]
       split at d
       ·rename_i L;rw[if_pos (by simp[Region.wanted,r,H,L])];exact go d
       ·rename_i L;rw[if_neg (by simp[Region.wanted,r,H,L])];cases d;exact⟨fun _ _=>trivial,g undef C w (.refl C) E X (Keep.refl _ _)⟩
      ·rename_i J;obtain⟨u,N,O⟩:=M t _ J;have H:yielded ops a.tmps j=none:=by
        cases O;simp[yielded,W,N]
       rw[if_neg (by simp[Region.wanted,r,H])];cases d;exact⟨fun _ _=>trivial,g undef C w (.refl C) E X (Keep.refl _ _)⟩
      ·cases d
     ·rw[sS]at d;cases d
   ·rw[sS]at d;cases d
  ·rw[sS]at d;cases d
 ·rw[sS]at d;cases d
theorem DO{d e:List Nat}{n:Nat}{ops:Array Oper}{o:Oper}(c:dF P B.gv d n e ops o≠dB):(dF P B.gv d n e ops o).dst=o.dst/\(dF P B.gv d n e ops o).kept=(o.dst.map fun t=>d.contains t).getD false/\(∀t,o.dst=some t->t<n):=by
 unfold dF at c⊢;split at c
 ·split at c
  ·split at c
   ·rename_i f;have g:∀t,o.dst=some t->t<n:=fun t i=>by simpa[i]using f
    rw[if_pos f];split at c;·exact⟨rfl,rfl,g⟩
    ·split at c;·exact⟨rfl,rfl,g⟩
     ·exact absurd rfl c
   ·exact absurd rfl c
  ·exact absurd rfl c
 ·exact absurd rfl c
def Sep(d:List Nat)(c:List (Nat×AV)):Prop:=∀t v,lkp t c=some v->d.contains t=false
def Keys(d:List Nat)(c:List (Nat×AV)):Prop:=∀t v,lkp t c=some v->d.contains t=true
theorem EQ(t:Nat)(v:AV):∀(l:List (Nat×AV))(k:Nat),lkp k (upd t v l)=if k=t then(lkp k l).map (fun _=>v)else lkp k l
 |[],k=>by simp[upd,lkp]|(f,x)::r,k=>by
  simp only[upd];by_cases d:t=f
  ·subst d;simp only[aM,lkp];by_cases c:k=t;·simp[c]
   ·simp[c]
  ·simp only[if_neg d,lkp,EQ t v r k];by_cases c:k=f
   ·subst c;simp only[aM];rw[if_neg (fun e=>d e.symm)]
   ·simp only[if_neg c]
theorem OS{l:List Nat}{j p o q:List (Nat×AV)}{i:Option Nat}{A:Bool}{v:AV}{h u:aA}(m:Sep l j)(r:A=(i.map fun t=>l.contains t).getD false)(f:iD i A j p (some (v,h))=.ok o q u):u=h/\Sep l o/\(Keys l p->Keys l q)/\∀t x,aV o q t=some x->(i=some t/\x=v)\/(i≠some t/\aV j p t=some x):=by
 unfold iD at f;cases i with
 |none=>
  simp only[R.ok.injEq]at f;obtain⟨rfl,rfl,rfl⟩:=f;exact⟨rfl,m,id,fun t x c=>.inr ⟨by simp,c⟩⟩|some d=>
  simp only[dI,Option.getD_some]at r;simp only at f;split at f
  ·rename_i s;simp only[R.ok.injEq]at f;obtain⟨rfl,rfl,rfl⟩:=f;refine⟨rfl,m,fun z t x c=>?_,fun t x c=>?_⟩
   ·rw[EQ]at c;split at c
    ·rename_i e;subst e;simp only[bS]at c;obtain⟨y,I,_⟩:=c;exact z t y I
    ·exact z t x c
   by_cases g:t=d
   ·subst g;left;have H:lkp t j=none:=by cases E:lkp t j with
     |none=>rfl|some y=>have:=m t y E;rw[<-r,s]at this;cases this
    simp only[aV,H,EQ,aM,bS]at c;obtain⟨_,_,rfl⟩:=c;exact⟨rfl,rfl⟩
   ·right;refine⟨fun e=>g (by injection e with e;exact e.symm),?_⟩;simpa only[aV,EQ,if_neg g]using c
  ·rename_i s;simp only[R.ok.injEq]at f;obtain⟨rfl,rfl,rfl⟩:=f;refine⟨rfl,fun t x c=>?_,id,fun t x c=>?_⟩
   ·simp only[lkp]at c;split at c;·rename_i e;subst e;rw[<-r];simpa using s
    ·exact m t x c
   ·by_cases g:t=d
    ·subst g;left;simp only[aV,lkp,aM,aE]at c;exact⟨rfl,c.symm⟩
    ·right;refine⟨fun e=>g (by injection e with e;exact e.symm),?_⟩;simpa only[aV,lkp,if_neg g]using c
theorem RelT.put{e g:Nat->Option AV}(o:RelT C e a){c:Option Nat}{v:AV}{u:Value}(p:Rel C v u)(l:∀t,c=some t->t<a.tmps.size)(m:∀t x,g t=some x->(c=some t/\x=v)\/(c≠some t/\e t=some x)):RelT C g (a.put c u):=by
 intro t x q;rcases m t x q with⟨f,rfl⟩|⟨f,j⟩
 ·subst f;exact⟨u,by simp[Act.put,l t rfl],p⟩
 ·obtain⟨y,i,h4⟩:=o t x j;refine⟨y,?_,h4⟩;cases c with
  |none=>exact i|some d=>
   simp only[Act.put];rw[VR (fun e=>f (by rw[e]))];exact i
structure StOK(ks:List Nat)(n:Nat)(B:Base)(C:Cx)(env fr:List (Nat×AV))(h:aA)(a:Act)(w:World):Prop where
 inv:Inv B C h w
 rel:RelT C (aV env fr) a
 sep:Sep ks env
 keys:Keys ks fr
 size:n<=a.tmps.size
theorem BB(G:Gam)(s:Bool):∀c:List MI,run G s c .bad=.bad
 |[]=>rfl|i::c=>by simp only[run,EE];exact BB G s c
theorem ZA{ro:Option Nat}(J:GamB P B G){p z:List Nat}{n:Nat}{ops:Array Oper}{s:Bool}{Q:Exit->Act->World->Prop}{d:List Deferred}{K:World}{A:Cx}{E H:List (Nat×AV)}{I:aA}:∀(l:List Nat)(f:List Oper)(j m:List (Nat×AV))(h:aA)(C:Cx)(a:Act)(w:World),l.map (fun i=>ops[i]?)=f.map some->StOK p n B C j m h a w->a.defers=d->A.Le C->Keep B K w->run G s (f.map (dF P B.gv p n z ops)) (.ok j m h)=.ok E H I->(∀D r w',A.Le D->StOK p n B D E H I r w'->r.defers=d->Keep B K w'->Q .normal r w')->wpOpsIn (fR ro) 0 P ops Q l a w
 |[],f,j,m,h,C,a,w,g,e,x,y,v,c,u=>by cases f with
  |nil=>
   simp only[pN,run,R.ok.injEq]at c;obtain⟨rfl,rfl,rfl⟩:=c;exact u C a w y e x v|cons _ _=>simp at g
 |i::l,f,j,m,h,C,a,w,g,e,x,y,v,c,u=>by cases f with
  |nil=>simp at g|cons o f=>
   simp only[fE,List.cons.injEq]at g;obtain⟨ho,g⟩:=g;rw[wpOpsIn_cons];simp only[fE,run,EE]at c;cases q:dG G s (dF P B.gv p n z ops o) (aV j m) h with
   |none=>rw[q]at c;simp only[iD,BB]at c;cases c|some vh=>
    obtain⟨a3,U⟩:=vh;rw[q]at c;have Z:dF P B.gv p n z ops o≠dB:=fun O=>by rw[O,sS]at q;cases q
    obtain⟨L,M,N⟩:=DO Z;rw[L,M]at c;generalize W:iD o.dst ((o.dst.map fun t=>p.contains t).getD false) j m (some (a3,U))=r1 at c;cases r1 with
    |bad=>rw[BB]at c;cases c|ok S T V=>
     obtain⟨rfl,a1,Y,X⟩:=OS e.sep rfl W;refine zf4 J e.inv e.rel ho q (fun a2 D w' k1 k2 k3 k4=>?_);exact ZA J l f S T V D (a.put o.dst a2) w' g ⟨k2,(e.rel.mono k1).put k3 (fun t ht=>sP (N t ht) e.size) X,a1,Y e.keys,by rw[SV];exact e.size⟩ (by rw[SU];exact x) (y.trans k1) (v.trans k4) c u
theorem zT8(ops:Array Oper):(List.range ops.size).map (fun i=>ops[i]?)=ops.toList.map some:=by
 apply kL;intro i;by_cases c:i<ops.size;·simp[c]
 ·rw[lX (by simp;omega),lX (by simp;omega)]
theorem zc2{ro:Option Nat}(l:GamB P B G){f q:List Nat}{n id:Nat}{ops:Array Oper}{Q:Exit->Act->World->Prop}{d e g i:List (Nat×AV)}{j:aA}(p:StOK f n B C d e h a w)(o:run G false (aO P B.gv f n q ops) (.ok d e h)=.ok g i j)(m:∀D c w',C.Le D->StOK f n B D g i j c w'->c.defers=a.defers->Keep B w w'->Q .normal c w'):(Code.region id ops false).wpIn (fR ro) 0 P Q a w:=wpIn_region (ZA l (List.range ops.size) ops.toList d e h C a w (zT8 ops) p rfl (.refl C) (Keep.refl _ _) o m)
end
def MI.reads(m:MI):List Nat:=m.args.filterMap (fun|.t n=>some n|.c _=>none)++(match m.g with|some (t,_)=>[t]|none=>[])
def MI.apart(x y:MI):Bool:=(match x.dst with|some d=>!y.reads.contains d&&y.dst !=some d|none=>true)&&(match y.dst with|some d=>!x.reads.contains d|none=>true)
def mR(o:Oper):List Nat:=o.after.toList.filterMap fun e=>if Region.binds .any e then some e.on else none
def oK:List Oper->List (List Nat)->List (List Nat)
 |[],c=>c|o::d,c=>oK d (c++[(mR o++(mR o).flatMap fun i=>c.getD i []).eraseDups])
def AO.blind:AO->Bool
 |.mv|.pick|.bin _|.un _|.conv _|.ext _=>true|_=>false
def zW(E:List Nat)(F:List (Nat×Nat))(ops:List Oper)(c:List MI):Bool:=let d:=oK ops []
 let N:=ops.length
 (List.range N).all fun k=>(((ops[k]?).map mR).getD []).all (fun i=>decide (i<k))&&(List.range N).all fun i=>!decide (i<k)||((d.getD k []).contains i||((c.getD i dB).apart (c.getD k dB)&&(!(c.getD i dB).o.loud&&!(c.getD k dB).o.loud||(c.getD i dB).o.blind||(c.getD k dB).o.blind||(E.contains k&&!(c.getD k dB).o.loud&&(List.range i).all fun j=>!(c.getD j dB).o.loud)||(!(c.getD i dB).o.loud&&F.contains (i,k+1)))))
def PY(ops:List Oper)(c:List MI):Bool:=zW [] [] ops c
def QZ(ops:List Oper)(c:List MI):List (Nat×Nat):=let d:=oK ops []
 (List.range ops.length).flatMap fun i=>if !(c.getD i dB).o.loud&&!(c.getD i dB).o.blind then((List.range ops.length).filter fun k=>decide (i<k)&&(c.getD k dB).o.loud&&!(d.getD k []).contains i).map fun k=>(i,k+1)else[]
def QB(ops:List Oper)(c:List MI):List Nat:=let d:=oK ops []
 (List.range ops.length).filter fun k=>!(c.getD k dB).o.loud&&!(c.getD k dB).o.blind&&(List.range k).any fun i=>(c.getD i dB).o.loud&&!(d.getD k []).contains i
section
variable{P:Program}{B:Base}{C D:Cx}{h:aA}{w w':World}{G:Gam}{a:Act}
def Shut(ops:List Oper)(L:Nat->Bool):Prop:=∀j o,ops[j]?=some o->L j=true->∀i∈mR o,L i=true
theorem VT{f:List Oper}{L:Nat->Bool}(t:Shut f L):∀(r:List Oper)(d:List (List Nat))(p:List Oper),f=p++r->d.length=p.length->(∀(j:Nat)o,f[j]?=some o->j<d.length->(∀i∈mR o,L i=true)->∀i∈d.getD j [],L i=true)->∀(j:Nat)o,f[j]?=some o->(∀i∈mR o,L i=true)->∀i∈(oK r d).getD j [],L i=true
 |[],d,p,l,s,q,j,o,e,g,i,c=>by
  have:j<d.length:=by
   have:=(aF.1 e).1;simp[l]at this;omega
  exact q j o e this g i c|x::r,d,p,l,s,q,j,o,e,g,i,c=>by
  refine VT t r _ (p++[x]) (by simp[l]) (by simp[s]) (fun j o e y g i c=>?_) j o e g i c;by_cases u:j<d.length
  ·rw[zF,aX u,<-zF]at c;exact q j o e u g i c
  ·have z:j=d.length:=by simp at y;omega
   subst z;have:o=x:=by
    rw[l,s,dY (bP _)]at e;simpa using e.symm
   subst this;rw[zF,dY (bP _)]at c;simp only[Nat.sub_self,wL,Option.getD_some,List.mem_eraseDups,iK,List.mem_flatMap]at c;rcases c with c|⟨m,A,c⟩;·exact g i c
   ·have H:L m=true:=g m A;by_cases E:m<d.length
    ·have v:m<f.length:=by rw[l];simp;omega
     exact q m f[m] (by simp[v]) E (t m f[m] (by simp[v]) H) i c
    ·rw[zF,lX (by omega)]at c;simp at c
structure Trace(G:Gam)(mis:List MI)(es:Nat->Nat->Option AV)(hs:Nat->aA)(vs:Nat->AV):Prop where
 step:∀(k:Nat)m,mis[k]?=some m->dG G true m (es k) (hs k)=some (vs k,hs (k+1))put:∀(k:Nat)m,mis[k]?=some m->∀t x,es (k+1) t=some x->(m.dst=some t/\x=vs k)\/(m.dst≠some t/\es k t=some x)
theorem yd6{e p:List Nat}{n:Nat}{ops:Array Oper}{s u:List (Nat×AV)}{E:aA}:∀(l:List Oper)(f g:List (Nat×AV))(h:aA),Sep e f->run G true (l.map (dF P B.gv e n p ops)) (.ok f g h)=.ok s u E->∃q i z,Trace G (l.map (dF P B.gv e n p ops)) q i z/\q 0=aV f g/\i 0=h/\q l.length=aV s u/\i l.length=E/\(Sep e s/\(Keys e g->Keys e u))/\(∀(k:Nat)o,l[k]?=some o->dF P B.gv e n p ops o≠dB)
 |[],f,g,h,y,c=>by
  simp only[pN,run,R.ok.injEq]at c;obtain⟨rfl,rfl,rfl⟩:=c;exact⟨fun _=>aV f g,fun _=>h,fun _=>.junk,⟨fun k m d=>by simp at d,fun k m d=>by simp at d⟩,rfl,rfl,rfl,rfl,⟨y,id⟩,fun k o j=>by simp at j⟩|o::l,f,g,h,y,c=>by
  simp only[fE,run,EE]at c;cases i:dG G true (dF P B.gv e n p ops o) (aV f g) h with
  |none=>rw[i]at c;simp only[iD,BB]at c;cases c|some vh=>
   obtain⟨v,X⟩:=vh;rw[i]at c;have H:dF P B.gv e n p ops o≠dB:=fun r=>by rw[r,sS]at i;cases i
   obtain⟨M,N,c3⟩:=DO H;generalize Z:iD (dF P B.gv e n p ops o).dst (dF P B.gv e n p ops o).kept f g (some (v,X))=r1 at c;cases r1 with
   |bad=>rw[BB]at c;cases c|ok V W Y=>
    obtain⟨rfl,a3,a2,a1⟩:=OS y (by rw[N,M]) Z;obtain⟨q,I,z,J,r,O,S,T,A,U⟩:=yd6 l V W Y a3 c;refine⟨fun k=>match k with|0=>aV f g|k+1=>q k,fun k=>match k with|0=>h|k+1=>I k,fun k=>match k with|0=>v|k+1=>z k,⟨fun k m d=>?_,fun k m d t x K=>?_⟩,rfl,rfl,S,T,⟨A.1,fun j=>A.2 (a2 j)⟩,fun k o' j=>?_⟩;·cases k with
     |zero=>simp at d;subst d;show _=some (v,I 0);rw[O];exact i|succ k=>exact J.step k m (by simpa using d)
    ·cases k with
     |zero=>simp at d;subst d;have L:q 0 t=some x:=K;rw[r]at L;exact a1 t x L|succ k=>exact J.put k m (by simpa using d) t x K
    ·cases k with
     |zero=>simp at j;subst j;exact H|succ k=>exact U k o' (by simpa using j)
def MI.dstAt(c:List MI)(k:Nat):Option Nat:=(c[k]?).bind (·.dst)
def MI.loudAt(c:List MI)(k:Nat):Bool:=(c.getD k dB).o.loud
def Eat(d:List MI)(c:Nat->Option AV)(e:Nat->AV)(L:Nat->Bool):Nat->Nat->Option AV
 |0,t=>c t|k+1,t=>if L k=true/\MI.dstAt d k=some t then some (e k)else Eat d c e L k t
def Hat(d:List MI)(c:Nat->aA)(L:Nat->Bool):Nat->aA
 |0=>c 0|k+1=>if L k=true/\MI.loudAt d k=true then c (k+1)else Hat d c L k
theorem NQ{c:List MI}{d:Nat->Nat->Option AV}{m:Nat->aA}{j:Nat->AV}(i:Trace G c d m j){t:Nat}:∀(k:Nat)x,k<=c.length->d k t=some x->Eat c (d 0) j (fun _=>true) k t=some x
 |0,x,_,h=>h|k+1,x,o,h=>by
  have g:c[k]?=some c[k]:=by simp
  simp only[Eat];rcases i.put k _ g t x h with⟨f,rfl⟩|⟨f,l⟩;·rw[if_pos ⟨trivial,by simp only[MI.dstAt,g,wO];exact f⟩]
  ·rw[if_neg (fun e=>f (by simpa only[MI.dstAt,g,wO]using e.2))];exact NQ i k x (by omega) l
theorem NP{d:List MI}{f:Nat->Option AV}{g:Nat->AV}{L:Nat->Bool}{t:Nat}:∀(k:Nat),(∀i,i<k->MI.dstAt d i=some t->L i=true)->Eat d f g L k t=Eat d f g (fun _=>true) k t
 |0,_=>rfl|k+1,h=>by
  simp only[Eat,true_and];by_cases c:MI.dstAt d k=some t;·rw[if_pos ⟨h k (by omega) c,c⟩,if_pos c]
  ·rw[if_neg (fun e=>c e.2),if_neg c];exact NP k (fun i j=>h i (by omega))
theorem HC{mis:List MI}{e0:Nat->Option AV}{vs:Nat->AV}{L:Nat->Bool}{t k:Nat}:∀(d:Nat),(∀i,k<=i->i<k+d->MI.dstAt mis i=some t->L i=false)->Eat mis e0 vs L (k+d) t=Eat mis e0 vs L k t
 |0,_=>rfl|d+1,h=>by
  rw[show k+(d+1)=(k+d)+1 by omega];simp only[Eat];rw[if_neg (fun e=>by have:=h (k+d) (by omega) (by omega) e.2;rw[e.1]at this;cases this)];exact HC d (fun i c f=>h i c (by omega))
theorem VA{c:List MI}{g:Nat->Option AV}{j:Nat->AV}{L f:Nat->Bool}{t:Nat}:∀(k:Nat),(∀i,i<k->MI.dstAt c i=some t->f i=L i)->Eat c g j f k t=Eat c g j L k t
 |0,_=>rfl|k+1,h=>by
  simp only[Eat];by_cases d:MI.dstAt c k=some t;·rw[h k (by omega) d,VA k (fun i l=>h i (by omega))]
  ·rw[if_neg (fun e=>d e.2),if_neg (fun e=>d e.2)];exact VA k (fun i l=>h i (by omega))
theorem CY{f:List MI}{d:Nat->aA}{L:Nat->Bool}:∀(k:Nat),(∀i,i<k->MI.loudAt f i=true->L i=true)->(∀i,i<k->MI.loudAt f i=false->d (i+1)=d i)->Hat f d L k=d k
 |0,_,_=>rfl|k+1,h,g=>by
  simp only[Hat];by_cases c:MI.loudAt f k=true;·rw[if_pos ⟨h k (by omega) c,c⟩]
  ·rw[if_neg (fun e=>c e.2),CY k (fun i j=>h i (by omega)) (fun i j=>g i (by omega)),g k (by omega) (by simpa using c)]
theorem CZ{mis:List MI}{hs:Nat->aA}{L:Nat->Bool}{k:Nat}:∀(d:Nat),(∀i,k<=i->i<k+d->MI.loudAt mis i=true->L i=false)->Hat mis hs L (k+d)=Hat mis hs L k
 |0,_=>rfl|d+1,h=>by
  rw[show k+(d+1)=(k+d)+1 by omega];simp only[Hat];rw[if_neg (fun e=>by have:=h (k+d) (by omega) (by omega) e.2;rw[e.1]at this;cases this)];exact CZ d (fun i c f=>h i c (by omega))
theorem yL0{e c:Nat->Option AV}{x:At}(h:∀t,x=.t t->∀v,e t=some v->c t=some v){v:AV}(d:gO e x=some v):gO c x=some v:=by cases x with
 |t n=>exact h n rfl v d|c v=>exact d
theorem zz2{e g:Nat->Option AV}:∀{d:List At}{c:List AV},(∀t,At.t t∈d->∀v,e t=some v->g t=some v)->iF e d=some c->iF g d=some c
 |[],c,_,h=>h|x::d,c,i,h=>by
  simp only[iF]at h⊢;split at h
  ·rename_i v m j l;rw[yL0 (fun t f=>i t (by simp[f])) j,zz2 (fun t f=>i t (by simp[f])) l];exact h
  ·cases h
theorem zf3{s:Bool}{m:MI}{e f:Nat->Option AV}{r:AV×aA}(o:∀t∈m.reads,∀v,e t=some v->f t=some v)(c:dG G s m e h=some r):dG G s m f h=some r:=by
 have q:∀d,iF e m.args=some d->iF f m.args=some d:=fun d=>zz2 fun t g=>o t (by simp only[MI.reads,iK,IT];exact .inl ⟨_,g,rfl⟩);have go:∀{r},(match iF e m.args with
   |some d=>if s&&!m.o.loud then(iN G h m.o d).map fun v=>(v,h)else fV G h m.o d|none=>none)=some r->(match iF f m.args with
   |some d=>if s&&!m.o.loud then(iN G h m.o d).map fun v=>(v,h)else fV G h m.o d|none=>none)=some r:=fun{r}p=>by
  split at p;·rename_i d u;rw[q d u];exact p
  ·cases p
 unfold dG at c⊢;cases l:m.g with
 |none=>rw[l]at c;exact go c|some x=>
  obtain⟨t,y⟩:=x;rw[l]at c;have g:t∈m.reads:=by simp[MI.reads,l]
  simp only at c⊢;split at c
  ·rename_i b i;rw[o t g _ i];simp only;split at c;·rename_i j;rw[if_pos j];exact go c
   ·rename_i j;rw[if_neg j];exact c
  ·rename_i i;rw[o t g _ i];exact c
  ·cases c
theorem xw0{m:MI}{e:Nat->Option AV}{v:AV}{f:aA}(i:m.o.loud=false)(c:dG G true m e h=some (v,f)):f=h:=by
 have go:∀{r:AV×aA},(match iF e m.args with
   |some g=>if true&&!m.o.loud then(iN G h m.o g).map fun v=>(v,h)else fV G h m.o g|none=>none)=some r->r.2=h:=fun{r}d=>by
  split at d
  ·simp only[i,lA,wI,aM,bS]at d;obtain⟨_,_,rfl⟩:=d;rfl
  ·cases d
 unfold dG at c;simp only at c;split at c;·exact go c
 ·split at c
  ·split at c;·exact go c
   ·injection c with c;injection c with _ c;exact c.symm
  ·injection c with c;injection c with _ c;exact c.symm
  ·cases c
theorem yq9{o:AO}(c:o.blind=true):o.quiet=true:=by cases o<;>first|rfl|cases c
theorem JB{o:AO}(c:o.blind=true):o.loud=false:=by cases o<;>first|rfl|cases c
theorem yq8{o:AO}(e:o.blind=true)(h d:aA)(c:List AV):bV h o c=bV d o c:=by cases o<;>first|exact absurd e Bool.false_ne_true|(rcases c with _|⟨x,_|⟨y,_|⟨z,_|⟨u,r⟩⟩⟩⟩<;>first|rfl|(cases x<;>rfl))
theorem yr0{m:MI}{e:Nat->Option AV}{h o:aA}{v:AV}(i:m.o.blind=true)(c:dG G true m e h=some (v,o))(f:aA):dG G true m e f=some (v,f):=by
 have q:=JB i;have p:=yq9 i;have r:∀d,iN G h m.o d=iN G f m.o d:=fun d=>by unfold iN;rw[if_pos p,if_pos p];exact yq8 i _ _ d
 have go:(match iF e m.args with
   |some d=>if true&&!m.o.loud then(iN G h m.o d).map fun v=>(v,h)else fV G h m.o d|none=>none)=some (v,o)->(match iF e m.args with
   |some d=>if true&&!m.o.loud then(iN G f m.o d).map fun v=>(v,f)else fV G f m.o d|none=>none)=some (v,f):=fun g=>by
  split at g
  ·rename_i d t;simp only[q,lA,wI,aM,bS]at g⊢;obtain⟨x,s,l⟩:=g;injection l with l _;exact⟨x,by rw[<-r];exact s,by rw[l]⟩
  ·cases g
 unfold dG at c⊢;simp only at c⊢;split at c;·exact go c
 ·split at c
  ·split at c;·rename_i j;rw[if_pos j];exact go c
   ·rename_i j;rw[if_neg j];injection c with c;injection c with c _;rw[c]
  ·injection c with c;injection c with c _;rw[c]
  ·cases c
theorem OB{c:List MI}{g:Nat->aA}{L f:Nat->Bool}:∀(k:Nat),(∀i,i<k->MI.loudAt c i=true->f i=L i)->Hat c g f k=Hat c g L k
 |0,_=>rfl|k+1,h=>by
  simp only[Hat];by_cases d:MI.loudAt c k=true;·rw[h k (by omega) d,OB k (fun i j=>h i (by omega))]
  ·rw[if_neg (fun e=>d e.2),if_neg (fun e=>d e.2)];exact OB k (fun i j=>h i (by omega))
def tV(N:Nat)(L:Nat->Bool):Nat:=((List.range N).filter fun i=>!L i).length
theorem QI{e:Type}{p q:e->Bool}(f:∀x,q x=true->p x=true):∀{l:List e}{k:e},k∈l->p k=true->q k=false->(l.filter q).length<(l.filter p).length
 |[],k,c,_,_=>by simp at c|x::l,k,c,i,j=>by
  have m:∀l:List e,(l.filter q).length<=(l.filter p).length:=fun l=>by induction l with
   |nil=>simp|cons y l d=>
    simp only[IL];cases g:q y with
    |true=>rw[f y g];simpa using d|false=>cases o:p y with
     |true=>simp;omega|false=>simpa using d
  rcases dD.1 c with rfl|c
  ·simp only[IL,i,j,aM,bM,bH,jA];have:=m l;omega
  ·have d:=QI f c i j;simp only[IL];cases g:q x with
   |true=>rw[f x g];simpa using d|false=>cases o:p x with
    |true=>simp;omega|false=>simpa using d
theorem zk0{d:List MI}{c:Nat->aA}{L:Nat->Bool}:∀(k:Nat),(∀i,i<k->MI.loudAt d i=true->L i=false)->Hat d c L k=c 0
 |0,_=>rfl|k+1,h=>by
  simp only[Hat];rw[if_neg (fun e=>by rw[h k (by omega) e.2]at e;cases e.1)];exact zk0 k fun i f=>h i (by omega)
theorem zo2{ro:Option Nat}{E:List Nat}{F:List (Nat×Nat)}(hG:GamB P B G){c f:List Nat}{n:Nat}{ops:Array Oper}{Q:Exit->Act->World->Prop}{d:List Deferred}{w0:World}{C0:Cx}{K:Nat->Nat->Option AV}{s:Nat->aA}{S:Nat->AV}(u1:zW E F ops.toList (aO P B.gv c n f ops)=true)(hE:∀k∈E,∀m,(aO P B.gv c n f ops)[k]?=some m->dG G true m (K k) (s 0)=some (S k,s 0))(hF:∀k p,F.contains (k,p)=true->k<p->p<=ops.size->∀m,(aO P B.gv c n f ops)[k]?=some m->dG G true m (K k) (s p)=some (S k,s p))(ht:Trace G (aO P B.gv c n f ops) K s S)(x3:∀(k:Nat)o,ops.toList[k]?=some o->dF P B.gv c n f ops o≠dB)(hQ:∀D a' w',C0.Le D->Inv B D (s ops.size) w'->RelT D (K ops.size) a'->n<=a'.tmps.size->a'.defers=d->Keep B w0 w'->Q .normal a' w'):∀(b1:Nat)(g:Array Bool)(C:Cx)(a:Act)(w:World),g.size=ops.size->Shut ops.toList (fun i=>g.getD i false)->tV ops.size (fun i=>g.getD i false)<=b1->C0.Le C->Keep B w0 w->Inv B C (Hat (aO P B.gv c n f ops) s (fun i=>g.getD i false) ops.size) w->RelT C (Eat (aO P B.gv c n f ops) (K 0) S (fun i=>g.getD i false) ops.size) a->n<=a.tmps.size->a.defers=d->wpAnyIn (fR ro) 0 P .any ops Q b1 g a w:=by
 have C1:(aO P B.gv c n f ops).length=ops.size:=by simp[aO]
 have a2:∀(k:Nat)o,ops[k]?=some o->(aO P B.gv c n f ops)[k]?=some (dF P B.gv c n f ops o):=fun k o v=>by simp[aO,v]
 have d1:∀(k:Nat)o,ops[k]?=some o->(aO P B.gv c n f ops).getD k dB=dF P B.gv c n f ops o:=fun k o v=>by rw[zF,a2 k o v];rfl
 have T:∀k,k<ops.size->(∀o,ops[k]?=some o->∀i∈mR o,i<k)/\∀i,i<k->((oK ops.toList []).getD k []).contains i=true\/(((aO P B.gv c n f ops).getD i dB).apart ((aO P B.gv c n f ops).getD k dB)=true/\((((aO P B.gv c n f ops).getD i dB).o.loud=false/\((aO P B.gv c n f ops).getD k dB).o.loud=false)\/((aO P B.gv c n f ops).getD i dB).o.blind=true\/((aO P B.gv c n f ops).getD k dB).o.blind=true\/(E.contains k=true/\((aO P B.gv c n f ops).getD k dB).o.loud=false/\∀j,j<i->((aO P B.gv c n f ops).getD j dB).o.loud=false)\/(((aO P B.gv c n f ops).getD i dB).o.loud=false/\F.contains (i,k+1)=true))):=by
  intro k hk;unfold zW at u1;have u:=fK.1 u1 k (jF.2 (by simpa using hk));simp only[bR]at u;refine⟨fun o v i l=>?_,fun i l=>?_⟩
  ·have r:=u.1;rw[show ops.toList[k]?=some o by simpa using v]at r;have:=fK.1 r i l;simpa using this
  ·have r:=fK.1 u.2 i (jF.2 (by simp;omega));simp only[zD,mM,IV,bR]at r;rcases r with r|r|r;·omega
   ·exact .inl r
   ·refine .inr ⟨r.1,?_⟩;rcases r.2 with(((q|q)|q)|q)|q;·exact .inl q
    ·exact .inr (.inl q)
    ·exact .inr (.inr (.inl q))
    ·refine .inr (.inr (.inr (.inl ⟨q.1.1,q.1.2,fun j A=>?_⟩)));have:=fK.1 q.2 j (jF.2 A);simpa using this
    ·exact .inr (.inr (.inr (.inr q)))
 have f1:∀(f2:Nat->Bool),Shut ops.toList f2->∀k o,ops[k]?=some o->(∀i∈mR o,f2 i=true)->∀i,((oK ops.toList []).getD k []).contains i=true->f2 i=true:=fun f2 hL k o v hd i l=>VT hL ops.toList [] [] rfl rfl (fun j o _ A=>by simp at A) k o (by simpa using v) hd i (by simpa using l);have a3:∀i,i<ops.size->MI.loudAt (aO P B.gv c n f ops) i=false->s (i+1)=s i:=fun i l hq=>by
  have v:ops[i]?=some ops[i]:=by simp[l]
  have z3:=ht.step i _ (a2 i _ v);refine xw0 ?_ z3;unfold MI.loudAt at hq;rw[d1 i _ v]at hq;exact hq
 intro b1;induction b1 with
 |zero=>
  intro g C a w u2 J b2 j3 i2 j2 d2 d3 i3;have M:∀i,i<ops.size->g.getD i false=true:=fun i l=>by cases y:g.getD i false with
   |true=>rfl|false=>
    have:i∈(List.range ops.size).filter fun i=>!g.getD i false:=nG.2 ⟨jF.2 l,by rw[y];rfl⟩;have:=List.length_pos_of_mem this;unfold tV at b2;dsimp only at b2;omega
  refine⟨?_,?_⟩;·cases hr:Region.ready .any ops g with
   |nil=>rfl|cons i C2=>
    have Z:i∈Region.ready .any ops g:=by rw[hr];simp
    obtain⟨u,oi,r,_⟩:=mem_ready.1 Z;have l:i<ops.size:=(lL.1 r).1;have q:=M i l;have n2:i<g.size:=by omega
    simp[n2]at u q;rw[u]at q;cases q
  ·refine hQ C a w j3 ?_ (fun t x I=>d2 t x ?_) d3 i3 i2;·rw[<-CY ops.size (fun i l _=>M i l) (fun i l=>a3 i l)];exact j2
   ·rw[NP ops.size (fun i l _=>M i l)];exact NQ ht ops.size x (by omega) I|succ b1 ih=>
  intro g C a w u2 J b2 j3 i2 j2 d2 d3 i3;refine⟨fun hr=>?_,fun k hk=>?_⟩;·
   have M:∀i,i<ops.size->g.getD i false=true:=by
    intro i;induction i using Nat.strongRecOn with|_ i A3=>
     intro l;cases y:g.getD i false with
     |true=>rfl|false=>
      have v:ops[i]?=some ops[i]:=by simp[l]
      have:i∈Region.ready .any ops g:=mem_ready.2 ⟨by
       have n2:i<g.size:=by omega
       simp[n2]at y⊢;exact y,ops[i],v,fun e he y=>by
       have x1:=(T i l).1 _ v e.on (IT.2 ⟨e,by simpa using he,by rw[if_pos y]⟩);exact A3 e.on x1 (by omega)⟩;rw[hr]at this;cases this
   refine hQ C a w j3 ?_ (fun t x I=>d2 t x ?_) d3 i3 i2;·rw[<-CY ops.size (fun i l _=>M i l) (fun i l=>a3 i l)];exact j2
   ·rw[NP ops.size (fun i l _=>M i l)];exact NQ ht ops.size x (by omega) I
  ·obtain⟨v2,o,v,A2⟩:=mem_ready.1 hk;have Y:k<ops.size:=(lL.1 v).1;have t1:k<g.size:=by omega
   have e3:g.getD k false=false:=by simp[t1]at v2⊢;exact v2
   have q3:∀i∈mR o,g.getD i false=true:=fun i l=>by
    obtain⟨e,he,u⟩:=IT.1 l;split at u;·rename_i y;cases u;exact A2 e (by simpa using he) y
    ·cases u
   have m2:=f1 _ J k o v q3;have Z:=a2 k o v;have H:=d1 k o v;have p2:∀j,k<j->j<ops.size->((oK ops.toList []).getD j []).contains k=true->g.getD j false=false:=fun j u r q=>by cases y:g.getD j false with
    |false=>rfl|true=>
     have N:ops[j]?=some ops[j]:=by simp[r]
     have:=f1 _ J j _ N (J j ops[j] (by simp) y) k q;rw[e3]at this;cases this
   have f3:∀i j,i<j->j<ops.size->((((aO P B.gv c n f ops).getD i dB).o.loud=false/\((aO P B.gv c n f ops).getD j dB).o.loud=false)\/((aO P B.gv c n f ops).getD i dB).o.blind=true\/((aO P B.gv c n f ops).getD j dB).o.blind=true\/(E.contains j=true/\((aO P B.gv c n f ops).getD j dB).o.loud=false/\∀X,X<i->((aO P B.gv c n f ops).getD X dB).o.loud=false)\/(((aO P B.gv c n f ops).getD i dB).o.loud=false/\F.contains (i,j+1)=true))->(((aO P B.gv c n f ops).getD i dB).o.loud=true->((aO P B.gv c n f ops).getD j dB).o.blind=true\/(E.contains j=true/\((aO P B.gv c n f ops).getD j dB).o.loud=false/\∀X,X<i->((aO P B.gv c n f ops).getD X dB).o.loud=false))/\(((aO P B.gv c n f ops).getD j dB).o.loud=true->((aO P B.gv c n f ops).getD i dB).o.blind=true\/(((aO P B.gv c n f ops).getD i dB).o.loud=false/\F.contains (i,j+1)=true)):=fun i j _ _ h=>by
    rcases h with⟨u,r⟩|h|h|h|h;·exact⟨fun e=>(by rw[u]at e;cases e),fun e=>(by rw[r]at e;cases e)⟩
    ·exact⟨fun e=>(by rw[JB h]at e;cases e),fun _=>.inl h⟩
    ·exact⟨fun _=>.inl h,fun e=>(by rw[JB h]at e;cases e)⟩
    ·exact⟨fun _=>.inr h,fun e=>(by rw[h.2.1]at e;cases e)⟩
    ·exact⟨fun e=>(by rw[h.1]at e;cases e),fun _=>.inr h⟩
   have w1:(dF P B.gv c n f ops o).o.blind=false->(∀i,k<i->i<ops.size->MI.loudAt (aO P B.gv c n f ops) i=true->g.getD i false=false)->Hat (aO P B.gv c n f ops) s (fun i=>g.getD i false) ops.size=Hat (aO P B.gv c n f ops) s (fun i=>g.getD i false) k:=fun l3 o3=>by
    have:=CZ (mis:=aO P B.gv c n f ops) (hs:=s) (L:=fun i=>g.getD i false) (k:=k) (ops.size-k) (fun i u r q=>by
     by_cases z:i=k;·subst z;exact e3
     ·exact o3 i (by omega) (by omega) q);rw[show k+(ops.size-k)=ops.size by omega]at this;exact this
   have p3:∀i j,i<j->j<ops.size->MI.loudAt (aO P B.gv c n f ops) i=true->MI.loudAt (aO P B.gv c n f ops) j=true->((oK ops.toList []).getD j []).contains i=true:=fun i j j1 A o1 l2=>by
    rcases(T j A).2 i j1 with h4|⟨_,h4⟩;·exact h4
    ·exfalso;have l1:((aO P B.gv c n f ops).getD i dB).o.loud=true:=o1;rcases(f3 i j j1 A h4).2 l2 with h5|h5;·rw[JB h5]at l1;cases l1
     ·rw[h5.1]at l1;cases l1
   have y2:(dF P B.gv c n f ops o).o.loud=true->∀i,k<i->i<ops.size->MI.loudAt (aO P B.gv c n f ops) i=true->g.getD i false=false:=fun w3 i s2 l o1=>p2 i s2 l (p3 k i s2 l (by unfold MI.loudAt;rw[H];exact w3) o1);have V:(dF P B.gv c n f ops o).o.blind=false->Hat (aO P B.gv c n f ops) s (fun i=>g.getD i false) ops.size=s k\/(E.contains k=true/\(dF P B.gv c n f ops o).o.loud=false/\Hat (aO P B.gv c n f ops) s (fun i=>g.getD i false) ops.size=s 0)\/((dF P B.gv c n f ops o).o.loud=false/\∃p,F.contains (k,p)=true/\k<p/\p<=ops.size/\Hat (aO P B.gv c n f ops) s (fun i=>g.getD i false) ops.size=s p):=fun l3=>by
    by_cases t2:∃i,k<i/\i<ops.size/\MI.loudAt (aO P B.gv c n f ops) i=true/\g.getD i false=true;·
     right;right;obtain⟨j,s3,A,l2,n1,x2⟩:∃j,k<j/\j<ops.size/\MI.loudAt (aO P B.gv c n f ops) j=true/\g.getD j false=true/\∀i,j<i->i<ops.size->MI.loudAt (aO P B.gv c n f ops) i=true->g.getD i false=false:=by
      have go:∀(m i:Nat),ops.size-i<=m->k<i->i<ops.size->MI.loudAt (aO P B.gv c n f ops) i=true->g.getD i false=true->∃j,k<j/\j<ops.size/\MI.loudAt (aO P B.gv c n f ops) j=true/\g.getD j false=true/\∀i,j<i->i<ops.size->MI.loudAt (aO P B.gv c n f ops) i=true->g.getD i false=false:=by
       intro m;induction m with
       |zero=>intro i u _ q;omega|succ m B1=>
        intro i u r q h4 h5;by_cases t3:∃O,i<O/\O<ops.size/\MI.loudAt (aO P B.gv c n f ops) O=true/\g.getD O false=true
        ·obtain⟨O,g1,g2,g3,g4⟩:=t3;exact B1 O (by omega) (by omega) g2 g3 g4
        ·refine⟨i,r,q,h4,h5,fun O g1 g2 g3=>?_⟩;cases y:g.getD O false with
         |false=>rfl|true=>exact absurd ⟨O,g1,g2,g3,y⟩ t3
      obtain⟨i,r,q,h4,h5⟩:=t2;exact go ops.size i (by omega) r q h4 h5
     have N:ops[j]?=some ops[j]:=by simp[A]
     have q1:(dF P B.gv c n f ops o).o.loud=false/\F.contains (k,j+1)=true:=by
      rcases(T j A).2 k s3 with h4|⟨_,h4⟩
      ·have:=f1 _ J j _ N (J j ops[j] (by simp) n1) k h4;rw[e3]at this;cases this
      ·rcases(f3 k j s3 A h4).2 l2 with h5|h5;·rw[H,l3]at h5;cases h5
       ·rw[H]at h5;exact h5
     refine⟨q1.1,j+1,q1.2,by omega,by omega,?_⟩;have U:=CZ (mis:=aO P B.gv c n f ops) (hs:=s) (L:=fun i=>g.getD i false) (k:=j+1) (ops.size-(j+1)) (fun i u r q=>x2 i (by omega) (by omega) q);rw[show j+1+(ops.size-(j+1))=ops.size by omega]at U;rw[U];refine CY (j+1) (fun i l q=>?_) (fun i l=>a3 i (by omega));by_cases j1:i=j;·subst j1;exact n1
     ·exact f1 _ J j _ N (J j ops[j] (by simp) n1) i (p3 i j (by omega) A q l2)
    rw[w1 l3 (fun i u r q=>by cases y:g.getD i false with
     |false=>rfl|true=>exact absurd ⟨i,u,r,q,y⟩ t2)];by_cases M:∀i,i<k->MI.loudAt (aO P B.gv c n f ops) i=true->g.getD i false=true;·exact .inl (CY k M (fun i l=>a3 i (by omega)))
    ·right;have w2:∃i,i<k/\MI.loudAt (aO P B.gv c n f ops) i=true/\g.getD i false=false:=by
      refine Classical.byContradiction fun o3=>M fun i l hl=>?_;cases y:g.getD i false with
      |true=>rfl|false=>exact absurd ⟨i,l,hl,y⟩ o3
     obtain⟨i,l,r1,n3⟩:=w2;have m3:E.contains k=true/\((aO P B.gv c n f ops).getD k dB).o.loud=false/\∀X,X<i->((aO P B.gv c n f ops).getD X dB).o.loud=false:=by
      rcases(T k Y).2 i l with h4|⟨_,h4⟩;·have:=m2 i h4;rw[n3]at this;cases this
      ·rcases(f3 i k l Y h4).1 r1 with h5|h5;·rw[H,l3]at h5;cases h5
       ·exact h5
     refine .inl ⟨m3.1,by rw[<-H];exact m3.2.1,zk0 k fun j A r3=>?_⟩;cases y:g.getD j false with
     |false=>rfl|true=>
      rcases Nat.lt_trichotomy j i with b3|b3|b3
      ·have:=m3.2.2 j b3;have s1:((aO P B.gv c n f ops).getD j dB).o.loud=true:=r3;rw[this]at s1;cases s1
      ·subst b3;rw[n3]at y;cases y
      ·have N:ops[j]?=some ops[j]:=by simp[show j<ops.size by omega]
       have:=f1 _ J j _ N (J j ops[j] (by simp) y) i (p3 i j b3 (by omega) r1 r3);rw[n3]at this;cases this
   have p1:∀t∈(dF P B.gv c n f ops o).reads,∀x,K k t=some x->Eat (aO P B.gv c n f ops) (K 0) S (fun i=>g.getD i false) ops.size t=some x:=by
    intro t v1 x I;have U:=NQ ht k x (by omega) I;rw[<-U];have e2:=HC (mis:=aO P B.gv c n f ops) (e0:=K 0) (vs:=S) (L:=fun i=>g.getD i false) (t:=t) (k:=k) (ops.size-k) (fun i u r q=>by
     by_cases z:i=k;·subst z;exact e3
     ·have W:ops[i]?=some ops[i]:=by simp[show i<ops.size by omega]
      rcases(T i (by omega)).2 k (by omega)with h4|⟨h4,_⟩;·exact p2 i (by omega) (by omega) h4
      ·exfalso;rw[H,d1 i _ W]at h4;have h5:(dF P B.gv c n f ops ops[i]).dst=some t:=by simpa[MI.dstAt,a2 i _ W]using q
       simp only[MI.apart,h5,bR]at h4;have h6:=h4.2;simp at h6;exact h6 v1);rw[show k+(ops.size-k)=ops.size by omega]at e2;rw[e2];refine NP k (fun i l q=>?_);have W:ops[i]?=some ops[i]:=by simp[show i<ops.size by omega]
    rcases(T k Y).2 i l with h4|⟨h4,_⟩;·exact m2 i h4
    ·exfalso;rw[H,d1 i _ W]at h4;have h5:(dF P B.gv c n f ops ops[i]).dst=some t:=by simpa[MI.dstAt,a2 i _ W]using q
     simp only[MI.apart,h5,bR]at h4;have h6:=h4.1.1;simp at h6;exact h6 v1
   have m1:∀i,(g.setIfInBounds k true).getD i false=if i=k then true else g.getD i false:=fun i=>by
    by_cases z:i=k;·subst z;simp[t1]
    ·simp[z,VR (fun e=>z e.symm)]
   have q2:(fun i=>(g.setIfInBounds k true).getD i false)=fun i=>if i=k then true else g.getD i false:=funext m1;have A1:dG G true (dF P B.gv c n f ops o) (Eat (aO P B.gv c n f ops) (K 0) S (fun i=>g.getD i false) ops.size) (Hat (aO P B.gv c n f ops) s (fun i=>g.getD i false) ops.size)=some (S k,Hat (aO P B.gv c n f ops) s (fun i=>(g.setIfInBounds k true).getD i false) ops.size):=by
    rw[q2];have h0:=zf3 p1 (ht.step k _ Z);cases i1:(dF P B.gv c n f ops o).o.blind with
    |true=>
     have U:Hat (aO P B.gv c n f ops) s (fun i=>if i=k then true else g.getD i false) ops.size=Hat (aO P B.gv c n f ops) s (fun i=>g.getD i false) ops.size:=OB ops.size (fun i _ q=>by
      show(if i=k then true else g.getD i false)=g.getD i false;by_cases z:i=k
      ·subst z;unfold MI.loudAt at q;rw[H,JB i1]at q;cases q
      ·rw[if_neg z]);rw[U];exact yr0 i1 h0 _|false=>
     have o2:(dF P B.gv c n f ops o).o.loud=false->Hat (aO P B.gv c n f ops) s (fun i=>if i=k then true else g.getD i false) ops.size=Hat (aO P B.gv c n f ops) s (fun i=>g.getD i false) ops.size:=fun L=>OB ops.size (fun i _ q=>by
      show(if i=k then true else g.getD i false)=g.getD i false;by_cases z:i=k
      ·subst z;unfold MI.loudAt at q;rw[H,L]at q;cases q
      ·rw[if_neg z]);cases V i1 with
     |inr B2=>
      rcases B2 with⟨v3,L,V⟩|⟨L,p,y3,z1,z2,V⟩
      ·rw[o2 L,V];exact zf3 p1 (hE k (by simpa using v3) _ Z)
      ·rw[o2 L,V];exact zf3 p1 (hF k p y3 z1 z2 _ Z)|inl V=>cases L:(dF P B.gv c n f ops o).o.loud with
      |false=>
       rw[o2 L,V];have hq:=a3 k Y (by unfold MI.loudAt;rw[H];exact L);rw[hq]at h0;exact h0|true=>
       rw[V];have U:Hat (aO P B.gv c n f ops) s (fun i=>if i=k then true else g.getD i false) ops.size=Hat (aO P B.gv c n f ops) s (fun i=>if i=k then true else g.getD i false) (k+1):=by
        have:=CZ (mis:=aO P B.gv c n f ops) (hs:=s) (L:=fun i=>if i=k then true else g.getD i false) (k:=k+1) (ops.size-(k+1)) (fun i u r q=>by
         show(if i=k then true else g.getD i false)=false;rw[if_neg (by omega)];exact y2 L i (by omega) (by omega) q);rw[show k+1+(ops.size-(k+1))=ops.size by omega]at this;exact this
       rw[U,CY (k+1) (fun i l q=>by
        show(if i=k then true else g.getD i false)=true;by_cases z:i=k;·rw[if_pos z]
        ·rw[if_neg z];rcases(T k Y).2 i (by omega)with h4|⟨_,h4⟩;·exact m2 i h4
         ·rcases(f3 i k (by omega) Y h4).1 q with h5|h5;·rw[H,i1]at h5;cases h5
          ·rw[H,L]at h5;cases h5.2.1) (fun i l=>a3 i (by omega))];exact h0
   have y1:=x3 k o (by simpa using v);obtain⟨c1,c2,c3⟩:=DO y1;refine zf4 hG j2 d2 v A1 (fun B3 D w' k1 k2 k3 k4=>?_);refine ih (g.setIfInBounds k true) D (a.put o.dst B3) w' (by simp[u2]) (fun j oj N A i l=>?_) ?_ (j3.trans k1) (i2.trans k4) ?_ ?_ (by rw[SV];exact d3) (by rw[SU];exact i3)
   ·simp only[m1]at A⊢;by_cases z:i=k;·simp[z]
    ·rw[if_neg z];by_cases r2:j=k
     ·subst r2;have:oj=o:=by
       have u:ops[j]?=some oj:=by simpa using N
       rw[v]at u;injection u with u;exact u.symm
      subst this;exact q3 i l
     ·rw[if_neg r2]at A;exact J j oj N A i l
   ·have:=QI (p:=fun i=>!g.getD i false) (q:=fun i=>!(g.setIfInBounds k true).getD i false) (fun i l=>by
     rw[m1]at l;split at l;·cases l
     ·exact l) (jF.2 Y) (by rw[e3];rfl) (by rw[m1,if_pos rfl];rfl);unfold tV at b2⊢;dsimp only at b2⊢;omega
   ·exact k2
   ·rw[q2];refine(d2.mono k1).put k3 (fun t a1=>sP (c3 t a1) d3) (fun t x I=>?_);by_cases a1:o.dst=some t
    ·left;refine⟨a1,?_⟩;have e2:=HC (mis:=aO P B.gv c n f ops) (e0:=K 0) (vs:=S) (L:=fun i=>if i=k then true else g.getD i false) (t:=t) (k:=k+1) (ops.size-(k+1)) (fun i u r q=>by
      show(if i=k then true else g.getD i false)=false;rw[if_neg (by omega)];have W:ops[i]?=some ops[i]:=by simp[show i<ops.size by omega]
      rcases(T i (by omega)).2 k (by omega)with h4|⟨h4,_⟩;·exact p2 i (by omega) (by omega) h4
      ·exfalso;rw[H,d1 i _ W]at h4;have h5:(dF P B.gv c n f ops ops[i]).dst=some t:=by simpa[MI.dstAt,a2 i _ W]using q
       have h7:(dF P B.gv c n f ops o).dst=some t:=by rw[c1];exact a1
       simp[MI.apart,h5,h7]at h4);rw[show k+1+(ops.size-(k+1))=ops.size by omega]at e2;rw[e2]at I;simp only[Eat]at I;rw[if_pos ⟨by simp,by simp only[MI.dstAt,Z,wO];rw[c1];exact a1⟩]at I;injection I with I;exact I.symm
    ·right;refine⟨a1,?_⟩;rw[<-I];refine(VA ops.size (fun i l q=>?_)).symm;show(if i=k then true else g.getD i false)=g.getD i false;rw[if_neg (fun e=>a1 (by subst e;simpa[MI.dstAt,Z,c1]using q))]
theorem zu0{V:Option Nat}(N:GamB P B G){c e:List Nat}{n:Nat}{ops:Array Oper}{Q:Exit->Act->World->Prop}{g m u v:List (Nat×AV)}{y:aA}(d:StOK c n B C g m h a w)(S:PY ops.toList (aO P B.gv c n e ops)=true)(T:run G true (aO P B.gv c n e ops) (.ok g m h)=.ok u v y)(O:∀D f w',C.Le D->StOK c n B D u v y f w'->f.defers=a.defers->Keep B w w'->Q .normal f w'):wpAnyIn (fR V) 0 P .any ops Q ops.size (Array.replicate ops.size false) a {w with drawn:=w.drawn+1}:=by
 obtain⟨l,r,H,U,I,J,K,L,s,M⟩:=yd6 ops.toList g m h d.sep T;have z:Below w.heap.size w {w with drawn:=w.drawn+1}:=WC w;refine(zo2 (E:=[]) (F:=[]) (B:=B) (d:=a.defers) (w0:=w) (C0:=C) N S (fun k q=>by cases q) (fun k p q=>by simp at q) U M (fun D f w' k1 k2 k3 k4 k5 k6=>O D f w' k1 ⟨?_,?_,s.1,s.2 d.keys,k4⟩ k5 k6) ops.size _ C a _ (by simp) (fun j o _ A=>?_) ?_ (.refl C) (jK d.inv z) ?_ ?_ d.size rfl);·rw[<-L];simpa using k2
 ·rw[<-K];simpa using k3
 ·simp only[getD_replicate_false]at A;cases A
 ·unfold tV;exact oJ (zG _ _) (by simp)
 ·have:Hat (aO P B.gv c n e ops) r (fun i=>(Array.replicate ops.size false).getD i false) ops.size=r 0:=by
   have:=CZ (mis:=aO P B.gv c n e ops) (hs:=r) (L:=fun i=>(Array.replicate ops.size false).getD i false) (k:=0) ops.size (fun i _ _ _=>getD_replicate_false _ _);simpa[Hat]using this
  rw[this,J];exact d.inv.grow z
 ·intro t x E;have:Eat (aO P B.gv c n e ops) (l 0) H (fun i=>(Array.replicate ops.size false).getD i false) ops.size t=l 0 t:=by
   have:=HC (mis:=aO P B.gv c n e ops) (e0:=l 0) (vs:=H) (L:=fun i=>(Array.replicate ops.size false).getD i false) (t:=t) (k:=0) ops.size (fun i _ _ _=>getD_replicate_false _ _);simpa[Eat]using this
  rw[this,I]at E;exact d.rel t x E
theorem xm0{t:Option Nat}(p:P.follows .mixedOrders=true)(m:GamB P B G){c l:List Nat}{n id:Nat}{ops:Array Oper}{Q:Exit->Act->World->Prop}{e g f i:List (Nat×AV)}{j:aA}(s:StOK c n B C e g h a w)(q:PY ops.toList (aO P B.gv c n l ops)=true)(r:run G true (aO P B.gv c n l ops) (.ok e g h)=.ok f i j)(o:∀D d w',C.Le D->StOK c n B D f i j d w'->d.defers=a.defers->Keep B w w'->Q .normal d w'):(Code.region id ops true).wpIn (fR t) 0 P Q a w:=wpIn_region_any p (zu0 m s q r o)
end
abbrev ME:=Bool×List Nat×MI
def wZ(E:List Nat)(F:List (Nat×Nat)):Nat->List MI->List ME
 |_,[]=>[]|k,m::c=>(E.contains k,(F.filter fun q=>decide (q.1=k)).map (fun q=>q.2-k-1),m)::wZ E F (k+1) c
abbrev jD:=List (Nat×(aA->Prop))
def mX(h:aA):jD->Prop
 |[]=>True|(0,c)::r=>c h/\mX h r|(_+1,_)::r=>mX h r
def mE:jD->jD
 |[]=>[]|(0,_)::r=>mE r|(n+1,c)::r=>(n,c)::mE r
def qF(G:Gam)(m:MI)(c e:List (Nat×AV))(v:AV):List Nat->jD
 |[]=>[]|d::r=>(d,fun h=>dG G true m (aV c e) h=some (v,h))::qF G m c e v r
def jP(G:Gam)(g:aA):List ME->(List (Nat×AV)->List (Nat×AV)->aA->Prop)->jD->List (Nat×AV)->List (Nat×AV)->aA->Prop
 |[],Q,f,c,d,h=>mX h f/\Q c d h|(e,l,m)::j,Q,f,c,d,h=>mX h f/\match dG G true m (aV c d) h with
  |none=>False|some (v,i)=>(e=true->dG G true m (aV c d) g=some (v,g))/\(match m.dst with
   |none=>jP G g j Q (qF G m c d v l++mE f) c d i|some t=>if m.kept then jP G g j Q (qF G m c d v l++mE f) c (upd t v d) i else jP G g j Q (qF G m c d v l++mE f) ((t,v)::c) d i)
theorem SQ{h:aA}:∀{pd:jD}{c:aA->Prop},mX h pd->(0,c)∈pd->c h
 |[],_,_,d=>by cases d|(0,g)::r,c,f,d=>by
  rcases dD.1 d with e|d;·injection e with _ e;subst e;exact f.1
  ·exact SQ f.2 d|(n+1,g)::r,c,f,d=>by
  rcases dD.1 d with e|d;·injection e with e _;cases e
  ·exact SQ (pd:=r) f d
theorem zb1:∀{pd:jD}{d:Nat}{c:aA->Prop},(d+1,c)∈pd->(d,c)∈mE pd
 |[],_,_,f=>by cases f|(0,i)::r,d,c,f=>by
  rcases dD.1 f with e|f;·injection e with e _;cases e
  ·exact zb1 (pd:=r) f|(n+1,i)::r,d,c,f=>by
  rcases dD.1 f with e|f;·injection e with g j;injection g with g;subst g j;simp[mE]
  ·exact lC _ (zb1 f)
theorem zR7{G:Gam}{m:MI}{e f:List (Nat×AV)}{v:AV}:∀{g:List Nat}{d:Nat},d∈g->(d,fun h=>dG G true m (aV e f) h=some (v,h))∈qF G m e f v g
 |[],_,c=>by cases c|x::r,d,c=>by
  rcases dD.1 c with rfl|c;·exact List.mem_cons_self
  ·exact lC _ (zR7 c)
section
variable{P:Program}{B:Base}{C D:Cx}{h:aA}{w w':World}{G:Gam}{a:Act}
theorem yd7{g l:List Nat}{n:Nat}{ops:Array Oper}{E:List Nat}{F:List (Nat×Nat)}{h0:aA}{Q:List (Nat×AV)->List (Nat×AV)->aA->Prop}:∀(s:List Oper)(k0:Nat)(J:jD)(i j:List (Nat×AV))(h:aA),Sep g i->jP G h0 (wZ E F k0 (s.map (dF P B.gv g n l ops))) Q J i j h->∃y r K A H N,Q A H N/\Trace G (s.map (dF P B.gv g n l ops)) y r K/\y 0=aV i j/\r 0=h/\y s.length=aV A H/\r s.length=N/\(Sep g A/\(Keys g j->Keys g H))/\(∀(k:Nat)o,s[k]?=some o->dF P B.gv g n l ops o≠dB)/\(∀(k:Nat)m,E.contains (k0+k)=true->(s.map (dF P B.gv g n l ops))[k]?=some m->dG G true m (y k) h0=some (K k,h0))/\(∀d c,(d,c)∈J->d<=s.length->c (r d))/\(∀(k p:Nat)m,F.contains (k0+k,k0+p)=true->k<p->p<=s.length->(s.map (dF P B.gv g n l ops))[k]?=some m->dG G true m (y k) (r p)=some (K k,r p))
 |[],k0,J,i,j,h,T,f=>⟨fun _=>aV i j,fun _=>h,fun _=>.junk,i,j,h,f.2,⟨fun k m e=>by simp at e,fun k m e=>by simp at e⟩,rfl,rfl,rfl,rfl,⟨T,id⟩,fun k o u=>by simp at u,fun k m _ e=>by simp at e,fun d c e z=>(by
   have:d=0:=by simpa using z
   subst this;exact SQ f.1 e),fun k p m _ _ _ e=>by simp at e⟩|o::s,k0,J,i,j,h,T,f=>by
  simp only[fE,wZ,jP]at f;obtain⟨a3,f⟩:=f;cases r:dG G true (dF P B.gv g n l ops o) (aV i j) h with
  |none=>simp only[r]at f|some vh=>
   obtain⟨v,O⟩:=vh;simp only[r]at f;obtain⟨b1,f⟩:=f;have W:dF P B.gv g n l ops o≠dB:=fun S=>by rw[S,sS]at r;cases r
   obtain⟨c1,c2,c3⟩:=DO W;obtain⟨L,M,hb,d1⟩:∃L M,iD (dF P B.gv g n l ops o).dst (dF P B.gv g n l ops o).kept i j (some (v,O))=.ok L M O/\jP G h0 (wZ E F (k0+1) (s.map (dF P B.gv g n l ops))) Q (qF G (dF P B.gv g n l ops o) i j v ((F.filter fun q=>decide (q.1=k0)).map (fun q=>q.2-k0-1))++mE J) L M O:=by cases z:(dF P B.gv g n l ops o).dst with
    |none=>simp only[z]at f;exact⟨i,j,rfl,f⟩|some t=>
     simp only[z]at f;cases u:(dF P B.gv g n l ops o).kept with
     |true=>simp only[u,aM]at f;exact⟨i,upd t v j,by simp[iD],f⟩|false=>simp only[u,bM,bH]at f;exact⟨(t,v)::i,j,by simp[iD],f⟩
   obtain⟨_,d2,b3,b2⟩:=OS T (by rw[c2,c1]) hb;obtain⟨y,Y,K,A,H,N,q0,Z,S,e2,e3,e4,U,e6,e7,V,e9⟩:=yd7 s (k0+1) _ L M O d2 d1;refine⟨fun k=>match k with|0=>aV i j|k+1=>y k,fun k=>match k with|0=>h|k+1=>Y k,fun k=>match k with|0=>v|k+1=>K k,A,H,N,q0,⟨fun k m e=>?_,fun k m e t x hx=>?_⟩,rfl,rfl,e3,e4,⟨U.1,fun u=>U.2 (b3 u)⟩,fun k o' u=>?_,fun k m I e=>?_,fun d c e z=>?_,fun k p m I d3 X e=>?_⟩;·cases k with
    |zero=>simp at e;subst e;show _=some (v,Y 0);rw[e2];exact r|succ k=>exact Z.step k m (by simpa using e)
   ·cases k with
    |zero=>simp at e;subst e;have a1:y 0 t=some x:=hx;rw[S]at a1;exact b2 t x a1|succ k=>exact Z.put k m (by simpa using e) t x hx
   ·cases k with
    |zero=>simp at u;subst u;exact W|succ k=>exact e6 k o' (by simpa using u)
   ·cases k with
    |zero=>simp at e;subst e;exact b1 I|succ k=>exact e7 k m (by rw[show k0+1+k=k0+(k+1)by omega];exact I) (by simpa using e)
   ·cases d with
    |zero=>exact SQ a3 e|succ d=>exact V d c (List.mem_append_right _ (zb1 e)) (by simpa using z)
   ·cases p with
    |zero=>omega|succ p=>cases k with
     |zero=>
      simp at e;subst e;have a2:(k0,k0+(p+1))∈F:=by simpa using I
      exact V p _ (zI _ (zR7 (jE.2 ⟨(k0,k0+(p+1)),nG.2 ⟨a2,by simp⟩,by simp⟩))) (by simpa using X)|succ k=>exact e9 k p m (by rw[show k0+1+k=k0+(k+1)by omega,show k0+1+p=k0+(p+1)by omega];exact I) (by omega) (by simpa using X) (by simpa using e)
theorem zu6{ro:Option Nat}(O:GamB P B G){c e:List Nat}{n:Nat}{E:List Nat}{F:List (Nat×Nat)}{ops:Array Oper}{Q:Exit->Act->World->Prop}{K:List (Nat×AV)->List (Nat×AV)->aA->Prop}{o q:List (Nat×AV)}(d:StOK c n B C o q h a w)(W:zW E F ops.toList (aO P B.gv c n e ops)=true)(Y:jP G h (wZ E F 0 (aO P B.gv c n e ops)) K [] o q h)(S:∀g j l D f w',K g j l->C.Le D->StOK c n B D g j l f w'->f.defers=a.defers->Keep B w w'->Q .normal f w'):wpAnyIn (fR ro) 0 P .any ops Q ops.size (Array.replicate ops.size false) a {w with drawn:=w.drawn+1}:=by
 obtain⟨p,s,A,g,j,l,q0,Z,H,u,I,J,v,L,M,e8,N⟩:=yd7 (E:=E) (F:=F) (h0:=h) ops.toList 0 [] o q h d.sep Y;have x:Below w.heap.size w {w with drawn:=w.drawn+1}:=WC w;refine(zo2 (E:=E) (F:=F) (B:=B) (d:=a.defers) (w0:=w) (C0:=C) O W (fun k U m r=>by rw[u];exact M k m (by simpa using U) r) (fun k a1 T V X m r=>N k a1 m (by simpa using T) V (by simpa using X) r) Z L (fun D f w' k1 k2 k3 k4 k5 k6=>S g j l D f w' q0 k1 ⟨?_,?_,v.1,v.2 d.keys,k4⟩ k5 k6) ops.size _ C a _ (by simp) (fun a3 b1 _ y=>?_) ?_ (.refl C) (jK d.inv x) ?_ ?_ d.size rfl);·rw[<-J];simpa using k2
 ·rw[<-I];simpa using k3
 ·simp only[getD_replicate_false]at y;cases y
 ·unfold tV;exact oJ (zG _ _) (by simp)
 ·have:Hat (aO P B.gv c n e ops) s (fun i=>(Array.replicate ops.size false).getD i false) ops.size=s 0:=by
   have:=CZ (mis:=aO P B.gv c n e ops) (hs:=s) (L:=fun i=>(Array.replicate ops.size false).getD i false) (k:=0) ops.size (fun i _ _ _=>getD_replicate_false _ _);simpa[Hat]using this
  rw[this,u];exact d.inv.grow x
 ·intro t a2 z;have:Eat (aO P B.gv c n e ops) (p 0) A (fun i=>(Array.replicate ops.size false).getD i false) ops.size t=p 0 t:=by
   have:=HC (mis:=aO P B.gv c n e ops) (e0:=p 0) (vs:=A) (L:=fun i=>(Array.replicate ops.size false).getD i false) (t:=t) (k:=0) ops.size (fun i _ _ _=>getD_replicate_false _ _);simpa[Eat]using this
  rw[this,H]at z;exact d.rel t a2 z
theorem xm1{t:Option Nat}(p:P.follows .mixedOrders=true)(m:GamB P B G){c l:List Nat}{n id:Nat}{E:List Nat}{F:List (Nat×Nat)}{ops:Array Oper}{Q:Exit->Act->World->Prop}{K:List (Nat×AV)->List (Nat×AV)->aA->Prop}{e g:List (Nat×AV)}(s:StOK c n B C e g h a w)(q:zW E F ops.toList (aO P B.gv c n l ops)=true)(r:jP G h (wZ E F 0 (aO P B.gv c n l ops)) K [] e g h)(o:∀f i j D d w',K f i j->C.Le D->StOK c n B D f i j d w'->d.defers=a.defers->Keep B w w'->Q .normal d w'):(Code.region id ops true).wpIn (fR t) 0 P Q a w:=wpIn_region_any p (zu6 m s q r o)
end
section
open Go
section
variable{F:Fence}{n:Nat}{P:Program}{Q:Exit->Act->World->Prop}{a:Act}{w:World}{b:Frame}{k:List Item}{cs:List Frame}
theorem GG{c:Code}:step P (lone (b.atR a (.code (.scope c)::k)) cs w)=.next (lone (b.atR a (.code c::.inScope c::k)) cs w):=step_lone_go (by simp[stepG,stepG.exec,Frame.atR])
theorem xv9{c:Code}:step P (lone (b.atR a (.inScope c::k)) cs w)=.next (lone (b.atR a k) cs w):=step_lone_go (by simp[stepG,stepG.exec,Frame.atR])
theorem xG2{c:Code}(h:c.wpIn F n P (Exit.noGoto Q) a w):(Code.scope c).wpIn F n P Q a w:=by
 intro b k cs u m p;have d:(lone (b.atR a (.code (.scope c)::k)) cs w).fenced P F:=fenced_calm m p rfl;obtain⟨e,i,j,g,f⟩:=h b (.inScope c::k) cs u m p;cases e with
 |normal=>exact⟨.normal,i,j,g,.head d GG (StepsIn.trans f (.one (fenced_calm m p rfl) xv9))⟩|exit id=>
  have q:exitTo id (.inScope c::k)=exitTo id k:=by simp[exitTo]
  exact⟨.exit id,i,j,g,fun v o=>.head d GG (f.1 v (by rw[q];exact o)),fun t o=>let⟨x,r,s⟩:=f.2 t (by rw[q];exact o);⟨x,r,.head d GG s⟩⟩|goto l=>exact g.elim|ret=>exact⟨_,i,j,g,.of_steps (.one d GG) f⟩|panic y=>exact⟨_,i,j,g,.of_steps (.one d GG) f⟩|outgrown=>exact⟨_,i,j,g,.of_steps (.one d GG) f⟩
end
end
theorem gd{c:Array Bool}{i:Nat}(d:i<c.size):c.getD i true=c.getD i false:=by simp[d]
def FX(c:Nat->Nat)(d:List Nat)(o:Oper):Oper:={o with after:=((o.after.toList.map fun(e:Edge)=>({e with on:=c e.on}:Edge))++d.map fun j=>(⟨c j,.data⟩:Edge)).toArray,guard:=o.guard.map fun g=>(c g.1,g.2)}
def ahead(σ:List Nat)(i:Nat):List Nat:=if σ.contains i then σ.takeWhile (fun j=>j !=i)else[]
def nA(ops:Array Oper)(ord σ:List Nat):Array Oper:=(ord.map fun i=>FX ord.idxOf (ahead σ i) (ops.getD i default)).toArray
def YO(n:Nat)(ord:List Nat):Bool:=decide (ord.length=n)&&ord.all (fun i=>decide (i<n))&&(List.range n).all fun i=>ord.contains i&&ord.idxOf (ord.getD i 0)==i
section
variable{P:Program}{F:Fence}{n:Nat}{ops:Array Oper}{Q:Exit->Act->World->Prop}{ord σ:List Nat}
structure Ord(N:Nat)(ord:List Nat):Prop where
 len:ord.length=N
 lt:∀i∈ord,i<N
 mem:∀i,i<N->i∈ord
 inv:∀k,k<N->ord.idxOf (ord.getD k 0)=k
theorem xh1{N:Nat}(h:YO N ord=true):Ord N ord:=by
 unfold YO at h;simp only[bR,fD,fK,jF,beq_iff_eq]at h;exact⟨h.1.1,h.1.2,fun i c=>by simpa using(h.2 i c).1,fun k d=>(h.2 k d).2⟩
theorem Ord.at{N:Nat}(h:Ord N ord){i:Nat}(d:i<N):ord[ord.idxOf i]?=some i:=by
 have c:ord.idxOf i<ord.length:=List.idxOf_lt_length_of_mem (h.mem i d);rw[gI c,List.getElem_idxOf]
theorem Ord.pos_lt{N:Nat}(h:Ord N ord){i:Nat}(c:i<N):ord.idxOf i<N:=by
 have:=List.idxOf_lt_length_of_mem (h.mem i c);rw[h.len]at this;exact this
theorem Ord.pos_ge{N:Nat}(h:Ord N ord){i:Nat}(e:N<=i):N<=ord.idxOf i:=by
 rcases lY (ord.idxOf i) N with c|c
 ·have d:ord.idxOf i<ord.length:=by rw[h.len];exact c
  have:ord[ord.idxOf i]=i:=List.getElem_idxOf d;have:=h.lt i (by rw[<-this];exact IQ d);omega
 ·exact c
theorem Ord.inj{N:Nat}(h:Ord N ord){i j:Nat}(d:i<N)(f:j<N)(e:ord.idxOf i=ord.idxOf j):i=j:=by
 have c:=h.at d;rw[e,h.at f]at c;injection c with c;exact c.symm
theorem zc4:(nA ops ord σ).size=ord.length:=by simp[nA]
theorem TB(h:Ord ops.size ord){i:Nat}{o:Oper}(c:ops[i]?=some o):(nA ops ord σ)[ord.idxOf i]?=some (FX ord.idxOf (ahead σ i) o):=by
 have e:i<ops.size:=(lL.1 c).1;have d:=h.at e;simp only[nA,List.getElem?_toArray,pM,d,dI];rw[show ops.getD i default=o by rw[Array.getD_eq_getD_getElem?,c];rfl]
theorem xm9(h:Ord ops.size ord)(d:Array Value)(j:Nat):yielded (nA ops ord σ) d (ord.idxOf j)=yielded ops d j:=by
 unfold yielded;cases c:ops[j]? with
 |some o=>rw[TB h c];rfl|none=>
  have e:ops.size<=j:=by simpa using c
  have:(nA ops ord σ)[ord.idxOf j]?=none:=by rw[Array.getElem?_eq_none];rw[zc4,h.len];exact h.pos_ge e
  rw[this]
theorem xm8(h:Ord ops.size ord){i:Nat}(e:i<ops.size){K:Act->World->Prop}{a:Act}{w:World}(c:wpOpIn F n P (nA ops ord σ) Q (ord.idxOf i) K a w):wpOpIn F n P ops Q i K a w:=by
 have d:ops[i]?=some ops[i]:=by simp[e]
 unfold wpOpIn at c⊢;rw[TB h d]at c;rw[d];dsimp only at c⊢;have f:Region.wanted (FX ord.idxOf (ahead σ i) ops[i]) (yielded (nA ops ord σ) a.tmps)=Region.wanted ops[i] (yielded ops a.tmps):=by
  unfold Region.wanted FX;cases ops[i].guard with
  |none=>rfl|some g=>obtain⟨j,b⟩:=g;simp only[dI,xm9 h]
 rw[f]at c;exact c
abbrev tE(ops:Array Oper)(c t:Nat)(d:Array Bool):List Nat:=Region.linearise.go .any ops c t d []
theorem zK1{fuel t:Nat}{listed:Array Bool}:(Region.ready .any ops listed=[]/\tE ops (fuel+1) t listed=[])\/∃i d,i∈Region.ready .any ops listed/\tE ops (fuel+1) t listed=i::tE ops fuel d (listed.setIfInBounds i true):=by
 unfold tE;simp only[Region.linearise.go];change(_/\(match(Region.ready .any ops listed)[t%(Region.ready .any ops listed).length]? with
   |some i=>Region.linearise.go .any ops fuel (t/(Region.ready .any ops listed).length) (listed.setIfInBounds i true) [i]|none=>[].reverse)=[])\/∃i d,i∈Region.ready .any ops listed/\(match(Region.ready .any ops listed)[t%(Region.ready .any ops listed).length]? with
   |some i=>Region.linearise.go .any ops fuel (t/(Region.ready .any ops listed).length) (listed.setIfInBounds i true) [i]|none=>[].reverse)=i::tE ops fuel d (listed.setIfInBounds i true);cases c:(Region.ready .any ops listed)[t%(Region.ready .any ops listed).length]? with
 |none=>
  left;refine⟨?_,rfl⟩;cases g:Region.ready .any ops listed with
  |nil=>rfl|cons x e=>
   rw[g]at c;have f:t%(x::e).length<(x::e).length:=Nat.mod_lt _ (by simp);simp at c;simp at f;omega
 |some i=>
  right;refine⟨i,t/(Region.ready .any ops listed).length,gJ c,?_⟩;dsimp only;rw[linearise_go_acc];rfl
theorem MU{c:Array Bool}{i j:Nat}(f:i<c.size):(c.setIfInBounds i true).getD j false=if j=i then true else c.getD j false:=by
 by_cases e:j=i;·subst e;rw[if_pos rfl];simp[f]
 ·rw[if_neg e];exact getD_set_ne false (fun d=>e d.symm)
theorem yo9{lou:Nat->Bool}(h:Ord ops.size ord):∀(p t:Nat)(d g:Array Bool)(o:List Nat)(a:Act)(w:World),d.size=ops.size->g.size=ops.size->(∀i,i<ops.size->g.getD (ord.idxOf i) false=d.getD i false)->(∀i∈o,d.getD i false=true)->σ=o++(tE ops p t d).filter lou->wpAnyIn F n P .any (nA ops ord σ) Q p g a w->wpOpsIn F n P ops Q (tE ops p t d) a w:=by
 intro p;induction p with
 |zero=>
  intro t d g o a w _ _ _ _ _ A;simpa[tE,Region.linearise.go,wpOpsIn]using A.2|succ p ih=>
  intro t d g o a w hs S r s K A;rcases zK1 (ops:=ops) (fuel:=p) (t:=t) (listed:=d)with⟨hr,e⟩|⟨i,T,X,e⟩
  ·rw[e];show Q .normal a w;refine A.1 ?_;cases b3:Region.ready .any (nA ops ord σ) g with
   |nil=>rfl|cons k d1=>
    have Z:k∈Region.ready .any (nA ops ord σ) g:=by rw[b3];simp
    obtain⟨k1,o',k2,k3⟩:=mem_ready.1 Z;have M:k<ops.size:=by have:=(lL.1 k2).1;rw[zc4,h.len]at this;exact this
    have Y:ord.getD k 0<ops.size:=by
     refine h.lt _ ?_;rw[zF,gI (by rw[h.len];exact M)];exact IQ _
    have L:=h.inv k M;have N:ops[ord.getD k 0]?=some ops[ord.getD k 0]:=by simp
    have y:=TB (σ:=σ) h N;rw[L,k2]at y;injection y with y;have q:=r _ Y;rw[L]at q;have:ord.getD k 0∈Region.ready .any ops d:=mem_ready.2 ⟨by
     have J:k<g.size:=by omega
     have a1:ord.getD k 0<d.size:=by omega
     rw[gd J]at k1;rw[k1]at q;rw[gd a1];exact q.symm,_,N,fun e l H=>by
     have c:=k3 {e with on:=ord.idxOf e.on} (by
      rw[y];simp only[FX];rw[List.mem_toArray];exact zI _ (jE.2 ⟨e,by simpa using l,rfl⟩)) H;dsimp only at c;rcases lY e.on ops.size with m|m;·rw[r _ m]at c;exact c
     ·have h3:=h.pos_ge m;rw[show g.getD (ord.idxOf e.on) false=false by
       have:g.size<=ord.idxOf e.on:=by omega
       simp[Array.getD,Nat.not_lt.2 this]]at c;cases c⟩;rw[hr]at this;cases this
  ·rw[e,wpOpsIn_cons];obtain⟨k1,c3,k2,k3⟩:=mem_ready.1 X;have z:i<ops.size:=(lL.1 k2).1;have I:i<d.size:=by omega
   have u:d.getD i false=false:=by simp[I]at k1⊢;exact k1
   have O:ord.idxOf i<g.size:=by rw[S];exact h.pos_lt z
   have V:∀j∈ahead σ i,d.getD j false=true:=fun j f=>by
    unfold ahead at f;split at f
    ·rename_i a3;have a2:lou i=true:=by
      have:i∈σ:=by simpa using a3
      rw[K]at this;rcases iK.1 this with c|c;·rw[s i c]at u;cases u
      ·exact(nG.1 c).2
     have l:σ=o++i::(tE ops p T (d.setIfInBounds i true)).filter lou:=by rw[K,e];simp[a2]
     rw[l]at f;have b1:∀x∈o,(x !=i)=true:=fun x hx=>by
      have:x≠i:=fun e=>by subst e;rw[s x hx]at u;cases u
      simpa using this
     rw[List.takeWhile_append_of_pos b1]at f;simp at f;exact s j f
    ·cases f
   have c1:ord.idxOf i∈Region.ready .any (nA ops ord σ) g:=mem_ready.2 ⟨by
     have q:=r i z;rw[u]at q;simp[O]at q⊢;exact q,_,TB h k2,fun e l H=>by
     simp only[FX,List.mem_toArray]at l;rcases iK.1 l with l|l
     ·obtain⟨v,W,rfl⟩:=jE.1 l;have c:=k3 v (by simpa using W) H;dsimp only;rcases lY v.on ops.size with m|m;·rw[r _ m];exact c
      ·rw[show d.getD v.on false=false by simp[Array.getD,show¬v.on<d.size by omega]]at c;cases c
     ·obtain⟨j,f,rfl⟩:=jE.1 l;have c:=V j f;dsimp only;rcases lY j ops.size with m|m;·rw[r _ m];exact c
      ·rw[show d.getD j false=false by simp[Array.getD,show¬j<d.size by omega]]at c;cases c⟩;refine wpOpIn_mono (fun U w' c2=>?_) (xm8 h z (A.2 _ c1));refine ih T (d.setIfInBounds i true) (g.setIfInBounds (ord.idxOf i) true) (if lou i then o++[i]else o) U w' (by simpa using hs) (by simpa using S) (fun j f=>?_) (fun j f=>?_) ?_ c2
   ·rw[MU O,MU I];by_cases E:j=i;·subst E;simp
    ·rw[if_neg E,if_neg (fun e=>E (h.inj f z e))];exact r j f
   ·rw[MU I];split;·rfl
    ·rename_i b2;split at f
     ·rcases iK.1 f with c|c;·exact s j c
      ·exact absurd (gU.1 c) b2
     ·exact s j f
   ·rw[K,e];cases J:lou i<;>simp[J]
end
def xB(c:List (List Nat)):Nat->List Nat->List (List Nat)
 |0,_=>[[]]|m+1,R=>if R.isEmpty then[[]]else R.flatMap fun x=>if R.all fun y=>!(c.getD x []).contains y then(xB c m (R.filter fun y=>y !=x)).map (x::·)else[]
theorem zz1{c:List (List Nat)}:∀m,[]∈xB c m []
 |0=>by simp[xB]|m+1=>by simp[xB]
theorem yL3{ops:Array Oper}{E:Nat->Bool}{d:List Nat}(a2:∀i,i<ops.size->E i=true->i∈d)(K:∀i∈d,i<ops.size/\E i=true)(b3:∀(k:Nat)o,ops[k]?=some o->∀i∈mR o,i<k):∀(p t:Nat)(c:Array Bool)(m:Nat),c.size=ops.size->Shut ops.toList (fun i=>c.getD i false)->tV ops.size (fun i=>c.getD i false)<=p->(d.filter fun i=>!c.getD i false).length<=m->(tE ops p t c).filter E∈xB (oK ops.toList []) m (d.filter fun i=>!c.getD i false):=by
 intro p;induction p with
 |zero=>
  intro t c m L _ z _;have H:d.filter (fun i=>!c.getD i false)=[]:=by
   rw[List.filter_eq_nil_iff];intro i q;cases g:c.getD i false with
   |true=>simp|false=>
    have:i∈(List.range ops.size).filter fun i=>!c.getD i false:=nG.2 ⟨jF.2 (K i q).1,by rw[g];rfl⟩;have:=List.length_pos_of_mem this;unfold tV at z;dsimp only at z;omega
  rw[H];exact zz1 m|succ p ih=>
  intro t c m L X z hm;rcases zK1 (ops:=ops) (fuel:=p) (t:=t) (listed:=c)with⟨hr,e⟩|⟨i,t',q,e⟩
  ·have hd:∀i,i<ops.size->c.getD i false=true:=by
    intro i;induction i using Nat.strongRecOn with|_ i c1=>
     intro q;cases g:c.getD i false with
     |true=>rfl|false=>
      have U:ops[i]?=some ops[i]:=by simp[q]
      have:i∈Region.ready .any ops c:=mem_ready.2 ⟨by
       have a3:i<c.size:=by omega
       simp[a3]at g⊢;exact g,ops[i],U,fun e s g=>by
       have b2:=b3 i _ U e.on (IT.2 ⟨e,by simpa using s,by rw[if_pos g]⟩);exact c1 e.on b2 (by omega)⟩;rw[hr]at this;cases this
   have H:d.filter (fun i=>!c.getD i false)=[]:=by
    rw[List.filter_eq_nil_iff];intro i q;rw[hd i (K i q).1];simp
   rw[e,H];exact zz1 m
  ·obtain⟨k1,o,k2,k3⟩:=mem_ready.1 q;have T:i<ops.size:=(lL.1 k2).1;have J:i<c.size:=by omega
   have a1:c.getD i false=false:=by simp[J]at k1⊢;exact k1
   have S:∀j∈mR o,c.getD j false=true:=fun j l=>by
    obtain⟨e,s,f⟩:=IT.1 l;split at f;·rename_i g;cases f;exact k3 e (by simpa using s) g
    ·cases f
   have W:(fun j=>(c.setIfInBounds i true).getD j false)=fun j=>if j=i then true else c.getD j false:=funext fun j=>MU J;have Y:Shut ops.toList (fun j=>(c.setIfInBounds i true).getD j false):=by
    rw[W];intro j M V l x r;dsimp only at l⊢;by_cases u:j=i
    ·subst u;have:M=o:=by
      have f:ops[j]?=some M:=by simpa using V
      rw[k2]at f;injection f with f;exact f.symm
     subst this;split;·rfl
     ·exact S x r
    ·rw[if_neg u]at l;split;·rfl
     ·exact X j M V l x r
   have Z:tV ops.size (fun j=>(c.setIfInBounds i true).getD j false)<=p:=by
    rw[W];have:=QI (l:=List.range ops.size) (p:=fun j=>!c.getD j false) (q:=fun j=>!(if j=i then true else c.getD j false)) (k:=i) (fun x r=>by
     by_cases e:x=i;·rw[if_pos e]at r;cases r
     ·rw[if_neg e]at r;exact r) (jF.2 T) (by rw[a1];rfl) (by rw[if_pos rfl];rfl);unfold tV at z⊢;dsimp only at z⊢;omega
   have I:(d.filter fun j=>!(c.setIfInBounds i true).getD j false)=(d.filter fun j=>!c.getD j false).filter fun y=>y !=i:=by
    rw[List.filter_filter];congr 1;funext j;rw[MU J];by_cases u:j=i;·subst u;simp
    ·simp[u]
   rw[e];cases A:E i with
   |false=>
    have O:(d.filter fun j=>!(c.setIfInBounds i true).getD j false)=d.filter fun j=>!c.getD j false:=by
     rw[I,List.filter_eq_self];intro j l;have:j≠i:=fun e=>by
      subst e;have:=(K j (nG.1 l).1).2;rw[A]at this;cases this
     simpa using this
    have:=ih t' (c.setIfInBounds i true) m (by simpa using L) Y Z (by rw[O];exact hm);rw[O]at this;simpa[A]using this|true=>
    have v:i∈d.filter fun j=>!c.getD j false:=nG.2 ⟨a2 i T A,by simp[a1]⟩;have c2:=List.length_pos_of_mem v;cases m with
    |zero=>omega|succ m=>
     have b1:(d.filter fun j=>!(c.setIfInBounds i true).getD j false).length<=m:=by
      rw[I];have:=QI (l:=d.filter fun j=>!c.getD j false) (p:=fun _=>true) (q:=fun y=>y !=i) (k:=i) (fun _ _=>rfl) v rfl (by simp);rw[List.filter_eq_self.2 (fun _ _=>rfl)]at this;omega
     have f:=ih t' (c.setIfInBounds i true) m (by simpa using L) Y Z b1;rw[I]at f;simp only[xB];rw[if_neg (by intro s;rw[List.isEmpty_iff]at s;rw[s]at v;cases v)];refine List.mem_flatMap.2 ⟨i,v,?_⟩;rw[if_pos]
     ·simp only[IL,A,aM];exact jE.2 ⟨_,f,rfl⟩
     ·rw[fK];intro y hy;cases g:(List.getD (oK ops.toList []) i []).contains y with
      |false=>rfl|true=>
       have:=VT X ops.toList [] [] rfl rfl (fun j o _ l=>by simp at l) i o (by simpa using k2) S y (by simpa using g);have N:=(nG.1 hy).2;rw[this]at N;cases N
theorem xl9{P:Program}{F:Fence}{n id:Nat}{ops:Array Oper}{Q:Exit->Act->World->Prop}{a:Act}{w:World}(l:P.follows .mixedOrders=true){lou:Nat->Bool}{all:List Nat}(f:∀i,i<ops.size->lou i=true->i∈all)(g:∀i∈all,i<ops.size/\lou i=true)(q:∀(k:Nat)o,ops[k]?=some o->∀i∈mR o,i<k)(p:∀σ∈xB (oK ops.toList []) all.length all,∃ord,Ord ops.size ord/\wpAnyIn F n P .any (nA ops ord σ) Q ops.size (Array.replicate ops.size false) a {w with drawn:=w.drawn+1}):(Code.region id ops true).wpIn F n P Q a w:=wpIn_region_draw fun t=>by
 simp only[Region.schedule,l,Bool.true_or,aM];have d:(all.filter fun i=>!(Array.replicate ops.size false).getD i false)=all:=by rw[List.filter_eq_self];intro i _;rw[getD_replicate_false];rfl
 have c:=yL3 f g q ops.size t (Array.replicate ops.size false) all.length (by simp) (fun j o _ e=>by simp only[getD_replicate_false]at e;cases e) (by unfold tV;exact oJ (zG _ _) (by simp)) (by rw[d];exact bP _);rw[d]at c;obtain⟨ord,m,r⟩:=p _ c;exact yo9 (lou:=lou) m ops.size t _ _ [] a _ (by simp) (by simp) (fun i _=>by rw[getD_replicate_false,getD_replicate_false]) (by simp) (by simp) r
end Go.Proofs.YtpefhfiehfkocaaGreatDoor
