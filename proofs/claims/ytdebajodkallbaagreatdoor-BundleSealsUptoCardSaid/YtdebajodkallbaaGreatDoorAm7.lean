/- Control -/
import Derived.Test.YtdebajodkallbaaGreatDoorAm6
import Derived.LoopNIn
namespace Go.Proofs.YtdebajodkallbaaGreatDoor
open Go.RowKit
inductive MC where|skip|reg(is:List MI)|rgd(is:List MI)|rge(is:List ME)|seq(a b:MC)|ite(c:At)(a b:MC)|blk(id:Nat)(a:MC)|loop(dead:List Nat)(a:MC)|exit(id:Nat)|ret|rgf(g:At)(ps:List Nat)(a b:MC)|rgn(g:At)(dst:Option Nat)(kept:Bool)(is:List MI)|both(a b:MC)|bad deriving Inhabited
def MC.det:MC->Bool
 |.seq a b=>a.det&&b.det|.ite _ a b=>a.det&&b.det|.blk _ a=>a.det|.loop _ a=>a.det|.rgf _ _ a b=>a.det&&b.det|.rgn _ _ _ _=>false|.both _ _=>false|_=>true
abbrev aY:=MX->List (Nat×AV)->List (Nat×AV)->aA->Prop
def bM(b:List Nat):List (Nat×AV)->List (Nat×AV)
 |[]=>[]|(k,v)::r=>(k,if b.contains k then .junk else v)::bM b r
mutual def low(n:Nat):AV->Bool
 |.own l _ _=>decide (l<n)|.win l _ _ _=>decide (l<n)|.ptr l _=>decide (l<n)|.eptr l _ _ _=>decide (l<n)|.map l=>decide (l<n)|.yld l=>decide (l<n)|.agg b=>bN n b|.tup b=>bN n b|.fn _ b=>bN n b|.mth _ v=>low n v|.iface _ v=>low n v|_=>true def bN(n:Nat):List AV->Bool
 |[]=>true|a::c=>low n a&&bN n c end
def bW(n:Nat):List (Nat×AV)->Bool
 |[]=>true|(_,v)::r=>low n v&&bW n r
def uC(n:Nat):List (List AV)->Bool
 |[]=>true|r::b=>bN n r&&uC n b
theorem zA0{n:Nat}:∀{b c:List AV},bN n b=true->bN n c=true->bN n (b++c)=true
 |[],_,_,h=>h|a::b,c,h,k=>by
  simp only[bN,bS]at h;simp only[tL,bN,bS];exact⟨h.1,zA0 h.2 k⟩
theorem zA1{n:Nat}:∀{b:List (List AV)},uC n b=true->bN n b.flatten=true
 |[],_=>rfl|r::c,h=>by
  simp only[uC,bS]at h;exact zA0 h.1 (zA1 h.2)
def gD(n:Nat):Blk->Bool
 |.cellsT _ c=>bN n c|.arrX true _ _ _ b _=>uC n b|.mit (some m) _ _ _=>decide (m<n)|_=>true
def cV(n:Nat):aA->Bool
 |[]=>true|b::r=>gD n b&&cV n r
def trunc(n:Nat)(b:List (Nat×AV))(h:aA):aA:=if bW n b&&cV n (h.take n)then h.take n else h
def sO(b:List Nat)(n:Nat)(c:List (Nat×AV))(h:aA):aA:=if b.contains 999999 then h else trunc n c h
def pR(k:aY)(Q:aY):aY
 |.normal,b,c,h=>k .normal b c h|x,b,c,h=>Q x b c h
def qN(id:Nat)(Q:aY):aY
 |.exit j,b,c,h=>if j=id then Q .normal b c h else Q (.exit j) b c h|x,b,c,h=>Q x b c h
def iK(T:aY->List (Nat×AV)->List (Nat×AV)->aA->Prop)(b:List Nat)(n:Nat)(Q:aY):Nat->List (Nat×AV)->List (Nat×AV)->aA->Prop
 |0,_,_,_=>False|N+1,_,c,h=>T (pR (fun _ d c h=>iK T b n Q N d c h) Q) [] (bM b c) (sO b n (bM b c) h)
def oK:List Nat->List AV->List (Nat×AV)->List (Nat×AV)
 |p::c,v::d,b=>oK c d (upd p v b)|_,_,b=>b
def pQ(f g:aY->List (Nat×AV)->List (Nat×AV)->aA->Prop)(e:List Nat)(i:List (Nat×AV))(k:Nat)(b:List AV)(h:aA)(K:MX->aA->Prop):Prop:=h[k]?=some (.lp false .normal)/\b.length=e.length/\f (fun x _ j c=>match x with
 |.normal=>c[k]?=some (.lp false .normal)/\g (fun x _ _ d=>d[k]?=some (.lp true .normal)/\K x (d.set k (.lp false x))) [] j (c.set k (.lp true .normal))|_=>False) [] (oK e b i) h
def rgM(F:RdF)(T:List AV->aA->(MX->aA->Prop)->Prop)(k:Nat)(Q:MX->aA->Prop):Nat->Nat->aA->Prop
 |0,_,_=>False|N+1,j,h=>match F j h with
  |none=>False|some (none,b)=>b[k]?=some (.lp false .normal)/\Q .normal (b.set k .dead)|some (some d,b)=>T d b fun x c=>match x with
   |.normal=>rgM F T k Q N (j+1) c|x=>Q x (c.set k .dead)
def wpM(G:Gam):MC->aY->List (Nat×AV)->List (Nat×AV)->aA->Prop
 |.skip,Q,e,d,h=>Q .normal e d h|.reg m,Q,_,d,h=>match run G false m (.ok [] d h)with
  |.ok i j k=>Q .normal i j k|.bad=>False
 |.rgd m,Q,_,d,h=>match run G true m (.ok [] d h)with
  |.ok i j k=>Q .normal i j k|.bad=>False
 |.rge m,Q,_,d,h=>kJ G h m (fun i j k=>Q .normal i j k) [] [] d h|.seq a b,Q,e,d,h=>wpM G a (pR (fun _ e d h=>wpM G b Q e d h) Q) e d h|.ite c a b,Q,e,d,h=>match iD (bV e d) c with
  |some (.bool t)=>if t then wpM G a Q e d h else wpM G b Q e d h|_=>False
 |.blk id a,Q,e,d,h=>wpM G a (qN id Q) e d h|.loop p a,Q,e,d,h=>∃N,iK (wpM G a) p h.length Q N e d h|.exit id,Q,e,d,h=>Q (.exit id) e d h|.ret,Q,e,d,h=>Q .ret e d h|.rgf g u a b,Q,e,d,h=>match iD (bV e d) g with
  |some (.fn f o)=>(match G f with
   |some (.iter F)=>∃N,rgM (F o (h++[.lp false .normal])) (pQ (wpM G a) (wpM G b) u d h.length) h.length (fun x h=>Q x e d h) N 0 (h++[.lp false .normal])|_=>False)|_=>False
 |.rgn g q s m,Q,_,d,h=>match iD (bV [] d) g with
  |some (.ptr l 0)=>(match mV h l with
   |some n=>∀r∈n,match run G false m (iP q s [] d (some r))with
    |.ok i j k=>Q .normal i j k|.bad=>False
   |none=>False)|_=>False
 |.both a b,Q,e,d,h=>wpM G a Q e d h/\wpM G b Q e d h|.bad,_,_,_,_=>False
def UK(P:Program)(c:Gv)(d:List Nat)(n:Nat)(e:List Nat)(b:Array Oper):MC:=if PG b.toList (aX P c d n e b)then .rgd (aX P c d n e b)else if AX (PJ b.toList (aX P c d n e b)) (QH b.toList (aX P c d n e b)) b.toList (aX P c d n e b)then .rge (yA (PJ b.toList (aX P c d n e b)) (QH b.toList (aX P c d n e b)) 0 (aX P c d n e b))else .bad
def XD(c:List Oper)(d:List Nat):Nat->List Nat->List Nat
 |0,b=>b|m+1,b=>match(List.range c.length).find? fun i=>!b.contains i&&(((c[i]?).map nI).getD []).all (fun j=>b.contains j)&&(ahead d i).all fun j=>b.contains j with
  |some i=>XD c d m (b++[i])|none=>b
def XE(c:List Oper)(d:List MI)(e:List Nat):Nat->List Nat->List Nat
 |0,b=>b|m+1,b=>let f:=(List.range c.length).filter fun i=>!b.contains i&&(((c[i]?).map nI).getD []).all (fun j=>b.contains j)&&(ahead e i).all fun j=>b.contains j
  match f.find? (fun i=>!MI.loudAt d i)with
  |some i=>XE c d e m (b++[i])|none=>match f with
   |i::_=>XE c d e m (b++[i])|[]=>b
def IE(P:Program)(d:Gv)(e:List Nat)(n:Nat)(f:List Nat)(b:Array Oper)(g c:List Nat):MC:=if VM b.size c then UK P d e n f (nO b c g)else .bad
def MC.isBad:MC->Bool
 |.bad=>true|_=>false
def zi3(P:Program)(d:Gv)(e:List Nat)(n:Nat)(f:List Nat)(b:Array Oper)(c:List Nat):MC:=if(IE P d e n f b c (XD b.toList c b.size [])).isBad then IE P d e n f b c (XE b.toList (aX P d e n f b) c b.size [])else IE P d e n f b c (XD b.toList c b.size [])
def QL(b:List MI):List Nat:=(List.range b.length).filter (MI.loudAt b)
def OJ:List MC->MC
 |[]=>.bad|[c]=>c|c::d::b=>.both c (OJ (d::b))
def xt1(b:List Oper):Bool:=(List.range b.length).all fun k=>(((b[k]?).map nI).getD []).all fun i=>decide (i<k)
def TF(P:Program)(c:Gv)(d:List Nat)(n:Nat)(e:List Nat)(b:Array Oper):MC:=if xt1 b.toList&&decide ((QL (aX P c d n e b)).length<=9)then OJ ((yC (pC b.toList []) (QL (aX P c d n e b)).length (QL (aX P c d n e b))).map (zi3 P c d n e b))else .bad
def mapNext:List Oper->Option (Operand×Oper)
 |o::_=>match o.op,o.guard with
  |.next b false,none=>some (b,o)|_,_=>none
 |[]=>none
def gK(k:Bool)(P:Program)(e:Gv)(f:List Nat)(n:Nat)(i:List Nat):Code->List (List Nat)->MC×List (List Nat)
 |.skip,d=>(.skip,d)|.region _ j l,d=>match mapNext j.toList with
  |some (r,o)=>if l then(.bad,d)else match tW e r with
   |some g=>if(o.dst.map fun t=>decide (t<n)).getD true then(.rgn g o.dst ((o.dst.map fun t=>f.contains t).getD false) (aX P e f n i j).tail,d)else(.bad,d)|none=>(.bad,d)
  |none=>if l then(if PG j.toList (aX P e f n i j)then(.rgd (aX P e f n i j),d)else if AX (PJ j.toList (aX P e f n i j)) (QH j.toList (aX P e f n i j)) j.toList (aX P e f n i j)then(.rge (yA (PJ j.toList (aX P e f n i j)) (QH j.toList (aX P e f n i j)) 0 (aX P e f n i j)),d)else(TF P e f n i j,d))else(.reg (aX P e f n i j),d)
 |.seq a b,d=>let(x,d):=gK k P e f n i a d;let(y,d):=gK k P e f n i b d;(.seq x y,d)|.cond c a b,d=>match tW e c with
  |some m=>let(x,d):=gK k P e f n i a d;let(y,d):=gK k P e f n i b d;(.ite m x y,d)|none=>(.bad,d)
 |.block id a,d=>let(x,d):=gK k P e f n i a d;(.blk id x,d)|.loop a,d=>let(x,p):=gK k P e f n i a d.tail;(.loop (d.headD []) x,p)|.exit id,d=>(.exit id,d)|.ret,d=>(.ret,d)|.label _,d=>(.skip,d)|.scope a,d=>gK k P e f n i a d|.rangeFunc g s a b,d=>if k then(match tW e g with
  |some q=>let(x,d):=gK false P e f n i a d;let(y,d):=gK false P e f n i b d;(if x.det&&y.det then .rgf q s.toList x y else .bad,d)|none=>(.bad,d))else(.bad,d)|_,d=>(.bad,d)
def nH(P:Program)(b:Gv)(c:List Nat)(n:Nat)(d:List Nat):Code->List (List Nat)->MC×List (List Nat):=gK true P b c n d
section
variable{P:Program}{B:Base}{C D:Cx}{h:aA}{w w':World}{G:Gam}{a:Act}
def Cx.cut(C:Cx)(n:Nat):Cx:=⟨C.im,fun l=>if l<n then C.bl l else none,fun l v=>if l<n then C.ar l v else none⟩
theorem VT{d:Cx}{n:Nat}(h:d.Le C)(e:∀l,n<=l->d.bl l=none/\∀v,d.ar l v=none):d.Le (C.cut n):=by
 refine⟨h.im,fun l b x=>?_,fun l v r x=>?_⟩
 ·have:l<n:=by
   rcases mA l n with c|c;·exact c
   ·rw[(e l c).1]at x;cases x
  simp only[Cx.cut,if_pos this];exact h.bl l b x
 ·have:l<n:=by
   rcases mA l n with c|c;·exact c
   ·rw[(e l c).2 v]at x;cases x
  simp only[Cx.cut,if_pos this];exact h.ar l v r x
mutual theorem BJ{n:Nat}:∀{v:AV}{u:Value},low n v=true->Rel C v u->Rel (C.cut n) v u
 |.own l L k,u,e,d=>by
  simp only[low,fU]at e;generalize O:k=Q at d;cases d with
  |ownnil _ _ h=>exact .ownnil _ _ (by simp only[Cx.cut,if_pos e];exact h)|own _ _ _ r h I=>exact .own _ _ _ r (by simp only[Cx.cut,if_pos e];exact h) I
 |.win l L S k,u,e,d=>by
  simp only[low,fU]at e;cases d with|win _ _ _ _ r h I=>exact .win _ _ _ _ r (by simp only[Cx.cut,if_pos e];exact h) I
 |.ptr l E,u,e,d=>by
  simp only[low,fU]at e;cases d with|ptr _ _ b h=>exact .ptr _ _ b (by simp only[Cx.cut,if_pos e];exact h)
 |.eptr l L i E,u,e,d=>by
  simp only[low,fU]at e;cases d with|eptr _ _ _ _ r h=>exact .eptr _ _ _ _ r (by simp only[Cx.cut,if_pos e];exact h)
 |.map l,u,e,d=>by
  simp only[low,fU]at e;cases d with|map _ b h=>exact .map _ b (by simp only[Cx.cut,if_pos e];exact h)
 |.agg K,u,e,d=>by
  simp only[low]at e;cases d with|agg _ j y h=>exact .agg _ j y (fun i c v p q=>(EY (us:=j.toList) e ⟨by simpa using y,fun i c v p q=>h i c v p (by simpa using q)⟩).2 i c v p (by simpa using q))
 |.tup K,u,e,d=>by
  simp only[low]at e;cases d with|tup _ j y h=>exact .tup _ j y (fun i c v p q=>(EY (us:=j.toList) e ⟨by simpa using y,fun i c v p q=>h i c v p (by simpa using q)⟩).2 i c v p (by simpa using q))
 |.fn f K,u,e,d=>by
  simp only[low]at e;cases d with|fn _ _ j y h=>exact .fn _ _ j y (fun i c v p q=>(EY (us:=j.toList) e ⟨by simpa using y,fun i c v p q=>h i c v p (by simpa using q)⟩).2 i c v p (by simpa using q))
 |.iface t v,u,e,d=>by
  simp only[low]at e;cases d with|iface _ _ x h=>exact .iface _ _ x (BJ e h)
 |.mth f v,u,e,d=>by
  simp only[low]at e;cases d with|mth _ _ x h=>exact .mth _ _ x (BJ e h)
 |.bool b,u,_,d=>by rw[jJ d];exact .bool b|.int k m,u,_,d=>by rw[fF d];exact .int k m|.str s,u,_,d=>by rw[fM d];exact .str s|.sl M,u,_,d=>by cases d with
  |slnil=>exact .slnil|slz a F=>exact .slz a F|sl _ b o F J us A z H h4=>exact .sl _ b o F J us A z H h4
 |.tsl M,u,_,d=>by cases d with
  |tslnil=>exact .tslnil|tslz a=>exact .tslz a|tsl _ b o J us z H h4=>exact .tsl _ b o J us z H h4
 |.nils,u,_,d=>by cases d;exact .nils|.fptr T E,u,_,d=>by cases d with|fptr _ _ b o us A z=>exact .fptr _ _ b o us A z
 |.gptr g E,u,_,d=>by cases d;exact .gptr g E|.nilp,u,_,d=>by cases d;exact .nilp|.nilm,u,_,d=>by cases d;exact .nilm|.nilf,u,_,d=>by cases d;exact .nilf|.nili,u,_,d=>by cases d;exact .nili|.yld l,u,e,d=>by
  simp only[low,fU]at e;cases d with|yld _ b h=>exact .yld _ b (by simp only[Cx.cut,if_pos e];exact h)
 |.junk,u,_,d=>.junk u theorem EY{n:Nat}:∀{j:List AV}{us:List Value},bN n j=true->RelL C j us->RelL (C.cut n) j us
 |[],us,_,h=>by rw[h.inv_nil];exact .nil|a::N,us,e,h=>by
  obtain⟨u,U,rfl,A,z⟩:=h.inv_cons;simp only[bN,bS]at e;exact .cons (BJ e.1 A) (EY e.2 z)end
theorem zz7{n:Nat}:∀{c:List (Nat×AV)}{t:Nat}{x:AV},bW n c=true->lkp t c=some x->low n x=true
 |[],_,_,_,h=>by simp[lkp]at h|(k,v)::r,t,x,b,h=>by
  simp only[bW,bS]at b;simp only[lkp]at h;split at h;·injection h with h;subst h;exact b.1
  ·exact zz7 b.2 h
theorem EW{n:Nat}:∀{h:aA}{l:Nat}{b:Blk},cV n h=true->h[l]?=some b->gD n b=true
 |[],_,_,_,h=>by simp at h|x::r,l,b,c,h=>by
  simp only[cV,bS]at c;cases l with
  |zero=>simp at h;subst h;exact c.1|succ l=>exact EW c.2 (by simpa using h)
theorem zR5(f:Inv B C h w){n:Nat}(V:∀l x,B.rc l=some x->l<n)(N:∀l,n<=l->B.cx.bl l=none/\∀v,B.cx.ar l v=none)(O:cV n (h.take n)=true):Inv B (C.cut n) (h.take n) w:=by
 have get:∀(l:Nat)c,(h.take n)[l]?=some c->l<n/\h[l]?=some c:=fun l c j=>by
  rw[fZ]at j;split at j;·exact⟨‹_›,j⟩
  ·cases j
 have A:∀(l:Nat)c,l<n->bJ (C.cut n) l c=bJ C l c:=fun l c d=>by cases c<;>simp[bJ,Cx.cut,d]
 refine⟨f.im,f.one,fun l c j=>?_,fun l y c p b g i o h4=>?_,fun l T=>?_,fun l z tg H I F wr j v W=>?_,f.hB,f.low,f.gl,f.tb,fun l x E=>by have:=f.rcl l x E;have:=V l x E;simp;omega,VT f.cle N⟩
 ·obtain⟨d,t⟩:=get l c j;have k:=f.ok l c t;have u:=EW O j;cases c with
  |cellsT tg vs=>
   obtain⟨b,q,e,g,i,o,h4,h5,s⟩:=k;exact⟨b,q,e,by simp only[Cx.cut,if_pos d];exact g,i,o,h4,EY u h5,s⟩|arrX z tg H I F wr=>
   rcases k with⟨k1,k2⟩|⟨r,q,k1,k2,k3,k4,k5,k6,k7,k8,k9⟩;·exact .inl ⟨by simp only[Cx.cut,if_pos d];exact k1,k2⟩
   ·refine .inr ⟨r,q,by simp only[Cx.cut,if_pos d];exact k1,k2,k3,k4,k5,k6,k7,?_,k9⟩;cases z with
    |false=>exact k8|true=>exact EY (zA1 u) k8
  |map es=>
   obtain⟨b,Y,K,g,i⟩:=k;exact⟨b,Y,K,by simp only[Cx.cut,if_pos d];exact g,i⟩|iter a3 a2=>
   obtain⟨b,g,i⟩:=k;exact⟨b,by simp only[Cx.cut,if_pos d];exact g,i⟩|lp Z x=>
   obtain⟨b,r,g,i⟩:=k;exact⟨b,r,by simp only[Cx.cut,if_pos d];exact g,i⟩|mit m nn seen a1=>
   obtain⟨b,X,g,i,o,h4⟩:=k;refine⟨b,X,by simp only[Cx.cut,if_pos d];exact g,i,o,?_⟩;cases m with
   |none=>exact h4|some m=>
    obtain⟨J,h5,s⟩:=h4;have U:m<n:=by simpa[gD]using u
    exact⟨J,by simp only[Cx.cut,if_pos U];exact h5,s⟩
  |dead=>trivial
 ·obtain⟨Q,L⟩:=get l c g;obtain⟨S,M⟩:=get y p i;rw[A l c Q]at o;rw[A y p S]at h4;exact f.inj l y c p b L M o h4
 ·by_cases d:l<n
  ·have:h.length<=l:=by simp at T;omega
   have:=f.fr l this;exact⟨by simp only[Cx.cut,if_pos d];exact this.1,fun v=>by simp only[Cx.cut,if_pos d];exact this.2 v⟩
  ·exact⟨by simp only[Cx.cut,if_neg d],fun v=>by simp only[Cx.cut,if_neg d]⟩
 ·obtain⟨d,t⟩:=get l _ j;simp only[Cx.cut,if_pos d];exact f.fv l z tg H I F wr t v W
theorem WB(b:List Nat)(t:Nat):∀(c:List (Nat×AV)),lkp t (bM b c)=(lkp t c).map fun v=>if b.contains t then .junk else v
 |[]=>rfl|(k,v)::r=>by
  simp only[bM,lkp];by_cases h:t=k;·subst h;simp
  ·simp only[if_neg h];exact WB b t r
theorem StOK.clear{g:List Nat}{n:Nat}{c d:List (Nat×AV)}(b:StOK g n B C c d h a w):StOK g n B C [] d h a w:=⟨b.inv,fun t x e=>b.rel t x (by
 have f:lkp t d=some x:=e;have i:=b.keys t x f;have:lkp t c=none:=by cases j:lkp t c with
  |none=>rfl|some y=>have:=b.sep t y j;rw[i]at this;cases this
 simp only[bV,this];exact f),fun t v e=>by simp[lkp]at e,b.keys,b.size⟩
theorem StOK.head{p:List Nat}{n m:Nat}{r e:List (Nat×AV)}{f:Cx}(q:StOK p n B C r e h a w)(A:∀l x,B.rc l=some x->l<m)(s:∀l,m<=l->B.cx.bl l=none/\∀v,B.cx.ar l v=none)(j:f.Le C)(z:∀l,m<=l->f.bl l=none/\∀v,f.ar l v=none)(d:List Nat):∃D,f.Le D/\StOK p n B D [] (bM d e) (sO d m (bM d e) h) a w:=by
 have g:=q.clear;have c:StOK p n B C [] (bM d e) h a w:=⟨g.inv,fun t x b=>by
  have k:lkp t (bM d e)=some x:=b;rw[WB]at k;simp only[dJ]at k;obtain⟨y,o,rfl⟩:=k;obtain⟨u,k1,k2⟩:=g.rel t y o;refine⟨u,k1,?_⟩;split;·exact .junk u
  ·exact k2,fun t v b=>by simp[lkp]at b,fun t v b=>by
  rw[WB]at b;simp only[dJ]at b;obtain⟨y,o,_⟩:=b;exact q.keys t y o,g.size⟩;unfold sO;split;·exact⟨C,j,c⟩
 unfold trunc;split
 ·rename_i i;simp only[bS]at i;refine⟨C.cut m,VT j z,⟨zR5 c.inv A s i.2,fun t x b=>?_,c.sep,c.keys,c.size⟩⟩;obtain⟨u,k1,k2⟩:=c.rel t x b;exact⟨u,k1,BJ (zz7 i.1 b) k2⟩
 ·exact⟨C,j,c⟩
end
section
variable{G:Gam}
def OneOut(T:aY->List (Nat×AV)->List (Nat×AV)->aA->Prop):Prop:=∀(Q:aY)(c e:List (Nat×AV))(h:aA),T Q c e h->∃x d f g,Q x d f g/\∀b:aY,b x d f g->T b c e h
def LS(T:aY->List (Nat×AV)->List (Nat×AV)->aA->Prop):Prop:=∀(Q d:aY)(b c:List (Nat×AV))(h:aA),T Q b c h->T d b c h->T (fun x e f h=>Q x e f h/\d x e f h) b c h
theorem OneOut.mono{T:aY->List (Nat×AV)->List (Nat×AV)->aA->Prop}(f:OneOut T){Q Q':aY}{b c:List (Nat×AV)}{h:aA}(e:T Q b c h)(d:∀x b c h,Q x b c h->Q' x b c h):T Q' b c h:=by
 obtain⟨x,g,i,j,k1,k2⟩:=f Q b c h e;exact k2 Q' (d _ _ _ _ k1)
theorem YD{c d:aY->List (Nat×AV)->List (Nat×AV)->aA->Prop}(o:OneOut c)(p:OneOut d){j:List Nat}{g:List (Nat×AV)}{k:Nat}{f:List AV}{h:aA}{K:MX->aA->Prop}(q:pQ c d j g k f h K):∃x e,K x e/\e[k]?=some (.lp false x)/\∀b:MX->aA->Prop,b x e->pQ c d j g k f h b:=by
 obtain⟨r,s,t⟩:=q;obtain⟨u,v,z,E,k1,k2⟩:=o _ _ _ _ t;cases u with
 |normal=>
  obtain⟨k3,k4⟩:=k1;obtain⟨l,y,A,m,⟨k5,k6⟩,k7⟩:=p _ _ _ _ k4;refine⟨l,m.set k (.lp false l),k6,?_,fun b n=>⟨r,s,k2 _ ⟨k3,k7 _ ⟨k5,n⟩⟩⟩⟩;rw[jI (aV.1 k5).1]|exit i=>exact k1.elim|ret=>exact k1.elim
theorem zL5{b c:aY->List (Nat×AV)->List (Nat×AV)->aA->Prop}(o:OneOut b)(q:OneOut c)(p:LS b)(r:LS c){m:List Nat}{l:List (Nat×AV)}{k:Nat}{j:List AV}{h:aA}{K n:MX->aA->Prop}(t:pQ b c m l k j h K)(u:pQ b c m l k j h n):pQ b c m l k j h (fun x h=>K x h/\n x h):=by
 obtain⟨v,y,z⟩:=t;obtain⟨_,_,A⟩:=u;refine⟨v,y,o.mono (p _ _ _ _ _ z A) fun x e f E d=>?_⟩;obtain⟨g,s⟩:=d;cases x with
 |normal=>refine⟨g.1,q.mono (r _ _ _ _ _ g.2 s.2) fun x e f F d=>⟨d.1.1,d.1.2,d.2.2⟩⟩|exit i=>exact g.elim|ret=>exact g.elim
theorem zJ8{F:RdF}{T:List AV->aA->(MX->aA->Prop)->Prop}{k:Nat}(g:∀{e:List AV}{h:aA}{K:MX->aA->Prop},T e h K->∃x d,K x d/\d[k]?=some (.lp false x)/\∀f:MX->aA->Prop,f x d->T e h f){Q:MX->aA->Prop}:∀(N j:Nat)(h:aA),rgM F T k Q N j h->∃x d,Q x d/\∀c:MX->aA->Prop,c x d->rgM F T k c N j h
 |0,_,_,b=>b.elim|N+1,j,h,b=>by
  simp only[rgM]at b⊢;split at b;·exact b.elim
  ·rename_i l o;exact⟨_,_,b.2,fun c k=>⟨b.1,k⟩⟩
  ·rename_i e l o;obtain⟨x,m,k1,k2,k3⟩:=g b;cases x with
   |normal=>
    obtain⟨y,n,k4,k5⟩:=zJ8 (F:=F) (T:=T) (k:=k) (Q:=Q) g N (j+1) m k1;exact⟨y,n,k4,fun c k=>k3 _ (k5 c k)⟩|exit i=>exact⟨_,_,k1,fun c k=>k3 _ k⟩|ret=>exact⟨_,_,k1,fun c k=>k3 _ k⟩
theorem zJ9{F:RdF}{T:List AV->aA->(MX->aA->Prop)->Prop}{k:Nat}(n:∀{c:List AV}{h:aA}{K:MX->aA->Prop},T c h K->∃x g,K x g/\g[k]?=some (.lp false x)/\∀d:MX->aA->Prop,d x g->T c h d)(m:∀{c:List AV}{h:aA}{K d:MX->aA->Prop},T c h K->T c h d->T c h fun x h=>K x h/\d x h){Q Q':MX->aA->Prop}:∀(N f j:Nat)(h:aA),rgM F T k Q N j h->rgM F T k Q' f j h->rgM F T k (fun x h=>Q x h/\Q' x h) N j h
 |0,_,_,_,b,_=>b.elim|_+1,0,_,_,_,b=>b.elim|N+1,f+1,j,h,b,e=>by
  simp only[rgM]at b e⊢;cases l:F j h with
  |none=>simp only[l]at b|some r=>
   obtain⟨o,q⟩:=r;cases o with
   |none=>
    simp only[l]at b e⊢;exact⟨b.1,b.2,e.2⟩|some c=>
    simp only[l]at b e⊢;obtain⟨x,p,k1,_,k3⟩:=n (m b e);refine k3 _ ?_;cases x with
    |normal=>exact zJ9 (F:=F) (T:=T) (k:=k) (Q:=Q) (Q':=Q') n m N f (j+1) p k1.1 k1.2|exit i=>exact k1|ret=>exact k1
theorem KY{y:aA}:∀(d:List ME){Q:List (Nat×AV)->List (Nat×AV)->aA->Prop}{o:jH}{i l:List (Nat×AV)}{h:aA},kJ G y d Q o i l h->∃u x p,Q u x p/\∀c:List (Nat×AV)->List (Nat×AV)->aA->Prop,c u x p->kJ G y d c o i l h
 |[],Q,o,i,l,h,b=>⟨i,l,h,b.2,fun _ k=>⟨b.1,k⟩⟩|(e,E,m)::d,Q,o,i,l,h,b=>by
  simp only[kJ]at b⊢;obtain⟨r,b⟩:=b;split at b;·exact b.elim
  ·rename_i v p A;obtain⟨s,f⟩:=b;cases z:m.dst with
   |none=>
    simp only[z]at f⊢;obtain⟨g,j,n,k1,k2⟩:=KY d f;exact⟨g,j,n,k1,fun c k=>⟨r,s,k2 c k⟩⟩|some t=>
    simp only[z]at f⊢;split at f
    ·rename_i q;obtain⟨g,j,n,k1,k2⟩:=KY d f;exact⟨g,j,n,k1,fun c k=>⟨r,s,by rw[if_pos q];exact k2 c k⟩⟩
    ·rename_i q;obtain⟨g,j,n,k1,k2⟩:=KY d f;exact⟨g,j,n,k1,fun c k=>⟨r,s,by rw[if_neg q];exact k2 c k⟩⟩
theorem RR{o:aA}:∀(d:List ME){Q n:List (Nat×AV)->List (Nat×AV)->aA->Prop}{l:jH}{j k:List (Nat×AV)}{h:aA},kJ G o d Q l j k h->kJ G o d n l j k h->kJ G o d (fun e f h=>Q e f h/\n e f h) l j k h
 |[],Q,n,l,j,k,h,b,c=>⟨b.1,b.2,c.2⟩|(e,x,m)::d,Q,n,l,j,k,h,b,c=>by
  simp only[kJ]at b c⊢;obtain⟨s,b⟩:=b;replace c:=c.2;split at b;·exact b.elim
  ·rename_i v u r;simp only[r]at c;refine⟨s,b.1,?_⟩;obtain⟨_,i⟩:=b;obtain⟨_,g⟩:=c;cases q:m.dst with
   |none=>simp only[q]at i g⊢;exact RR d i g|some t=>
    simp only[q]at i g⊢;split at i;·rename_i p;rw[if_pos p]at g⊢;exact RR d i g
    ·rename_i p;rw[if_neg p]at g⊢;exact RR d i g
abbrev nD:=MX×List (Nat×AV)×List (Nat×AV)×aA
def FinP{b:Type}(S:(b->Prop)->Prop):Prop:=∀Q:b->Prop,S Q->∃L:List b,(∀o∈L,Q o)/\∀c:b->Prop,(∀o∈L,c o)->S c
def Un(Q:nD->Prop):aY:=fun x e f h=>Q (x,e,f,h)
theorem FinP.mono{b:Type}{S:(b->Prop)->Prop}(i:FinP S){Q Q':b->Prop}(g:S Q)(e:∀o,Q o->Q' o):S Q':=by
 obtain⟨L,c,d⟩:=i Q g;exact d Q' fun o f=>e o (c o f)
theorem fin_at{c:Type}(o:c):FinP fun Q=>Q o:=fun Q b=>⟨[o],by simpa using b,fun d h=>h o (by simp)⟩
theorem lD{c:Type}:FinP fun _:c->Prop=>False:=fun _ b=>b.elim
theorem JK{g:Type}{p:Prop}{S:(g->Prop)->Prop}(f:FinP S):FinP fun Q=>p/\S Q:=fun Q b=>by
 obtain⟨L,d,e⟩:=f Q b.2;exact⟨L,d,fun c h=>⟨b.1,e c h⟩⟩
theorem UR{s j:Type}{K:j->(s->Prop)->Prop}(g:∀b,FinP (K b)):∀l:List j,FinP fun Q=>∀b∈l,K b Q
 |[],Q,_=>⟨[],by simp,fun f _ b r=>by simp at r⟩|b::l,Q,i=>by
  obtain⟨k,n,p⟩:=g b Q (i b (by simp));obtain⟨m,q,h4⟩:=UR g l Q fun c e=>i c (by simp[e]);refine⟨k++m,fun o d=>?_,fun f h c e=>?_⟩
  ·rcases kD.1 d with d|d;·exact n o d
   ·exact q o d
  ·rcases fE.1 e with rfl|e;·exact p f fun o d=>h o (by simp[d])
   ·exact h4 f (fun o d=>h o (by simp[d])) c e
theorem yz2{m:Type}{S T:(m->Prop)->Prop}(k:FinP S)(l:FinP T):FinP fun Q=>S Q/\T Q:=fun Q d=>by
 obtain⟨e,g,i⟩:=k Q d.1;obtain⟨f,j,h4⟩:=l Q d.2;refine⟨e++f,fun o b=>?_,fun c h=>⟨i c fun o b=>h o (by simp[b]),h4 c fun o b=>h o (by simp[b])⟩⟩;rcases kD.1 b with b|b;·exact g o b
 ·exact j o b
theorem BD{m c:Type}{S:(c->Prop)->Prop}{K:c->(m->Prop)->Prop}(l:FinP S)(j:∀b,FinP (K b)):FinP fun Q=>S fun b=>K b Q:=fun Q k=>by
 obtain⟨d,f,g⟩:=l _ k;obtain⟨L,i,h4⟩:=UR j d Q f;exact⟨L,i,fun e h=>g _ (h4 e h)⟩
theorem zr9{g:Type}{S:Nat->(g->Prop)->Prop}(f:∀N,FinP (S N)):FinP fun Q=>∃N,S N Q:=fun Q b=>by
 obtain⟨N,b⟩:=b;obtain⟨L,d,e⟩:=f N Q b;exact⟨L,d,fun c h=>⟨N,e c h⟩⟩
abbrev FinT(T:aY->List (Nat×AV)->List (Nat×AV)->aA->Prop):Prop:=∀b c h,FinP fun Q:nD->Prop=>T (Un Q) b c h
theorem FinT.mono{T:aY->List (Nat×AV)->List (Nat×AV)->aA->Prop}(f:FinT T){Q Q':aY}{b c:List (Nat×AV)}{h:aA}(e:T Q b c h)(d:∀x b c h,Q x b c h->Q' x b c h):T Q' b c h:=FinP.mono (f b c h) (Q:=fun o=>Q o.1 o.2.1 o.2.2.1 o.2.2.2) (Q':=fun o=>Q' o.1 o.2.1 o.2.2.1 o.2.2.2) e fun _=>d _ _ _ _
theorem zL8{T:aY->List (Nat×AV)->List (Nat×AV)->aA->Prop}(g:FinT T){b:List Nat}{n:Nat}:∀N,FinT fun Q=>iK T b n Q N
 |0=>fun _ _ _=>lD|N+1=>fun d c h=>by
  have:=BD (K:=fun(o:nD)(Q:nD->Prop)=>pR (fun _ d c h=>iK T b n (Un Q) N d c h) (Un Q) o.1 o.2.1 o.2.2.1 o.2.2.2) (g [] (bM b c) (sO b n (bM b c) h)) fun o=>by
   obtain⟨x,e,f,h⟩:=o;cases x with
   |normal=>exact zL8 g N e f h|exit i=>exact fin_at (MX.exit i,e,f,h)|ret=>exact fin_at (MX.ret,e,f,h)
  exact this
theorem YE{T:aY->List (Nat×AV)->List (Nat×AV)->aA->Prop}(k:FinT T){j:List Nat}{n:Nat}{Q:aY}:∀(N M:Nat)(c d:List (Nat×AV))(h:aA),N<=M->iK T j n Q N c d h->iK T j n Q M c d h
 |0,_,_,_,_,_,b=>b.elim|N+1,0,_,_,_,l,_=>by omega|N+1,M+1,c,d,h,l,b=>by
  simp only[iK]at b⊢;refine k.mono b fun x e f h g=>?_;cases x with
  |normal=>exact YE k N M e f h (by omega) g|exit i=>exact g|ret=>exact g
theorem xk6{c b:aY->List (Nat×AV)->List (Nat×AV)->aA->Prop}(m:FinT c)(n:FinT b){l:List Nat}{g:List (Nat×AV)}{k:Nat}{d:List AV}{h:aA}:FinP fun Q:MX×aA->Prop=>pQ c b l g k d h fun x h=>Q (x,h):=by
 refine JK (JK ?_);refine BD (K:=fun(o:nD)(Q:MX×aA->Prop)=>match o.1 with
  |.normal=>o.2.2.2[k]?=some (.lp false .normal)/\b (fun x _ _ j=>j[k]?=some (.lp true .normal)/\Q (x,j.set k (.lp false x))) [] o.2.2.1 (o.2.2.2.set k (.lp true .normal))|_=>False) (m [] (oK l d g) h) fun o=>?_;obtain⟨x,e,f,h⟩:=o;cases x with
 |normal=>
  refine JK ?_;exact BD (K:=fun(o:nD)(Q:MX×aA->Prop)=>o.2.2.2[k]?=some (.lp true .normal)/\Q (o.1,o.2.2.2.set k (.lp false o.1))) (n [] f (h.set k (.lp true .normal))) fun o=>JK (fin_at _)|exit i=>exact lD|ret=>exact lD
theorem zK0{F:RdF}{T:List AV->aA->(MX->aA->Prop)->Prop}{k:Nat}(c:∀b h,FinP fun Q:MX×aA->Prop=>T b h fun x h=>Q (x,h)):∀(N j:Nat)(h:aA),FinP fun Q:MX×aA->Prop=>rgM F T k (fun x h=>Q (x,h)) N j h
 |0,_,_=>lD|N+1,j,h=>by
  simp only[rgM];cases F j h with
  |none=>exact lD|some r=>
   obtain⟨o,d⟩:=r;cases o with
   |none=>exact JK (fin_at _)|some b=>
    refine BD (K:=fun(o:MX×aA)(Q:MX×aA->Prop)=>match o.1 with
     |.normal=>rgM F T k (fun x h=>Q (x,h)) N (j+1) o.2|x=>Q (x,o.2.set k .dead)) (c b d) fun o=>?_;obtain⟨x,e⟩:=o;cases x with
    |normal=>exact zK0 c N (j+1) e|exit i=>exact fin_at _|ret=>exact fin_at _
theorem xl8{k:aA}:∀(b:List ME){g:jH}{c d:List (Nat×AV)}{h:aA},FinP fun Q:nD->Prop=>kJ G k b (fun e f h=>Q (.normal,e,f,h)) g c d h:=fun b g c d h Q m=>by
 obtain⟨i,j,l,k1,k2⟩:=KY b m;exact⟨[(.normal,i,j,l)],by simpa using k1,fun n h=>k2 _ (h _ (by simp))⟩
theorem oP:∀a:MC,FinT (wpM G a)
 |.skip=>fun j d h=>fin_at (MX.normal,j,d,h)|.reg k=>fun j d h=>by
  simp only[wpM];cases run G false k (.ok [] d h)with
  |ok e f h=>exact fin_at (MX.normal,e,f,h)|bad=>exact lD
 |.rgd k=>fun j d h=>by
  simp only[wpM];cases run G true k (.ok [] d h)with
  |ok e f h=>exact fin_at (MX.normal,e,f,h)|bad=>exact lD
 |.rge k=>fun j d h=>xl8 k|.seq a b=>fun j d h=>by
  refine BD (K:=fun(o:nD)(Q:nD->Prop)=>pR (fun _ j d h=>wpM G b (Un Q) j d h) (Un Q) o.1 o.2.1 o.2.2.1 o.2.2.2) (oP a j d h) fun o=>?_;obtain⟨x,e,f,h⟩:=o;cases x with
  |normal=>exact oP b e f h|exit i=>exact fin_at (MX.exit i,e,f,h)|ret=>exact fin_at (MX.ret,e,f,h)
 |.ite c a b=>fun j d h=>by
  simp only[wpM];cases y:iD (bV j d) c with
  |none=>exact lD|some v=>
   cases v<;>first|exact lD|skip
   rename_i t;cases t with
   |true=>simp only[bD];exact oP a j d h|false=>simp only[dE,bY];exact oP b j d h
 |.blk id a=>fun j d h=>by
  refine BD (K:=fun(o:nD)(Q:nD->Prop)=>qN id (Un Q) o.1 o.2.1 o.2.2.1 o.2.2.2) (oP a j d h) fun o=>?_;obtain⟨x,e,f,h⟩:=o;cases x with
  |normal=>exact fin_at (MX.normal,e,f,h)|exit i=>
   simp only[qN];split;·exact fin_at (MX.normal,e,f,h)
   ·exact fin_at (MX.exit i,e,f,h)|ret=>exact fin_at (MX.ret,e,f,h)
 |.loop I a=>fun j d h=>zr9 fun N=>zL8 (oP a) N j d h|.exit id=>fun j d h=>fin_at (MX.exit id,j,d,h)|.ret=>fun j d h=>fin_at (MX.ret,j,d,h)|.rgf g K a b=>fun j d h=>by
  simp only[wpM];cases y:iD (bV j d) g with
  |none=>exact lD|some v=>
   cases v<;>first|exact lD|skip
   rename_i f H;dsimp only;cases J:G.fn f with
   |none=>exact lD|some c=>
    cases c<;>first|exact lD|skip
    rename_i F;refine zr9 fun N=>?_;exact BD (K:=fun(o:MX×aA)(Q:nD->Prop)=>Q (o.1,j,d,o.2)) (zK0 (fun E h=>xk6 (oP a) (oP b)) N 0 _) fun o=>fin_at _
 |.rgn g n u k=>fun j d h=>by
  simp only[wpM];cases y:iD (bV [] d) g with
  |none=>exact lD|some v=>
   cases v<;>first|exact lD|skip
   rename_i l A;cases A with
   |succ _=>exact lD|zero=>
    have z:FinP (fun Q:nD->Prop=>match mV h l with
     |some m=>∀r∈m,match run G false k (iP n u [] d (some r))with
      |.ok p q s=>Q (.normal,p,q,s)|.bad=>False
     |none=>False):=by cases mV h l with
     |none=>exact lD|some m=>
      refine UR (K:=fun(r:AV×aA)(Q:nD->Prop)=>match run G false k (iP n u [] d (some r))with
       |.ok p q s=>Q (.normal,p,q,s)|.bad=>False) (fun r=>?_) m;cases run G false k (iP n u [] d (some r))with
      |ok e f h=>exact fin_at (MX.normal,e,f,h)|bad=>exact lD
    exact z
 |.both a b=>fun j d h=>yz2 (oP a j d h) (oP b j d h)|.bad=>fun _ _ _=>lD
theorem zT4{a:MC}{Q d:aY}{b c:List (Nat×AV)}{h:aA}(f:wpM G a Q b c h)(e:∀x b c h,Q x b c h->d x b c h):wpM G a d b c h:=(oP a).mono f e
theorem wS:∀(a:MC)(_:a.det=true){Q:aY}{n l:List (Nat×AV)}{h:aA},wpM G a Q n l h->∃x z A v,Q x z A v/\∀j:aY,j x z A v->wpM G a j n l h
 |.skip,_,Q,n,l,h,d=>⟨_,_,_,_,d,fun _ k=>k⟩|.reg H,_,Q,n,l,h,d=>by
  simp only[wpM]at d⊢;split at d;·rename_i u;exact⟨_,_,_,_,d,fun j k=>k⟩
  ·exact d.elim|.rgd H,_,Q,n,l,h,d=>by
  simp only[wpM]at d⊢;split at d;·rename_i u;exact⟨_,_,_,_,d,fun j k=>k⟩
  ·exact d.elim|.rge H,_,Q,n,l,h,d=>by
  obtain⟨p,r,s,k1,k2⟩:=KY H d;exact⟨.normal,p,r,s,k1,fun j k=>k2 (fun e f h=>j .normal e f h) k⟩|.seq a b,o,Q,n,l,h,d=>by
  simp only[MC.det,bS]at o;simp only[wpM]at d⊢;obtain⟨x,p,r,s,k1,k2⟩:=wS a o.1 d;cases x with
  |normal=>
   obtain⟨y,I,J,K,k3,k4⟩:=wS b o.2 k1;exact⟨y,I,J,K,k3,fun j k=>k2 _ (k4 j k)⟩|exit i=>exact⟨.exit i,p,r,s,k1,fun j k=>k2 _ k⟩|ret=>exact⟨.ret,p,r,s,k1,fun j k=>k2 _ k⟩
 |.ite c a b,o,Q,n,l,h,d=>by
  simp only[MC.det,bS]at o;simp only[wpM]at d⊢;split at d
  ·rename_i t M;cases t with
   |true=>
    simp only[bD]at d;obtain⟨x,p,r,s,k1,k2⟩:=wS a o.1 d;exact⟨x,p,r,s,k1,fun j k=>by simpa[M]using k2 j k⟩|false=>
    simp only[dE,bY]at d;obtain⟨x,p,r,s,k1,k2⟩:=wS b o.2 d;exact⟨x,p,r,s,k1,fun j k=>by simpa[M]using k2 j k⟩
  ·exact d.elim|.blk id a,o,Q,n,l,h,d=>by
  simp only[wpM]at d⊢;obtain⟨x,p,r,s,k1,k2⟩:=wS a o d;cases x with
  |normal=>exact⟨.normal,p,r,s,k1,fun j k=>k2 _ k⟩|exit i=>
   simp only[qN]at k1;by_cases E:i=id;·rw[if_pos E]at k1;exact⟨.normal,p,r,s,k1,fun j k=>k2 _ (by simp only[qN];rw[if_pos E];exact k)⟩
   ·rw[if_neg E]at k1;exact⟨.exit i,p,r,s,k1,fun j k=>k2 _ (by simp only[qN];rw[if_neg E];exact k)⟩|ret=>exact⟨.ret,p,r,s,k1,fun j k=>k2 _ k⟩
 |.loop L a,o,Q,n,l,h,d=>by
  simp only[wpM]at d⊢;obtain⟨N,u⟩:=d;generalize h.length=m at u⊢;have S:∀(N:Nat)(n l:List (Nat×AV))(h:aA),iK (wpM G a) L m Q N n l h->∃x z A v,Q x z A v/\∀j:aY,j x z A v->iK (wpM G a) L m j N n l h:=by
   intro N;induction N with
   |zero=>intro n l h u;exact u.elim|succ N O=>
    intro n l h u;simp only[iK]at u⊢;obtain⟨x,p,r,s,k1,k2⟩:=wS a o u;cases x with
    |normal=>
     obtain⟨y,I,J,K,k3,k4⟩:=O _ _ _ k1;exact⟨y,I,J,K,k3,fun j k=>k2 _ (k4 j k)⟩|exit i=>exact⟨.exit i,p,r,s,k1,fun j k=>k2 _ k⟩|ret=>exact⟨.ret,p,r,s,k1,fun j k=>k2 _ k⟩
  obtain⟨x,p,r,s,k1,k2⟩:=S N n l h u;exact⟨x,p,r,s,k1,fun j k=>⟨N,k2 j k⟩⟩|.exit id,_,Q,n,l,h,d=>⟨_,_,_,_,d,fun _ k=>k⟩|.ret,_,Q,n,l,h,d=>⟨_,_,_,_,d,fun _ k=>k⟩|.rgf g T a b,o,Q,n,l,h,d=>by
  simp only[MC.det,bS]at o;simp only[wpM]at d⊢;split at d
  ·rename_i f U X;split at d
   ·rename_i F W;obtain⟨N,u⟩:=d;obtain⟨x,v,k1,k2⟩:=zJ8 (T:=pQ (wpM G a) (wpM G b) T l h.length) (Q:=fun x h=>Q x n l h) (fun d=>YD (fun _ _ _ _ q=>wS a o.1 q) (fun _ _ _ _ q=>wS b o.2 q) d) N 0 _ u;exact⟨x,n,l,v,k1,fun j k=>⟨N,k2 (fun x h=>j x n l h) k⟩⟩
   ·exact d.elim
  ·exact d.elim|.rgn g V Y H,o,Q,n,l,h,d=>by simp[MC.det]at o|.both a b,o,Q,n,l,h,d=>by simp[MC.det]at o|.bad,_,Q,n,l,h,d=>d.elim
theorem wT(a:MC)(b:a.det=true):OneOut (wpM G a):=fun _ _ _ _ q=>wS a b q
theorem zL6{T:aY->List (Nat×AV)->List (Nat×AV)->aA->Prop}(p:OneOut T)(m:LS T){k:List Nat}{n:Nat}{Q l:aY}:∀(N j:Nat)(c d:List (Nat×AV))(h:aA),iK T k n Q N c d h->iK T k n l j c d h->iK T k n (fun x e f h=>Q x e f h/\l x e f h) N c d h
 |0,_,_,_,_,b,_=>b.elim|_+1,0,_,_,_,_,b=>b.elim|N+1,j+1,c,d,h,b,o=>by
  simp only[iK]at b o⊢;refine p.mono (m _ _ _ _ _ b o) fun x e f h g=>?_;cases x with
  |normal=>exact zL6 p m N j e f h g.1 g.2|exit i=>exact g|ret=>exact g
theorem uO:∀(a:MC)(_:a.det=true),LS (wpM G a)
 |.skip,_=>fun Q n m l h d j=>⟨d,j⟩|.reg s,_=>fun Q n m l h d j=>by
  simp only[wpM]at d j⊢;split at d;·rename_i p;rw[p]at j;exact⟨d,j⟩
  ·exact d.elim|.rgd s,_=>fun Q n m l h d j=>by
  simp only[wpM]at d j⊢;split at d;·rename_i p;rw[p]at j;exact⟨d,j⟩
  ·exact d.elim|.rge s,_=>fun Q n m l h d j=>RR s d j|.seq a b,k=>fun Q n m l h d j=>by
  simp only[MC.det,bS]at k;simp only[wpM]at d j⊢;refine zT4 (uO a k.1 _ _ _ _ _ d j) fun x e f h o=>?_;cases x with
  |normal=>exact uO b k.2 _ _ _ _ _ o.1 o.2|exit i=>exact o|ret=>exact o
 |.ite c a b,k=>fun Q n m l h d j=>by
  simp only[MC.det,bS]at k;simp only[wpM]at d j⊢;split at d
  ·rename_i t E;simp only[E]at j;cases t with
   |true=>simp only[bD]at d j⊢;exact uO a k.1 _ _ _ _ _ d j|false=>simp only[dE,bY]at d j⊢;exact uO b k.2 _ _ _ _ _ d j
  ·exact d.elim|.blk id a,k=>fun Q n m l h d j=>by
  simp only[wpM]at d j⊢;refine zT4 (uO a k _ _ _ _ _ d j) fun x e f h o=>?_;cases x with
  |normal=>exact o|exit i=>
   obtain⟨q,r⟩:=o;simp only[qN]at q r⊢;by_cases y:i=id;·rw[if_pos y]at q r⊢;exact⟨q,r⟩
   ·rw[if_neg y]at q r⊢;exact⟨q,r⟩|ret=>exact o
 |.loop J a,k=>fun Q n m l h d j=>by
  simp only[wpM]at d j⊢;obtain⟨N,p⟩:=d;obtain⟨u,v⟩:=j;exact⟨N,zL6 (wT a k) (uO a k) N u _ _ _ p v⟩|.exit id,_=>fun Q n m l h d j=>⟨d,j⟩|.ret,_=>fun Q n m l h d j=>⟨d,j⟩|.rgf g H a b,k=>fun Q n m l h d j=>by
  simp only[MC.det,bS]at k;simp only[wpM]at d j⊢;split at d
  ·rename_i f I A;split at d
   ·rename_i F z;try rw[A]at j
    try simp only[z]at j
    obtain⟨N,p⟩:=d;obtain⟨u,v⟩:=j;exact⟨N,zJ9 (T:=pQ (wpM G a) (wpM G b) H l h.length) (Q:=fun x h=>Q x m l h) (Q':=fun x h=>n x m l h) (fun d=>YD (wT a k.1) (wT b k.2) d) (fun d j=>zL5 (wT a k.1) (wT b k.2) (uO a k.1) (uO b k.2) d j) N u 0 _ p v⟩
   ·exact d.elim
  ·exact d.elim|.rgn g K L s,k=>by simp[MC.det]at k|.both a b,k=>by simp[MC.det]at k|.bad,_=>fun Q n m l h d j=>d.elim
end
def MX.is:MX->Exit->Prop
 |.normal,.normal=>True|.exit i,.exit j=>i=j|.ret,.ret=>True|_,_=>False
def MX.nrm:MX->Bool
 |.normal=>true|_=>false
def mark(D:Nat):Deferred:={target:=.collected D,args:=#[]}
structure Marks(w0:World)(Ds:List Nat)(w:World):Prop where
 nodup:Ds.Nodup
 there:∀D∈Ds,w0.heap.size<=D/\w.heap[D]?=some (.deferred (some []))
structure Way(B:Base)(C0:Cx)(w0:World)(d:List Deferred)(C:Cx)(a:Act)(w:World):Prop where
 le:C0.Le C
 keep:Keep B w0 w
 ds:∃Ds,a.defers=Ds.map mark++d/\Marks w0 Ds w
theorem Way.step{B:Base}{c C D:Cx}{g w w':World}{d:List Deferred}{a a':Act}(h:Way B c g d C a w)(l:C.Le D)(f:Keep B w w')(k:a'.defers=a.defers):Way B c g d D a' w':=by
 obtain⟨i,j,b⟩:=h.ds;exact⟨h.le.trans l,h.keep.trans f,i,k.trans j,b.nodup,fun D e=>⟨(b.there D e).1,f.sys _ _ (b.there D e).2⟩⟩
theorem Way.start{B:Base}{C:Cx}{w:World}{d:List Deferred}{a:Act}(c:a.defers=d):Way B C w d C a w:=⟨.refl _,.refl _ _,[],by simpa using c,List.nodup_nil,fun D b=>by cases b⟩
def NJ(g:List Nat)(n:Nat)(B:Base)(f:Cx)(i:World)(d:List Deferred)(Q:aY)(e:Exit)(a:Act)(w:World):Prop:=∃x b c h C,MX.is x e/\Q x b c h/\StOK g n B C b c h a w/\Way B f i d C a w
section
variable{P:Program}{B:Base}{C D:Cx}{h:aA}{w w':World}{G:Gam}{a:Act}
def Base.withRc(B:Base)(l b:Nat)(r:Loop)(C:Cx):Base:={B with rc:=fun k=>if k=l then some (b,r)else B.rc k,cx:=C}
theorem zA4(r:Loop)(b:r.state=.ready)(c:r.pending=none):({r with state:=yG false .normal,pending:=MX.normal.code}:Loop)=r:=by cases r;simp only at b c;subst b c;rfl
theorem yU0(d:Inv B C (h++[.dead]) w){b:Nat}{r:Loop}(t:C.bl h.length=some b)(J:B<=b)(K:w.heap[b]?=some (.loop r))(H:r.state=.ready)(I:r.pending=none)(L:∀l x,B.rc l=some x->l<h.length)(u:∀(l:Nat)s,h[l]?=some s->bJ C l s≠some b):Inv (B.withRc h.length b r C) C (h++[.lp false .normal]) w:=by
 have i:∀(l:Nat)k,(h++[Blk.lp false .normal])[l]?=some k->(l<h.length/\h[l]?=some k/\(h++[.dead])[l]?=some k)\/(l=h.length/\k=.lp false .normal):=by
  intro l k c;by_cases g:l<h.length;·rw[gC g]at c;exact .inl ⟨g,c,by rw[gC g];exact c⟩
  ·rw[fT (by omega)]at c;have:l-h.length=0:=by
    rcases IB (l-h.length)with e|e;·exact e
    ·rw[lX (by simp;omega)]at c;cases c
   rw[this]at c;simp at c;exact .inr ⟨by omega,c.symm⟩
 have y:bJ C h.length (.lp false .normal)=some b:=by simp[bJ,t]
 refine⟨d.im,d.one,fun l k c=>?_,fun l p k o m E F g3 g4=>?_,fun l g=>d.fr l (by simpa using g),fun l N tg W X V wr c v M=>?_,d.hB,d.low,d.gl,d.tb,fun l x n=>?_,.refl _⟩
 ·rcases i l k c with⟨q,j,f⟩|⟨rfl,rfl⟩
  ·have:=d.ok l k f;cases k with
   |lp Z x=>
    obtain⟨m,U,O,Q,S,T⟩:=this;exact⟨m,U,O,Q,by simp only[Base.withRc];rw[if_neg (by omega)];exact S,T⟩|_=>exact this
  ·exact⟨b,r,t,J,by simp[Base.withRc],by rw[zA4 r H I];exact K⟩
 ·rcases i l k E with⟨q,j,f⟩|⟨rfl,rfl⟩<;>rcases i p o F with⟨Y,z,A⟩|⟨rfl,rfl⟩;·exact d.inj l p k o m f A g3 g4
  ·rw[y]at g4;injection g4 with g4;subst g4;exact absurd g3 (u l k j)
  ·rw[y]at g3;injection g3 with g3;subst g3;exact absurd g4 (u p o z)
  ·rfl
 ·rcases i l _ c with⟨q,j,f⟩|⟨_,e⟩;·exact d.fv l N tg W X V wr f v M
  ·cases e
 ·simp only[Base.withRc]at n;split at n;·rename_i e;subst e;simp
  ·have:=L l x n;simp;omega
theorem yT9{l b:Nat}{r:Loop}{j:Cx}(c:Inv (B.withRc l b r j) C h w)(i:h[l]?=some .dead)(n:B.cx.Le C):Inv B C h w:=by
 refine⟨c.im,c.one,fun k g d=>?_,c.inj,c.fr,c.fv,c.hB,c.low,c.gl,c.tb,fun k x p=>?_,n⟩
 ·have:=c.ok k g d;cases g with
  |lp v x=>
   obtain⟨m,u,q,s,f,t⟩:=this;have o:k≠l:=fun e=>by subst e;rw[i]at d;cases d
   simp only[Base.withRc]at f;rw[if_neg o]at f;exact⟨m,u,q,s,f,t⟩|_=>exact this
 ·by_cases e:k=l;·subst e;exact(aV.1 i).1
  ·exact c.rcl k x (by simp only[Base.withRc];rw[if_neg e];exact p)
theorem zA5(p:Inv B C h w){l b:Nat}{t:Bool}{x:MX}{r:Loop}(q:h[l]?=some (.lp t x))(g:C.bl l=some b)(s:B.rc l=some (b,r))(k:Bool)(i:MX):Inv B C (h.set l (.lp k i)) (World.put w b (.loop {r with state:=yG k i,pending:=i.code}))/\Keep B w (World.put w b (.loop {r with state:=yG k i,pending:=i.code})):=by
 obtain⟨v,y,j,m,d,n⟩:=p.ok l _ q;rw[g]at j;injection j with j;subst j;rw[s]at d;injection d with d;injection d with _ d;subst d;exact⟨zA p q g (by simp[bJ,g]) n (fun c e f=>by simp) m ⟨b,r,g,m,s,BQ n⟩ (fun u o=>by simp[bJ,g]at o;exact o.symm) (fun _ _ _ _=>by simp),yQ m n (fun c=>by simp)⟩
theorem yW9(i:Inv B C h w){l b:Nat}{n:Bool}{x:MX}{r:Loop}(j:h[l]?=some (.lp n x))(g:C.bl l=some b)(_:B.rc l=some (b,r))(o:Loop):Inv B C (h.set l .dead) (World.put w b (.loop o))/\Keep B w (World.put w b (.loop o)):=by
 obtain⟨t,v,d,k,u,m⟩:=i.ok l _ j;rw[g]at d;injection d with d;subst d;exact⟨zA i j g (by simp[bJ,g]) m (fun c e f=>by simp) k trivial (fun s p=>by simp[bJ]at p) (fun _ _ _ _=>by simp),yQ k m (fun c=>by simp)⟩
theorem QP(e:Inv B C h w){l b:Nat}{d:Bool}{x:MX}{r:Loop}(f:h[l]?=some (.lp d x))(g:B.rc l=some (b,r)):C.bl l=some b/\B<=b/\w.heap[b]?=some (.loop {r with state:=yG d x,pending:=x.code}):=by
 obtain⟨n,o,i,j,c,k⟩:=e.ok l _ f;rw[g]at c;injection c with c;injection c with m c;subst m c;exact⟨i,j,k⟩
theorem zH3:∀(c:List Nat)(d:List AV)(b:List (Nat×AV))(t:Nat),(lkp t (oK c d b)).isSome=(lkp t b).isSome
 |[],d,b,t=>by simp[oK]|p::c,[],b,t=>by simp[oK]|p::c,v::d,b,t=>by
  simp only[oK,zH3 c d,EV];by_cases e:t=p;·simp[e]
  ·simp[e]
def NN(C:Cx)(b:List (Nat×AV))(c:Array Value):Prop:=∀t x,lkp t b=some x->∃u,c[t]?=some u/\Rel C x u
theorem zH5:∀(g:List Nat)(j:List AV)(c:List Value)(d:List (Nat×AV))(i:Array Value),RelL C j c->NN C d i->NN C (oK g j d) ((g.zip c).foldl (fun t q=>t.setIfInBounds q.1 q.2) i)
 |[],j,c,d,i,_,b=>by simpa[oK]using b|p::g,[],c,d,i,l,b=>by cases c with
  |nil=>simpa[oK]using b|cons _ _=>simp[RelL]at l
 |p::g,v::j,c,d,i,l,b=>by
  obtain⟨u,s,rfl,n,o⟩:=l.inv_cons;simp only[oK,List.zip_cons_cons,List.foldl_cons];refine zH5 g j s _ _ o fun t x f=>?_;rw[EV]at f;by_cases e:t=p
  ·subst e;simp only[bD,dJ]at f;obtain⟨y,r,rfl⟩:=f;obtain⟨z,m,_⟩:=b t y r;exact⟨u,by simp[(nE.1 m).1],n⟩
  ·rw[if_neg e]at f;obtain⟨z,m,k⟩:=b t x f;exact⟨z,by rw[TE (fun q=>e q.symm)];exact m,k⟩
theorem fold_size:∀(l:List (Nat×Value))(b:Array Value),(l.foldl (fun t q=>t.setIfInBounds q.1 q.2) b).size=b.size
 |[],_=>rfl|q::l,b=>by simp[List.foldl_cons,fold_size l]
theorem xk8{k:List Nat}{n:Nat}{m b:List (Nat×AV)}{i:aA}{l:World}(f:StOK k n B C m b h a w)(A:C.Le D){g:Base}(z:Inv g D i l){ps:Array Tmp}{e:List AV}{d:Array Value}(E:RelL D e d.toList):StOK k n g D [] (oK ps.toList e b) i {tmps:=(ps.zip d).foldl (fun t(p,v)=>t.setIfInBounds p v) a.tmps,defers:=[]} l:=by
 have r:NN C b a.tmps:=fun t x c=>by
  have o:=f.clear.rel t x (show lkp t b=some x from c);exact o
 have s:NN D b a.tmps:=fun t x c=>let⟨u,k1,k2⟩:=r t x c;⟨u,k1,k2.mono A⟩;have j:(ps.zip d).foldl (fun t(p,v)=>t.setIfInBounds p v) a.tmps=(ps.toList.zip d.toList).foldl (fun t q=>t.setIfInBounds q.1 q.2) a.tmps:=by rw[<-Array.foldl_toList,Array.toList_zip]
 refine⟨z,fun t x c=>?_,fun t v c=>by simp[lkp]at c,fun t v c=>?_,?_⟩
 ·have F:lkp t (oK ps.toList e b)=some x:=c;show∃u,((ps.zip d).foldl (fun t(p,v)=>t.setIfInBounds p v) a.tmps)[t]?=some u/\Rel D x u;rw[j];exact zH5 ps.toList e d.toList b a.tmps E s t x F
 ·have:(lkp t b).isSome=true:=by rw[<-zH3 ps.toList e b t,c];rfl
  obtain⟨y,H⟩:=Option.isSome_iff_exists.1 this;exact f.keys t y H
 ·show n<=((ps.zip d).foldl (fun t(p,v)=>t.setIfInBounds p v) a.tmps).size;rw[j,fold_size];exact f.size
theorem xy2{T:List AV->aA->(MX->aA->Prop)->Prop}(k0:Nat)(n:∀{b:List AV}{h:aA}{K:MX->aA->Prop},T b h K->∃x c,K x c/\c[k0]?=some (.lp false x)/\∀g:MX->aA->Prop,g x c->T b h g)(o:∀{b:List AV}{h:aA}{K g:MX->aA->Prop},T b h K->T b h g->T b h fun x h=>K x h/\g x h):∃Y:Nat->List AV->aA->Option (AV×aA),(∀k b h v c,Y k b h=some (v,c)->k=k0/\∃x,v=.bool x.nrm/\T b h (fun f d=>f=x/\d=c))/\(∀b h K,T b h K->∃x c,Y k0 b h=some (.bool x.nrm,c)/\K x c/\c[k0]?=some (.lp false x)):=by classical
 have p:∀(b:List AV)(h:aA),∃r:Option (MX×aA),(∀x c,r=some (x,c)->T b h (fun f d=>f=x/\d=c))/\(∀K,T b h K->∃x c,r=some (x,c)):=fun b h=>by
  by_cases q:∃x c,T b h (fun f d=>f=x/\d=c)
  ·obtain⟨x,c,l⟩:=q;exact⟨some (x,c),fun z o e=>by simp only[aT,dF]at e;obtain⟨rfl,rfl⟩:=e;exact l,fun K _=>⟨x,c,rfl⟩⟩
  ·exact⟨none,(fun x c e=>by cases e),fun K j=>by
   obtain⟨x,c,_,_,k3⟩:=n j;exact absurd ⟨x,c,k3 _ ⟨rfl,rfl⟩⟩ q⟩
 obtain⟨R,m⟩:∃R:List AV->aA->Option (MX×aA),∀b h,(∀x c,R b h=some (x,c)->T b h (fun f d=>f=x/\d=c))/\(∀K,T b h K->∃x c,R b h=some (x,c)):=⟨fun b h=>(p b h).choose,fun b h=>(p b h).choose_spec⟩;refine⟨fun k b h=>if k=k0 then(R b h).map fun r=>(.bool r.1.nrm,r.2)else none,fun k b h v c i=>?_,fun b h K j=>?_⟩
 ·simp only at i;split at i
  ·rename_i q;simp only[dJ,dF]at i;obtain⟨⟨x,y⟩,s,rfl,rfl⟩:=i;exact⟨q,x,rfl,(m b h).1 _ _ s⟩
  ·cases i
 ·obtain⟨x,c,l⟩:=(m b h).2 K j;refine⟨x,c,by simp[l],?_⟩;obtain⟨z,y,⟨t,u,g3⟩,g4,_⟩:=n (o j ((m b h).1 _ _ l));rw[<-u,<-g3];exact⟨t,g4⟩
theorem zM5{F:RdF}{T:List AV->aA->(MX->aA->Prop)->Prop}{k:Nat}{Q:MX->aA->Prop}{y:List AV->aA->Option (AV×aA)}(l:∀e h K,T e h K->∃x c,y e h=some (.bool x.nrm,c)/\K x c/\c[k]?=some (.lp false x)):∀(N j:Nat)(h:aA),rgM F T k Q N j h->∃c x,BU F y N j h c/\c[k]?=some (.lp false x)/\Q x (c.set k .dead)
 |0,_,_,b=>b.elim|N+1,j,h,b=>by
  simp only[rgM]at b;split at b;·exact b.elim
  ·rename_i g d;exact⟨g,.normal,by simp only[BU,d],b.1,b.2⟩
  ·rename_i e g d;obtain⟨x,f,k1,k2,k3⟩:=l _ _ _ b;cases x with
   |normal=>
    obtain⟨o,p,m,n,g3⟩:=zM5 l N (j+1) f k2;exact⟨o,p,by simp only[BU,d,k1,MX.nrm];exact m,n,g3⟩|exit i=>exact⟨f,.exit i,by simp only[BU,d,k1,MX.nrm],k3,k2⟩|ret=>exact⟨f,.ret,by simp only[BU,d,k1,MX.nrm],k3,k2⟩
end
section
variable{P:Program}{B:Base}{C D:Cx}{h:aA}{w w':World}{G:Gam}{a:Act}
def Snd(P:Program)(G:Gam)(b k:List Nat)(n:Nat)(m:Bool)(l:Option Nat)(c:Code):Prop:=∀(B:Base),GamB P B G->∀(j:List (List Nat))(e:Cx)(i:World)(d:List Deferred)(Q:aY)(f g:List (Nat×AV))(h:aA)(C:Cx)(a:Act)(w:World),StOK b n B C f g h a w->Way B e i d C a w->wpM G (gK m P B.gv b n k c j).1 Q f g h->c.wpIn (fR l) 0 P (NJ b n B e i d Q) a w
theorem xy4{j I:List Nat}{n:Nat}{_g:Operand}{ps:Array Tmp}{t y:Code}(ha:∀l,Snd P G j I n false (some l) t)(hb:∀l,Snd P G j I n false (some l) y){o:Base}(hG:GamB P o G){z:Gv}(f3:o.gv=z){K:Cx}(f1:o.cx=K){k b:Nat}{r:Loop}(i3:o.rc k=some (b,r))(g2:r.state=.ready)(h3:r.pending=none)(b2:r.params=ps)(i1:r.assign=t)(i2:r.body=y){d2 X:List (Nat×AV)}{h:aA}{w:World}(j1:StOK j n B C d2 X h a w)(g1:C.Le K)(l2:r.tmps=a.tmps){U V:List (List Nat)}{Y:Nat->List AV->aA->Option (AV×aA)}(hY:∀i s h v M,Y i s h=some (v,M)->i=k/\∃x:MX,v=.bool x.nrm/\pQ (wpM G (gK false P z j n I t U).1) (wpM G (gK false P z j n I y V).1) ps.toList X k s h (fun x' d3=>x'=x/\d3=M)):YOK P o Y:=by
 intro c E i s hh v M e1 p W u o2 e2 N b3;obtain⟨rfl,x,rfl,q1,q2,q3⟩:=hY _ _ _ _ _ e1;have a3:=hG.up E;have q:c.rc i=some (b,r):=by obtain⟨rc,T,rfl,g,d⟩:=E;exact g _ _ i3
 have e3:K.Le p:=by
  have:=N.cle;obtain⟨rc,T,rfl,g,d⟩:=E;rw[f1]at d;exact d.trans this
 have b1:c.gv=z:=by obtain⟨rc,T,rfl,_,_⟩:=E;exact f3
 obtain⟨J,p2,p3⟩:=QP N q1 q;rw[e2]at J;injection J with J;subst J;rw[zA4 r g2 h3]at p3;have l1:o2.size=r.params.size:=by
  have g:=b3.1;have d:s.length=ps.toList.length:=q2;rw[b2];simp at g d;omega
 refine⟨r.fn,_,t,y,by rw[run_yield p3 l1,i1,i2],?_⟩;refine roundIn_of_wpIn (F:=Fence.wide) (n:=0) trivial ?_;have j3:=xk8 j1 (g1.trans e3) N (ps:=ps) b3;rw[b2,l2];have hA:=ha u c a3 U p W [] _ [] _ hh p _ W j3 (.start rfl) (by rw[b1];exact q3);refine wpIn_mono hA fun e L W1 O=>?_;obtain⟨x1,o3,Z,g,S,m1,m,Q,m4⟩:=O;cases x1 with
 |exit c3=>exact m.elim|ret=>exact m.elim|normal=>
  cases e<;>simp only[MX.is]at m1;obtain⟨m,m5⟩:=m;obtain⟨s1,s2,s3⟩:=QP Q.inv m q;have s4:=run_beginRound (P:=P) s3 (by show yG false .normal=.ready;rfl);refine⟨_,s4,?_⟩;have c1:=zA5 Q.inv m s1 q true .normal;have j2:StOK j n c S [] Z (g.set i (.lp true .normal)) L (World.put W1 u (.loop {r with state:=yG true .normal,pending:=MX.normal.code})):=by
   have A:=Q.clear;exact⟨c1.1,A.rel,A.sep,A.keys,A.size⟩
  have l3:=m4.step (.refl _) c1.2 (a':=L) rfl;have hB:=hb u c a3 V p W [] _ [] Z _ S L _ j2 l3 (by rw[b1];exact m5);refine wpIn_mono hB fun e a2 W3 O=>?_;obtain⟨f,r1,r2,d,C3,F,H,n3,n4⟩:=O;obtain⟨H,rfl,rfl⟩:=H;obtain⟨t1,t2,t3⟩:=QP n3.inv H q;have f2:=fun o1=>run_endRound (P:=P) o1 t3;have c2:=zA5 n3.inv H t1 q false f;have fin:∀(e:Option Code),f.code=e->∃v w',(Instr.endRound u e).run P W3=.ok v w'/\∃d1 D,Ending.returned v=.returned d1/\p.Le D/\Inv c D (d.set i (.lp false f)) w'/\Rel D (.bool f.nrm) d1/\Keep c W w':=by
   rintro e rfl;refine⟨_,_,f2 f.code,_,C3,rfl,n4.le,c2.1,?_,n4.keep.trans c2.2⟩;cases f<;>exact .bool _
  cases f with
  |normal=>cases e<;>simp only[MX.is]at F;exact fin none rfl|exit c3=>cases e<;>simp only[MX.is]at F;subst F;exact fin (some (.exit c3)) rfl|ret=>cases e<;>simp only[MX.is]at F;exact fin (some .ret) rfl
theorem xj2{j m:List Nat}{n:Nat}{g:Operand}{F:Array Tmp}{p v:Code}(ha:∀l,Snd P G j m n false (some l) p)(A:∀l,Snd P G j m n false (some l) v):Snd P G j m n true none (.rangeFunc g F p v):=by
 intro B T y C0 w0 h2 Q O H h C a w c L d;simp only[gK,bD]at d;split at d
 ·rename_i g' n1;obtain⟨c3,d⟩:((gK false P B.gv j n m p y).1.det&&(gK false P B.gv j n m v (gK false P B.gv j n m p y).2).1.det)=true/\wpM G (.rgf g' F.toList (gK false P B.gv j n m p y).1 (gK false P B.gv j n m v (gK false P B.gv j n m p y).2).1) Q O H h:=by
   dsimp only at d;split at d;·rename_i V;exact⟨V,d⟩
   ·exact d.elim
  simp only[bS]at c3;obtain⟨W,X⟩:=c3;simp only[wpM]at d;split at d
  ·rename_i f b2 n2;split at d
   ·rename_i g2 hF;obtain⟨a3,hr⟩:=d;have f3:=PN c.inv c.rel n1 n2;have o1:zd5 P B.gv f g2:=T.ok f _ hF;have m1:=T.enters f _ hF;generalize m3:a.eval g=q1 at f3;cases f3 with|fn _ _ M K hh=>
    have l3:RelL C b2 M.toList:=⟨by simpa using K,fun i h1 a2 hc hv=>hh i h1 a2 hc (by simpa using hv)⟩;refine wpIn_rangeFunc fun fn q2=>?_;obtain⟨r,q⟩:∃r:Loop,r={state:=.ready,pending:=none,fn,tmps:=a.tmps,params:=F,assign:=p,body:=v,defers:=w.heap.size}:=⟨_,rfl⟩;obtain⟨k,E⟩:∃k,(w.alloc (.deferred (some []))).alloc (.loop r)=k:=⟨_,rfl⟩;have q3:k.heap.size=w.heap.size+2:=by rw[<-E];simp
    have j2:k.heap[w.heap.size+1]?=some (.loop r):=by rw[<-E];have:=World.alloc_heap_new (w.alloc (.deferred (some []))) (.loop r);rwa[World.size_alloc]at this
    have j1:k.heap[w.heap.size]?=some (.deferred (some [])):=by rw[<-E];exact(Below.heap_alloc _ _ _ (by simp)).trans (World.alloc_heap_new w _)
    have U:Below w.heap.size w k:=by rw[<-E];exact((Below.refl _ w).alloc (dA _) _).alloc (by simp) _
    have hn:=(c.inv.fr h.length (dA _)).1;have d1:=JI (w:=w) (w.heap.size+1) hn;have t:=d1.le;have c1:(C.addBl h.length (w.heap.size+1)).bl h.length=some (w.heap.size+1):=by simp[Cx.addBl]
    have V:Inv B (C.addBl h.length (w.heap.size+1)) (h++[.dead]) k:=c.inv.add d1 U (fun b o u x=>vT c.inv U b o u x) (fun b o u x=>c.inv.one b o u x) (blk:=.dead) trivial (fun b A=>by simp[bJ]at A) (fun l K=>by simp[Cx.addBl,K]) (fun l a2 K=>rfl) (fun ne tg sz r2 r1 wr e=>by cases e);have f1:=yU0 V c1 (by have:=c.inv.hB;omega) j2 (by rw[q]) (by rw[q]) c.inv.rcl (fun l blk A c2=>by
     rw[rQ (c.inv.ok l blk A) t]at c2;have:=DT (c.inv.ok l blk A) c2;omega);have g1:B.Up (B.withRc h.length (w.heap.size+1) r (C.addBl h.length (w.heap.size+1))):=⟨_,_,rfl,fun l x hx=>by
     have:=c.inv.rcl l x hx;show(if l=h.length then some (w.heap.size+1,r)else B.rc l)=some x;rw[if_neg (by omega)];exact hx,c.inv.cle.trans t⟩;obtain⟨s,z⟩:∃s,s=B.withRc h.length (w.heap.size+1) r (C.addBl h.length (w.heap.size+1)):=⟨_,rfl⟩;have b3:s.gv=B.gv:=by rw[z];rfl
    have h3:s.cx=C.addBl h.length (w.heap.size+1):=by rw[z];rfl
    have S:s.rc h.length=some (w.heap.size+1,r):=by rw[z];simp[Base.withRc]
    have i1:(s:Nat)=B:=by rw[z];rfl
    rw[<-z]at g1 f1;have i3:=T.up g1;obtain⟨b1,j3,l1⟩:=xy2 (T:=pQ (wpM G (gK false P B.gv j n m p y).1) (wpM G (gK false P B.gv j n m v (gK false P B.gv j n m p y).2).1) F.toList H h.length) h.length (fun d=>YD (wT _ W) (wT _ X) d) (fun d o2=>zL5 (wT _ W) (wT _ X) (uO _ W) (uO _ X) d o2);obtain⟨h',x,o3,Z,hQ⟩:=zM5 (k:=h.length) (Q:=fun x h=>Q x O H h) l1 a3 0 _ hr;have p1:YOK P s b1:=xy4 (_g:=g) (ps:=F) ha A i3 b3 h3 (k:=h.length) (b:=w.heap.size+1) (r:=r) S (by rw[q]) (by rw[q]) (by rw[q]) (by rw[q]) (by rw[q]) c t (by rw[q]) j3;have l2:=o1 s _ _ h' k b2 M h.length (w.heap.size+1) a3 b1 b3 f1 (l3.mono t) c1 p1 o3;refine⟨w.heap.size+1,[mark w.heap.size],k,{target:=.fn (.func f) M,args:=#[.func (.yield (w.heap.size+1)) #[] #[]]},k,f,#[.func (.yield (w.heap.size+1)) #[] #[]]++M,k,?_,?_,?_,?_,?_,?_⟩;·rw[<-E,q];exact run_enterLoop_outer _ _ _ _ _
    ·simp only[resolve,m3];simp[go_sem]
    ·exact fun _ _=>trivial
    ·simp only[invoke];exact m1 _ _
    ·exact PP
    ·refine zk7 (l2.mono ?_);rintro e w2⟨a2,D',rfl,N,e2,e3⟩;obtain⟨t1,t2,t3⟩:=QP e2 Z S;have m2:=run_endLoop (P:=P) t3 (by cases x<;>simp[yG,MX.code]);have d2:=yW9 e2 Z t1 S {r with state:=.exhausted,pending:=x.code};have d3:=d2.1;rw[z]at d3;have n3:=yT9 d3 (by rw[jI (aV.1 Z).1]) ((c.inv.cle.trans t).trans N);refine⟨x.code,_,m2,?_⟩;have Y:Keep B k (World.put w2 (w.heap.size+1) (.loop {r with state:=.exhausted,pending:=x.code})):=by rw[<-i1];exact Keep.trans e3 d2.2
     have f2:Keep B w k:=.grown U c.inv.hB;have a1:∀(e:Exit),MX.is x e->NJ j n B C0 w0 h2 Q e {a with defers:=[mark w.heap.size]++a.defers} (World.put w2 (w.heap.size+1) (.loop {r with state:=.exhausted,pending:=x.code})):=fun e he=>by
      refine⟨x,O,H,h'.set h.length .dead,D',he,hQ,⟨n3,fun p2 p3 hy=>?_,c.sep,c.keys,c.size⟩,⟨L.le.trans (t.trans N),L.keep.trans (f2.trans Y),?_⟩⟩
      ·obtain⟨u,k1,k2⟩:=c.rel p2 p3 hy;exact⟨u,k1,k2.mono (t.trans N)⟩
      ·obtain⟨Ds,i2,J⟩:=L.ds;refine⟨w.heap.size::Ds,by simp[i2],?_,fun D I=>?_⟩
       ·refine List.nodup_cons.2 ⟨fun hm=>?_,J.nodup⟩;have:=gY (J.there _ hm).2;omega
       ·rcases fE.1 I with rfl|I;·exact⟨L.keep.below.size,Y.sys _ _ j1⟩
        ·exact⟨(J.there D I).1,Y.sys _ _ (f2.sys _ _ (J.there D I).2)⟩
     cases x with
     |normal=>exact a1 .normal trivial|exit i=>exact wpIn_exit (a1 (.exit i) rfl)|ret=>exact wpIn_ret (a1 .ret trivial)
   ·exact d.elim
  ·exact d.elim
 ·exact d.elim
theorem zT3{Q:aY}{i j:List (Nat×AV)}:∀{g:List MC},wpM G (OJ g) Q i j h->∀c∈g,wpM G c Q i j h
 |[],f,c,b=>by cases b|[d],f,c,b=>by rw[mN.1 b];exact f|d::e::g,f,c,b=>by
  simp only[OJ,wpM]at f;rcases fE.1 b with rfl|b;·exact f.1
  ·exact zT3 f.2 c b
theorem yw3{ro:Option Nat}(o:GamB P B G){j s:List Nat}{n:Nat}{g:Array Oper}{Q:Exit->Act->World->Prop}{k:aY}{l m:List (Nat×AV)}(q:StOK j n B C l m h a w)(b:wpM G (UK P B.gv j n s g) k l m h)(p:∀d e f D c w',k .normal d e f->C.Le D->StOK j n B D d e f c w'->c.defers=a.defers->Keep B w w'->Q .normal c w'):wpAnyIn (fR ro) 0 P .any g Q g.size (Array.replicate g.size false) a {w with drawn:=w.drawn+1}:=by
 unfold UK at b;split at b
 ·rename_i i;simp only[wpM]at b;split at b
  ·rename_i d e f r;exact zo8 o q.clear i r fun D c w' k1 k2 k3 k4=>p d e f D c w' b k1 k2 k3 k4
  ·exact b.elim
 ·split at b
  ·rename_i i;exact zp4 o q.clear i b fun d e f D c w' k0 k1 k2 k3 k4=>p d e f D c w' k0 k1 k2 k3 k4
  ·exact b.elim
theorem ye7{z:Option Nat}(H:P.follows .mixedOrders=true)(A:GamB P B G){d g:List Nat}{n id:Nat}{b:Array Oper}{Q:Exit->Act->World->Prop}{m:aY}{q r:List (Nat×AV)}(J:StOK d n B C q r h a w)(l:wpM G (TF P B.gv d n g b) m q r h)(E:∀u v x D p w',m .normal u v x->C.Le D->StOK d n B D u v x p w'->p.defers=a.defers->Keep B w w'->Q .normal p w'):(Code.region id b true).wpIn (fR z) 0 P Q a w:=by
 unfold TF at l;split at l
 ·rename_i y;simp only[bS,fU]at y;have M:(aX P B.gv d n g b).length=b.size:=by simp[aX]
  refine xh5 H (lou:=MI.loudAt (aX P B.gv d n g b)) (all:=QL (aX P B.gv d n g b)) (fun i j F=>nX.2 ⟨lM.2 (by omega),F⟩) (fun i j=>by
   obtain⟨c,e⟩:=nX.1 j;exact⟨by have:=lM.1 c;omega,e⟩) (fun k o f i j=>by
   have c:=gV.1 y.1 k (lM.2 (by simpa using(nE.1 f).1));rw[show b.toList[k]?=some o by simpa using f]at c;have:=gV.1 c i j;simpa using this) fun t L=>?_;have c:=zT3 l _ (nY.2 ⟨t,L,rfl⟩);obtain⟨s,e⟩:∃s,wpM G (IE P B.gv d n g b t s) m q r h:=by
   unfold zi3 at c;split at c;·exact⟨_,c⟩
   ·exact⟨_,c⟩
  unfold IE at e;split at e
  ·rename_i I;have f:=xc9 I;refine⟨_,f,?_⟩;have K:(nO b s t).size=b.size:=by rw[XZ];exact f.len
   have:=yw3 (ro:=z) A J e (Q:=Q) E;rw[K]at this;exact this
  ·exact e.elim
 ·exact l.elim
theorem xj3{A:Option Nat}(V:GamB P B G){i ow:List Nat}{n id:Nat}{c:Array Oper}{I:Operand}{o:Oper}(d:mapNext c.toList=some (I,o))(Z:(o.dst.map fun t=>decide (t<n)).getD true=true){g:At}(hg:tW B.gv I=some g){Q:Exit->Act->World->Prop}{N k:List (Nat×AV)}(c3:StOK i n B C N k h a w){l:Nat}(b1:iD (bV [] k) g=some (.ptr l 0)){E:List (AV×aA)}(X:mV h l=some E)(x:∀r∈E,∃q s v,run G false (aX P B.gv i n ow c).tail (iP o.dst ((o.dst.map fun t=>i.contains t).getD false) [] k (some r))=.ok q s v/\∀D p w',C.Le D->StOK i n B D q s v p w'->p.defers=a.defers->Keep B w w'->Q .normal p w'):(Code.region id c false).wpIn (fR A) 0 P Q a w:=by
 refine wpIn_region ?_;have f:=zH6 c;cases y:c.toList with
 |nil=>rw[y]at d;cases d|cons b K=>
  rw[y]at f d;simp only[mapNext]at d;split at d
  ·rename_i J H a2;simp only[aT,dF]at d;obtain⟨rfl,rfl⟩:=d;generalize List.range c.size=m at f;cases m with
   |nil=>simp at f|cons d3 m=>
    simp only[iO,List.cons.injEq]at f;obtain⟨ho,f⟩:=f;rw[wpOpsIn_cons];have e:=c3.clear;have b3:=PN e.inv e.rel hg b1;obtain⟨r,u,w',hr,k1,k2,k3,k4⟩:=yY5 (P:=P) (ty:=b.type) e.inv b3 X;obtain⟨q,s,v,j,x⟩:=x r hr;unfold wpOpIn;simp only[ho];rw[if_pos (by simp[Region.wanted,a2])];unfold Oper.wpIn;refine⟨fun _ _=>trivial,?_⟩;have c1:Oper.semAt (fR A).round a.eval b=execOp a.eval b:=Oper.semAt_eq _ _ _ fun d2 F=>by rw[H]at F;cases F
    rw[c1];have T:(execOp a.eval b).run P w=.ok (.value u) w':=by
     have L:execOp a.eval b=execOp a.eval {b with op:=.next J false}:=by rw[<-H]
     rw[L];have M:∀S:Sem Value,S.run P w=.ok u w'->Sem.run P (do pure (Next.value (<-S))) w=.ok (.value u) w':=fun S W=>by simp[W]
     exact M (Instr.next (a.eval J) false b.type) k1
    rw[T];show wpOpsIn (fR A) 0 P c Q m (a.put b.dst u) w';have d1:(aX P B.gv i n ow c).tail=K.map (dZ P B.gv i n ow c):=by simp[aX,y]
    rw[d1]at j;generalize Y:iP b.dst ((b.dst.map fun t=>i.contains t).getD false) [] k (some r)=r1 at j;cases r1 with
    |bad=>rw[BV]at j;cases j|ok O U h2=>
     obtain⟨e2,h1⟩:=r;obtain⟨rfl,c2,b2,a3⟩:=OH e.sep rfl Y;have a1:∀t,b.dst=some t->t<n:=fun t z=>by simpa[z]using Z
     exact VZ V m K O U _ C (a.put b.dst u) w' f ⟨k2,e.rel.put k3 (fun t z=>vG (a1 t z) e.size) a3,c2,b2 e.keys,by rw[RJ];exact e.size⟩ (by rw[RG]) (.refl C) k4 j x
  ·cases d
theorem lU(F:P.follows .mixedOrders=true){M U:List Nat}{n:Nat}:∀(c:Code)(s:Bool)(t:Option Nat),(s=true->t=none)->Snd P G M U n s t c
 |.skip,s,t,A=>fun B r z j u d Q k o h C a w g i f=>wpIn_skip ⟨.normal,k,o,h,C,trivial,f,g,i⟩|.region id f1 V,s,t,A=>fun B r z j u d Q k o h C a w g i f=>by
  simp only[gK]at f;split at f
  ·rename_i it e3 c1;split at f;·exact f.elim
   ·rename_i b2;obtain rfl:V=false:=by simpa using b2
    split at f
    ·rename_i a3 hg;split at f
     ·rename_i hd;simp only[wpM]at f;split at f
      ·rename_i l b3;split at f
       ·rename_i e2 b1;refine xj3 (ow:=U) r c1 hd hg g b3 b1 fun d3 H=>?_;have:=f d3 H;split at this
        ·rename_i m p q L;exact⟨m,p,q,L,fun D I w' k1 k2 k3 k4=>⟨.normal,m,p,q,D,trivial,this,k2,i.step k1 k4 k3⟩⟩
        ·exact this.elim
       ·exact f.elim
      ·exact f.elim
     ·exact f.elim
    ·exact f.elim
  cases V with
  |false=>
   simp only[dE,bY,wpM]at f;split at f
   ·rename_i m p q L;exact XW r g.clear L fun D I w' k1 k2 k3 k4=>⟨.normal,m,p,q,D,trivial,f,k2,i.step k1 k4 k3⟩
   ·exact f.elim|true=>
   simp only[bD]at f;split at f
   ·rename_i T;simp only[wpM]at f;split at f
    ·rename_i m p q L;exact xh6 F r g.clear T L fun D I w' k1 k2 k3 k4=>⟨.normal,m,p,q,D,trivial,f,k2,i.step k1 k4 k3⟩
    ·exact f.elim
   ·split at f
    ·rename_i T;exact xh7 F r g.clear T f fun m p q D I w' k0 k1 k2 k3 k4=>⟨.normal,m,p,q,D,trivial,k0,k2,i.step k1 k4 k3⟩
    ·exact ye7 F r g f fun m p q D I w' k0 k1 k2 k3 k4=>⟨.normal,m,p,q,D,trivial,k0,k2,i.step k1 k4 k3⟩
 |.seq x y,s,t,A=>fun B r z j u d Q k o h C a w g i f=>by
  simp only[gK,wpM]at f;refine wpIn_seq (wpIn_mono (lU F x s t A B r z j u d _ k o h C a w g i f) fun e I w' J=>?_);obtain⟨K,m,p,q,E,k1,k2,k3,k4⟩:=J;cases K<;>cases e<;>simp only[MX.is]at k1<;>(try exact k1.elim);·exact lU F y s t A B r _ j u d Q m p q E I w' k3 k4 k2
  ·exact⟨.exit _,m,p,q,E,k1,k2,k3,k4⟩
  ·exact⟨.ret,m,p,q,E,trivial,k2,k3,k4⟩|.cond c x y,s,t,A=>fun B r z j u d Q k o h C a w g i f=>by
  simp only[gK]at f;split at f
  ·rename_i c' hc;simp only[wpM]at f;split at f
   ·rename_i e1 ht;have H:=PN g.inv g.rel hc ht;have:=jJ H;cases e1 with
    |true=>simp only[bD]at f;exact wpIn_cond_true this (lU F x s t A B r z j u d Q k o h C a w g i f)|false=>simp only[dE,bY]at f;exact wpIn_cond_false this (lU F y s t A B r _ j u d Q k o h C a w g i f)
   ·exact f.elim
  ·exact f.elim|.block id x,s,t,A=>fun B r z j u d Q k o h C a w g i f=>by
  simp only[gK,wpM]at f;refine wpIn_block (wpIn_mono (lU F x s t A B r z j u d _ k o h C a w g i f) fun e I w' J=>?_);obtain⟨K,m,p,q,E,k1,k2,k3,k4⟩:=J;cases K<;>cases e<;>simp only[MX.is]at k1<;>(try exact k1.elim);·exact⟨.normal,m,p,q,E,trivial,k2,k3,k4⟩
  ·subst k1;simp only[qN]at k2;simp only[Exit.inBlock];split;·rename_i e;rw[if_pos e]at k2;exact⟨.normal,m,p,q,E,trivial,k2,k3,k4⟩
   ·rename_i e;rw[if_neg e]at k2;exact⟨.exit _,m,p,q,E,rfl,k2,k3,k4⟩
  ·exact⟨.ret,m,p,q,E,trivial,k2,k3,k4⟩|.loop x,s,t,A=>fun B r z j u d Q k o h C a w g i f=>by
  simp only[gK,wpM]at f;obtain⟨N,H⟩:=f;refine wpIn_loop_rounds N ?_;have S:∀(j:Cx),j.Le C->∀l,h.length<=l->j.bl l=none/\∀v,j.ar l v=none:=fun j X l hl=>by
   have W:=g.inv.fr l hl;refine⟨?_,fun v=>?_⟩;·cases O:j.bl l with
    |none=>rfl|some b=>have:=X.bl l b O;rw[W.1]at this;cases this
   ·cases O:j.ar l v with
    |none=>rfl|some b=>have:=X.ar l v b O;rw[W.2 v]at this;cases this
  have Y:=S j i.le;have Z:=S B.cx g.inv.cle;have a1:=g.inv.rcl;clear S;generalize h.length=c3 at H Y Z a1;have c2:∀(N:Nat)(k o:List (Nat×AV))(h:aA)(C:Cx)(a:Act)(w:World),StOK M n B C k o h a w->Way B j u d C a w->iK (wpM G (gK s P B.gv M n U x z.tail).1) (z.headD []) c3 Q N k o h->Code.roundsIn (fR t) 0 P x (NJ M n B j u d Q) N a w:=by
   intro N;induction N with
   |zero=>intro k o h C a w _ _ H;exact H|succ N ih=>
    intro k o h C a w g i H;obtain⟨D,d1,d2⟩:=g.head a1 Z i.le Y (z.headD []);simp only[iK]at H;refine wpIn_mono (lU F x s t A B r z.tail j u d _ _ _ _ D a w d2 ⟨d1,i.keep,i.ds⟩ H) fun e I w' J=>?_;obtain⟨K,m,p,q,E,k1,k2,k3,k4⟩:=J;cases K<;>cases e<;>simp only[MX.is]at k1<;>(try exact k1.elim);·exact ih m p q E I w' k3 k4 k2
    ·exact⟨.exit _,m,p,q,E,k1,k2,k3,k4⟩
    ·exact⟨.ret,m,p,q,E,trivial,k2,k3,k4⟩
  exact c2 N k o h C a w g i H|.exit id,s,t,A=>fun B r z j u d Q k o h C a w g i f=>wpIn_exit ⟨.exit id,k,o,h,C,rfl,f,g,i⟩|.ret,s,t,A=>fun B r z j u d Q k o h C a w g i f=>wpIn_ret ⟨.ret,k,o,h,C,trivial,f,g,i⟩|.label l,s,t,A=>fun B r z j u d Q k o h C a w g i f=>wpIn_label ⟨.normal,k,o,h,C,trivial,f,g,i⟩|.rangeFunc a3 ps a2 bd,s,t,A=>by cases s with
  |true=>
   have:=A rfl;subst this;exact xj2 (fun l=>lU F a2 false (some l) (fun e=>by cases e)) (fun l=>lU F bd false (some l) (fun e=>by cases e))|false=>exact fun B r z j u d Q k o h C a w g i f=>by simp only[gK,dE,bY]at f;exact f.elim
 |.scope x,s,t,A=>fun B r z j u d Q k o h C a w g i f=>by
  simp only[gK]at f;refine xx5 (wpIn_mono (lU F x s t A B r z j u d _ k o h C a w g i f) fun e I w' J=>?_);obtain⟨K,m,p,q,E,k1,k2,k3,k4⟩:=J;cases K<;>cases e<;>simp only[MX.is]at k1<;>(try exact k1.elim);·exact⟨.normal,m,p,q,E,trivial,k2,k3,k4⟩
  ·exact⟨.exit _,m,p,q,E,k1,k2,k3,k4⟩
  ·exact⟨.ret,m,p,q,E,trivial,k2,k3,k4⟩|.goto _,s,t,A=>fun B r z j u d Q k o h C a w g i f=>f.elim|.refuse _,s,t,A=>fun B r z j u d Q k o h C a w g i f=>f.elim
end
end Go.Proofs.YtdebajodkallbaaGreatDoor
