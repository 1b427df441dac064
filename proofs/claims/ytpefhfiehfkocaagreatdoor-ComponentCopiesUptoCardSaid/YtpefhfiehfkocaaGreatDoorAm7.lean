/- Control -/
import Derived.Test.YtpefhfiehfkocaaGreatDoorAm6
import Derived.LoopNIn
namespace Go.Proofs.YtpefhfiehfkocaaGreatDoor
open Go.RowKit
inductive MC where|skip|reg(is:List MI)|rgd(is:List MI)|rge(is:List ME)|seq(a b:MC)|ite(c:At)(a b:MC)|blk(id:Nat)(a:MC)|loop(dead:List Nat)(a:MC)|exit(id:Nat)|ret|rgf(g:At)(ps:List Nat)(a b:MC)|rgn(g:At)(dst:Option Nat)(kept:Bool)(is:List MI)|both(a b:MC)|bad deriving Inhabited
def MC.det:MC->Bool
 |.seq a b=>a.det&&b.det|.ite _ a b=>a.det&&b.det|.blk _ a=>a.det|.loop _ a=>a.det|.rgf _ _ a b=>a.det&&b.det|.rgn _ _ _ _=>false|.both _ _=>false|_=>true
abbrev aS:=MX->List (Nat×AV)->List (Nat×AV)->aA->Prop
def aY(b:List Nat):List (Nat×AV)->List (Nat×AV)
 |[]=>[]|(k,v)::r=>(k,if b.contains k then .junk else v)::aY b r
mutual def low(n:Nat):AV->Bool
 |.own l _ _=>decide (l<n)|.win l _ _ _=>decide (l<n)|.ptr l _=>decide (l<n)|.eptr l _ _ _=>decide (l<n)|.map l=>decide (l<n)|.yld l=>decide (l<n)|.agg b=>bA n b|.tup b=>bA n b|.fn _ b=>bA n b|.mth _ v=>low n v|.iface _ v=>low n v|_=>true def bA(n:Nat):List AV->Bool
 |[]=>true|a::c=>low n a&&bA n c end
def cQ(n:Nat):List (Nat×AV)->Bool
 |[]=>true|(_,v)::r=>low n v&&cQ n r
def tF(n:Nat):List (List AV)->Bool
 |[]=>true|r::b=>bA n r&&tF n b
theorem zM2{n:Nat}:∀{b c:List AV},bA n b=true->bA n c=true->bA n (b++c)=true
 |[],_,_,h=>h|a::b,c,h,k=>by
  simp only[bA,bR]at h;simp only[qW,bA,bR];exact⟨h.1,zM2 h.2 k⟩
theorem zM3{n:Nat}:∀{b:List (List AV)},tF n b=true->bA n b.flatten=true
 |[],_=>rfl|r::c,h=>by
  simp only[tF,bR]at h;exact zM2 h.1 (zM3 h.2)
def gR(n:Nat):Blk->Bool
 |.cellsT _ c=>bA n c|.arrX true _ _ _ b _=>tF n b|.mit (some m) _ _ _=>decide (m<n)|_=>true
def bG(n:Nat):aA->Bool
 |[]=>true|b::r=>gR n b&&bG n r
def trunc(n:Nat)(fr:List (Nat×AV))(h:aA):aA:=if cQ n fr&&bG n (h.take n)then h.take n else h
def nU(b:List Nat)(n:Nat)(fr:List (Nat×AV))(h:aA):aA:=if b.contains 999999 then h else trunc n fr h
def oY(k:aS)(Q:aS):aS
 |.normal,env,fr,h=>k .normal env fr h|x,env,fr,h=>Q x env fr h
def oL(id:Nat)(Q:aS):aS
 |.exit j,env,fr,h=>if j=id then Q .normal env fr h else Q (.exit j) env fr h|x,env,fr,h=>Q x env fr h
def gS(T:aS->List (Nat×AV)->List (Nat×AV)->aA->Prop)(b:List Nat)(n:Nat)(Q:aS):Nat->List (Nat×AV)->List (Nat×AV)->aA->Prop
 |0,_,_,_=>False|N+1,_,fr,h=>T (oY (fun _ env fr h=>gS T b n Q N env fr h) Q) [] (aY b fr) (nU b n (aY b fr) h)
def nQ:List Nat->List AV->List (Nat×AV)->List (Nat×AV)
 |p::b,v::c,fr=>nQ b c (upd p v fr)|_,_,fr=>fr
def oX(f g:aS->List (Nat×AV)->List (Nat×AV)->aA->Prop)(e:List Nat)(fr:List (Nat×AV))(k:Nat)(b:List AV)(h:aA)(K:MX->aA->Prop):Prop:=h[k]?=some (.lp false .normal)/\b.length=e.length/\f (fun x _ i c=>match x with
 |.normal=>c[k]?=some (.lp false .normal)/\g (fun x _ _ d=>d[k]?=some (.lp true .normal)/\K x (d.set k (.lp false x))) [] i (c.set k (.lp true .normal))|_=>False) [] (nQ e b fr) h
def rgM(F:RdF)(T:List AV->aA->(MX->aA->Prop)->Prop)(k:Nat)(Q:MX->aA->Prop):Nat->Nat->aA->Prop
 |0,_,_=>False|N+1,j,h=>match F j h with
  |none=>False|some (none,b)=>b[k]?=some (.lp false .normal)/\Q .normal (b.set k .dead)|some (some d,b)=>T d b fun x c=>match x with
   |.normal=>rgM F T k Q N (j+1) c|x=>Q x (c.set k .dead)
def wpM(G:Gam):MC->aS->List (Nat×AV)->List (Nat×AV)->aA->Prop
 |.skip,Q,env,fr,h=>Q .normal env fr h|.reg i,Q,_,fr,h=>match run G false i (.ok [] fr h)with
  |.ok d e h'=>Q .normal d e h'|.bad=>False
 |.rgd i,Q,_,fr,h=>match run G true i (.ok [] fr h)with
  |.ok d e h'=>Q .normal d e h'|.bad=>False
 |.rge i,Q,_,fr,h=>jP G h i (fun d e h'=>Q .normal d e h') [] [] fr h|.seq a b,Q,env,fr,h=>wpM G a (oY (fun _ env fr h=>wpM G b Q env fr h) Q) env fr h|.ite c a b,Q,env,fr,h=>match gO (aV env fr) c with
  |some (.bool t)=>if t then wpM G a Q env fr h else wpM G b Q env fr h|_=>False
 |.blk id a,Q,env,fr,h=>wpM G a (oL id Q) env fr h|.loop m a,Q,env,fr,h=>∃N,gS (wpM G a) m h.length Q N env fr h|.exit id,Q,env,fr,h=>Q (.exit id) env fr h|.ret,Q,env,fr,h=>Q .ret env fr h|.rgf g p a b,Q,env,fr,h=>match gO (aV env fr) g with
  |some (.fn f k)=>(match G f with
   |some (.iter F)=>∃N,rgM (F k (h++[.lp false .normal])) (oX (wpM G a) (wpM G b) p fr h.length) h.length (fun x h=>Q x env fr h) N 0 (h++[.lp false .normal])|_=>False)|_=>False
 |.rgn g n o i,Q,_,fr,h=>match gO (aV [] fr) g with
  |some (.ptr l 0)=>(match iG h l with
   |some j=>∀r∈j,match run G false i (iD n o [] fr (some r))with
    |.ok d e h'=>Q .normal d e h'|.bad=>False
   |none=>False)|_=>False
 |.both a b,Q,env,fr,h=>wpM G a Q env fr h/\wpM G b Q env fr h|.bad,_,_,_,_=>False
def XL(P:Program)(c:Gv)(ks:List Nat)(n:Nat)(d:List Nat)(b:Array Oper):MC:=if PY b.toList (aO P c ks n d b)then .rgd (aO P c ks n d b)else if zW (QB b.toList (aO P c ks n d b)) (QZ b.toList (aO P c ks n d b)) b.toList (aO P c ks n d b)then .rge (wZ (QB b.toList (aO P c ks n d b)) (QZ b.toList (aO P c ks n d b)) 0 (aO P c ks n d b))else .bad
def za7(c:List Oper)(d:List Nat):Nat->List Nat->List Nat
 |0,b=>b|m+1,b=>match(List.range c.length).find? fun i=>!b.contains i&&(((c[i]?).map mR).getD []).all (fun j=>b.contains j)&&(ahead d i).all fun j=>b.contains j with
  |some i=>za7 c d m (b++[i])|none=>b
def za8(c:List Oper)(d:List MI)(e:List Nat):Nat->List Nat->List Nat
 |0,b=>b|m+1,b=>let f:=(List.range c.length).filter fun i=>!b.contains i&&(((c[i]?).map mR).getD []).all (fun j=>b.contains j)&&(ahead e i).all fun j=>b.contains j
  match f.find? (fun i=>!MI.loudAt d i)with
  |some i=>za8 c d e m (b++[i])|none=>match f with
   |i::_=>za8 c d e m (b++[i])|[]=>b
def IW(P:Program)(d:Gv)(ks:List Nat)(n:Nat)(e:List Nat)(b:Array Oper)(f c:List Nat):MC:=if YO b.size c then XL P d ks n e (nA b c f)else .bad
def MC.isBad:MC->Bool
 |.bad=>true|_=>false
def zo0(P:Program)(d:Gv)(ks:List Nat)(n:Nat)(e:List Nat)(b:Array Oper)(c:List Nat):MC:=if(IW P d ks n e b c (za7 b.toList c b.size [])).isBad then IW P d ks n e b c (za8 b.toList (aO P d ks n e b) c b.size [])else IW P d ks n e b c (za7 b.toList c b.size [])
def RQ(b:List MI):List Nat:=(List.range b.length).filter (MI.loudAt b)
def OV:List MC->MC
 |[]=>.bad|[c]=>c|c::d::b=>.both c (OV (d::b))
def xy5(b:List Oper):Bool:=(List.range b.length).all fun k=>(((b[k]?).map mR).getD []).all fun i=>decide (i<k)
def VS(P:Program)(c:Gv)(ks:List Nat)(n:Nat)(d:List Nat)(b:Array Oper):MC:=if xy5 b.toList&&decide ((RQ (aO P c ks n d b)).length<=9)then OV ((xB (oK b.toList []) (RQ (aO P c ks n d b)).length (RQ (aO P c ks n d b))).map (zo0 P c ks n d b))else .bad
def mapNext:List Oper->Option (Operand×Oper)
 |o::_=>match o.op,o.guard with
  |.next b false,none=>some (b,o)|_,_=>none
 |[]=>none
def gD(j:Bool)(P:Program)(e:Gv)(ks:List Nat)(n:Nat)(f:List Nat):Code->List (List Nat)->MC×List (List Nat)
 |.skip,d=>(.skip,d)|.region _ i k,d=>match mapNext i.toList with
  |some (q,o)=>if k then(.bad,d)else match sU e q with
   |some g=>if(o.dst.map fun t=>decide (t<n)).getD true then(.rgn g o.dst ((o.dst.map fun t=>ks.contains t).getD false) (aO P e ks n f i).tail,d)else(.bad,d)|none=>(.bad,d)
  |none=>if k then(if PY i.toList (aO P e ks n f i)then(.rgd (aO P e ks n f i),d)else if zW (QB i.toList (aO P e ks n f i)) (QZ i.toList (aO P e ks n f i)) i.toList (aO P e ks n f i)then(.rge (wZ (QB i.toList (aO P e ks n f i)) (QZ i.toList (aO P e ks n f i)) 0 (aO P e ks n f i)),d)else(VS P e ks n f i,d))else(.reg (aO P e ks n f i),d)
 |.seq a b,d=>let(x,d):=gD j P e ks n f a d;let(y,d):=gD j P e ks n f b d;(.seq x y,d)|.cond c a b,d=>match sU e c with
  |some l=>let(x,d):=gD j P e ks n f a d;let(y,d):=gD j P e ks n f b d;(.ite l x y,d)|none=>(.bad,d)
 |.block id a,d=>let(x,d):=gD j P e ks n f a d;(.blk id x,d)|.loop a,d=>let(x,m):=gD j P e ks n f a d.tail;(.loop (d.headD []) x,m)|.exit id,d=>(.exit id,d)|.ret,d=>(.ret,d)|.label _,d=>(.skip,d)|.scope a,d=>gD j P e ks n f a d|.rangeFunc g r a b,d=>if j then(match sU e g with
  |some p=>let(x,d):=gD false P e ks n f a d;let(y,d):=gD false P e ks n f b d;(if x.det&&y.det then .rgf p r.toList x y else .bad,d)|none=>(.bad,d))else(.bad,d)|_,d=>(.bad,d)
def bU(P:Program)(b:Gv)(ks:List Nat)(n:Nat)(c:List Nat):Code->List (List Nat)->MC×List (List Nat):=gD true P b ks n c
section
variable{P:Program}{B:Base}{C D:Cx}{h:aA}{w w':World}{G:Gam}{a:Act}
def Cx.cut(C:Cx)(n:Nat):Cx:=⟨C.im,fun l=>if l<n then C.bl l else none,fun l v=>if l<n then C.ar l v else none⟩
theorem YV{d:Cx}{n:Nat}(h:d.Le C)(e:∀l,n<=l->d.bl l=none/\∀v,d.ar l v=none):d.Le (C.cut n):=by
 refine⟨h.im,fun l b x=>?_,fun l v r x=>?_⟩
 ·have:l<n:=by
   rcases lY l n with c|c;·exact c
   ·rw[(e l c).1]at x;cases x
  simp only[Cx.cut,if_pos this];exact h.bl l b x
 ·have:l<n:=by
   rcases lY l n with c|c;·exact c
   ·rw[(e l c).2 v]at x;cases x
  simp only[Cx.cut,if_pos this];exact h.ar l v r x
mutual theorem AL{n:Nat}:∀{v:AV}{u:Value},low n v=true->Rel C v u->Rel (C.cut n) v u
 |.own l L k,u,e,d=>by
  simp only[low,fD]at e;generalize O:k=S at d;cases d with
  |ownnil _ _ h=>exact .ownnil _ _ (by simp only[Cx.cut,if_pos e];exact h)|own _ _ _ r h I=>exact .own _ _ _ r (by simp only[Cx.cut,if_pos e];exact h) I
 |.win l L T k,u,e,d=>by
  simp only[low,fD]at e;cases d with|win _ _ _ _ r h I=>exact .win _ _ _ _ r (by simp only[Cx.cut,if_pos e];exact h) I
 |.ptr l E,u,e,d=>by
  simp only[low,fD]at e;cases d with|ptr _ _ b h=>exact .ptr _ _ b (by simp only[Cx.cut,if_pos e];exact h)
 |.eptr l L i E,u,e,d=>by
  simp only[low,fD]at e;cases d with|eptr _ _ _ _ r h=>exact .eptr _ _ _ _ r (by simp only[Cx.cut,if_pos e];exact h)
 |.map l,u,e,d=>by
  simp only[low,fD]at e;cases d with|map _ b h=>exact .map _ b (by simp only[Cx.cut,if_pos e];exact h)
 |.agg K,u,e,d=>by
  simp only[low]at e;cases d with|agg _ j y h=>exact .agg _ j y (fun i c v p q=>(ES (us:=j.toList) e ⟨by simpa using y,fun i c v p q=>h i c v p (by simpa using q)⟩).2 i c v p (by simpa using q))
 |.tup K,u,e,d=>by
  simp only[low]at e;cases d with|tup _ j y h=>exact .tup _ j y (fun i c v p q=>(ES (us:=j.toList) e ⟨by simpa using y,fun i c v p q=>h i c v p (by simpa using q)⟩).2 i c v p (by simpa using q))
 |.fn f K,u,e,d=>by
  simp only[low]at e;cases d with|fn _ _ j y h=>exact .fn _ _ j y (fun i c v p q=>(ES (us:=j.toList) e ⟨by simpa using y,fun i c v p q=>h i c v p (by simpa using q)⟩).2 i c v p (by simpa using q))
 |.iface t v,u,e,d=>by
  simp only[low]at e;cases d with|iface _ _ x h=>exact .iface _ _ x (AL e h)
 |.mth f v,u,e,d=>by
  simp only[low]at e;cases d with|mth _ _ x h=>exact .mth _ _ x (AL e h)
 |.bool b,u,_,d=>by rw[jG d];exact .bool b|.int k m,u,_,d=>by rw[dK d];exact .int k m|.str s,u,_,d=>by rw[eD d];exact .str s|.sl M,u,_,d=>by cases d with
  |slnil=>exact .slnil|slz a F=>exact .slz a F|sl _ b o F J us A z H h4=>exact .sl _ b o F J us A z H h4
 |.tsl M,u,_,d=>by cases d with
  |tslnil=>exact .tslnil|tslz a=>exact .tslz a|tsl _ b o J us z H h4=>exact .tsl _ b o J us z H h4
 |.nils,u,_,d=>by cases d;exact .nils|.fptr U E,u,_,d=>by cases d with|fptr _ _ b o us A z=>exact .fptr _ _ b o us A z
 |.gptr g E,u,_,d=>by cases d;exact .gptr g E|.nilp,u,_,d=>by cases d;exact .nilp|.nilm,u,_,d=>by cases d;exact .nilm|.nilf,u,_,d=>by cases d;exact .nilf|.nili,u,_,d=>by cases d;exact .nili|.yld l,u,e,d=>by
  simp only[low,fD]at e;cases d with|yld _ b h=>exact .yld _ b (by simp only[Cx.cut,if_pos e];exact h)
 |.junk,u,_,d=>.junk u theorem ES{n:Nat}:∀{j:List AV}{us:List Value},bA n j=true->RelL C j us->RelL (C.cut n) j us
 |[],us,_,h=>by rw[h.inv_nil];exact .nil|a::N,us,e,h=>by
  obtain⟨u,V,rfl,A,z⟩:=h.inv_cons;simp only[bA,bR]at e;exact .cons (AL e.1 A) (ES e.2 z)end
theorem zL9{n:Nat}:∀{fr:List (Nat×AV)}{t:Nat}{x:AV},cQ n fr=true->lkp t fr=some x->low n x=true
 |[],_,_,_,h=>by simp[lkp]at h|(k,v)::r,t,x,b,h=>by
  simp only[cQ,bR]at b;simp only[lkp]at h;split at h;·injection h with h;subst h;exact b.1
  ·exact zL9 b.2 h
theorem ER{n:Nat}:∀{h:aA}{l:Nat}{b:Blk},bG n h=true->h[l]?=some b->gR n b=true
 |[],_,_,_,h=>by simp at h|x::r,l,b,c,h=>by
  simp only[bG,bR]at c;cases l with
  |zero=>simp at h;subst h;exact c.1|succ l=>exact ER c.2 (by simpa using h)
theorem ye2(f:Inv B C h w){n:Nat}(Y:∀l x,B.rc l=some x->l<n)(S:∀l,n<=l->B.cx.bl l=none/\∀v,B.cx.ar l v=none)(T:bG n (h.take n)=true):Inv B (C.cut n) (h.take n) w:=by
 have get:∀(l:Nat)c,(h.take n)[l]?=some c->l<n/\h[l]?=some c:=fun l c j=>by
  rw[fS]at j;split at j;·exact⟨‹_›,j⟩
  ·cases j
 have E:∀(l:Nat)c,l<n->aU (C.cut n) l c=aU C l c:=fun l c d=>by cases c<;>simp[aU,Cx.cut,d]
 refine⟨f.im,f.one,fun l c j=>?_,fun l z c p b g i o h4=>?_,fun l W=>?_,fun l A tg I J H K j v Z=>?_,f.hB,f.low,f.gl,f.tb,fun l x F=>by have:=f.rcl l x F;have:=Y l x F;simp;omega,YV f.cle S⟩
 ·obtain⟨d,u⟩:=get l c j;have k:=f.ok l c u;have y:=ER T j;cases c with
  |cellsT tg vs=>
   obtain⟨b,q,e,g,i,o,h4,h5,t⟩:=k;exact⟨b,q,e,by simp only[Cx.cut,if_pos d];exact g,i,o,h4,ES y h5,t⟩|arrX A tg I J H K=>
   rcases k with⟨k1,k2⟩|⟨r,q,k1,k2,k3,k4,k5,k6,k7,k8,k9⟩;·exact .inl ⟨by simp only[Cx.cut,if_pos d];exact k1,k2⟩
   ·refine .inr ⟨r,q,by simp only[Cx.cut,if_pos d];exact k1,k2,k3,k4,k5,k6,k7,?_,k9⟩;cases A with
    |false=>exact k8|true=>exact ES (zM3 y) k8
  |map es=>
   obtain⟨b,ms,M,g,i⟩:=k;exact⟨b,ms,M,by simp only[Cx.cut,if_pos d];exact g,i⟩|iter s a3=>
   obtain⟨b,g,i⟩:=k;exact⟨b,by simp only[Cx.cut,if_pos d];exact g,i⟩|lp a1 x=>
   obtain⟨b,r,g,i⟩:=k;exact⟨b,r,by simp only[Cx.cut,if_pos d];exact g,i⟩|mit m nn seen a2=>
   obtain⟨b,mo,g,i,o,h4⟩:=k;refine⟨b,mo,by simp only[Cx.cut,if_pos d];exact g,i,o,?_⟩;cases m with
   |none=>exact h4|some m=>
    obtain⟨L,h5,t⟩:=h4;have X:m<n:=by simpa[gR]using y
    exact⟨L,by simp only[Cx.cut,if_pos X];exact h5,t⟩
  |dead=>trivial
 ·obtain⟨U,N⟩:=get l c g;obtain⟨V,O⟩:=get z p i;rw[E l c U]at o;rw[E z p V]at h4;exact f.inj l z c p b N O o h4
 ·by_cases d:l<n
  ·have:h.length<=l:=by simp at W;omega
   have:=f.fr l this;exact⟨by simp only[Cx.cut,if_pos d];exact this.1,fun v=>by simp only[Cx.cut,if_pos d];exact this.2 v⟩
  ·exact⟨by simp only[Cx.cut,if_neg d],fun v=>by simp only[Cx.cut,if_neg d]⟩
 ·obtain⟨d,u⟩:=get l _ j;simp only[Cx.cut,if_pos d];exact f.fv l A tg I J H K u v Z
theorem ZC(b:List Nat)(t:Nat):∀(fr:List (Nat×AV)),lkp t (aY b fr)=(lkp t fr).map fun v=>if b.contains t then .junk else v
 |[]=>rfl|(k,v)::r=>by
  simp only[aY,lkp];by_cases h:t=k;·subst h;simp
  ·simp only[if_neg h];exact ZC b t r
theorem StOK.clear{ks:List Nat}{n:Nat}{env fr:List (Nat×AV)}(b:StOK ks n B C env fr h a w):StOK ks n B C [] fr h a w:=⟨b.inv,fun t x c=>b.rel t x (by
 have d:lkp t fr=some x:=c;have e:=b.keys t x d;have:lkp t env=none:=by cases f:lkp t env with
  |none=>rfl|some y=>have:=b.sep t y f;rw[e]at this;cases this
 simp only[aV,this];exact d),fun t v c=>by simp[lkp]at c,b.keys,b.size⟩
theorem StOK.head{ks:List Nat}{n m:Nat}{env fr:List (Nat×AV)}{e:Cx}(o:StOK ks n B C env fr h a w)(r:∀l x,B.rc l=some x->l<m)(p:∀l,m<=l->B.cx.bl l=none/\∀v,B.cx.ar l v=none)(i:e.Le C)(q:∀l,m<=l->e.bl l=none/\∀v,e.ar l v=none)(d:List Nat):∃D,e.Le D/\StOK ks n B D [] (aY d fr) (nU d m (aY d fr) h) a w:=by
 have f:=o.clear;have c:StOK ks n B C [] (aY d fr) h a w:=⟨f.inv,fun t x b=>by
  have j:lkp t (aY d fr)=some x:=b;rw[ZC]at j;simp only[bS]at j;obtain⟨y,k,rfl⟩:=j;obtain⟨u,k1,k2⟩:=f.rel t y k;refine⟨u,k1,?_⟩;split;·exact .junk u
  ·exact k2,fun t v b=>by simp[lkp]at b,fun t v b=>by
  rw[ZC]at b;simp only[bS]at b;obtain⟨y,k,_⟩:=b;exact o.keys t y k,f.size⟩;unfold nU;split;·exact⟨C,i,c⟩
 unfold trunc;split
 ·rename_i g;simp only[bR]at g;refine⟨C.cut m,YV i q,⟨ye2 c.inv r p g.2,fun t x b=>?_,c.sep,c.keys,c.size⟩⟩;obtain⟨u,k1,k2⟩:=c.rel t x b;exact⟨u,k1,AL (zL9 g.1 b) k2⟩
 ·exact⟨C,i,c⟩
end
section
variable{G:Gam}
def OneOut(T:aS->List (Nat×AV)->List (Nat×AV)->aA->Prop):Prop:=∀(Q:aS)(env fr:List (Nat×AV))(h:aA),T Q env fr h->∃x c d h',Q x c d h'/\∀b:aS,b x c d h'->T b env fr h
def NN(T:aS->List (Nat×AV)->List (Nat×AV)->aA->Prop):Prop:=∀(Q b:aS)(env fr:List (Nat×AV))(h:aA),T Q env fr h->T b env fr h->T (fun x e f h=>Q x e f h/\b x e f h) env fr h
theorem OneOut.mono{T:aS->List (Nat×AV)->List (Nat×AV)->aA->Prop}(d:OneOut T){Q Q':aS}{env fr:List (Nat×AV)}{h:aA}(c:T Q env fr h)(b:∀x env fr h,Q x env fr h->Q' x env fr h):T Q' env fr h:=by
 obtain⟨x,e,f,g,k1,k2⟩:=d Q env fr h c;exact k2 Q' (b _ _ _ _ k1)
theorem zc8{c d:aS->List (Nat×AV)->List (Nat×AV)->aA->Prop}(m:OneOut c)(n:OneOut d){f:List Nat}{fr:List (Nat×AV)}{k:Nat}{e:List AV}{h:aA}{K:MX->aA->Prop}(o:oX c d f fr k e h K):∃x h',K x h'/\h'[k]?=some (.lp false x)/\∀b:MX->aA->Prop,b x h'->oX c d f fr k e h b:=by
 obtain⟨p,q,r⟩:=o;obtain⟨t,u,y,A,k1,k2⟩:=m _ _ _ _ r;cases t with
 |normal=>
  obtain⟨k3,k4⟩:=k1;obtain⟨g,v,z,j,⟨k5,k6⟩,k7⟩:=n _ _ _ _ k4;refine⟨g,j.set k (.lp false g),k6,?_,fun b l=>⟨p,q,k2 _ ⟨k3,k7 _ ⟨k5,l⟩⟩⟩⟩;rw[fL (aF.1 k5).1]|exit i=>exact k1.elim|ret=>exact k1.elim
theorem zW2{b c:aS->List (Nat×AV)->List (Nat×AV)->aA->Prop}(n:OneOut b)(p:OneOut c)(o:NN b)(q:NN c){l:List Nat}{fr:List (Nat×AV)}{k:Nat}{j:List AV}{h:aA}{K m:MX->aA->Prop}(t:oX b c l fr k j h K)(u:oX b c l fr k j h m):oX b c l fr k j h (fun x h=>K x h/\m x h):=by
 obtain⟨v,y,z⟩:=t;obtain⟨_,_,A⟩:=u;refine⟨v,y,n.mono (o _ _ _ _ _ z A) fun x e f E d=>?_⟩;obtain⟨g,r⟩:=d;cases x with
 |normal=>refine⟨g.1,p.mono (q _ _ _ _ _ g.2 r.2) fun x e f F d=>⟨d.1.1,d.1.2,d.2.2⟩⟩|exit i=>exact g.elim|ret=>exact g.elim
theorem zV2{F:RdF}{T:List AV->aA->(MX->aA->Prop)->Prop}{k:Nat}(f:∀{d:List AV}{h:aA}{K:MX->aA->Prop},T d h K->∃x h',K x h'/\h'[k]?=some (.lp false x)/\∀e:MX->aA->Prop,e x h'->T d h e){Q:MX->aA->Prop}:∀(N j:Nat)(h:aA),rgM F T k Q N j h->∃x h',Q x h'/\∀c:MX->aA->Prop,c x h'->rgM F T k c N j h
 |0,_,_,b=>b.elim|N+1,j,h,b=>by
  simp only[rgM]at b⊢;split at b;·exact b.elim
  ·rename_i g n;exact⟨_,_,b.2,fun c k=>⟨b.1,k⟩⟩
  ·rename_i d g n;obtain⟨x,l,k1,k2,k3⟩:=f b;cases x with
   |normal=>
    obtain⟨y,m,k4,k5⟩:=zV2 (F:=F) (T:=T) (k:=k) (Q:=Q) f N (j+1) l k1;exact⟨y,m,k4,fun c k=>k3 _ (k5 c k)⟩|exit i=>exact⟨_,_,k1,fun c k=>k3 _ k⟩|ret=>exact⟨_,_,k1,fun c k=>k3 _ k⟩
theorem zV3{F:RdF}{T:List AV->aA->(MX->aA->Prop)->Prop}{k:Nat}(m:∀{c:List AV}{h:aA}{K:MX->aA->Prop},T c h K->∃x h',K x h'/\h'[k]?=some (.lp false x)/\∀d:MX->aA->Prop,d x h'->T c h d)(l:∀{c:List AV}{h:aA}{K d:MX->aA->Prop},T c h K->T c h d->T c h fun x h=>K x h/\d x h){Q Q':MX->aA->Prop}:∀(N f j:Nat)(h:aA),rgM F T k Q N j h->rgM F T k Q' f j h->rgM F T k (fun x h=>Q x h/\Q' x h) N j h
 |0,_,_,_,b,_=>b.elim|_+1,0,_,_,_,b=>b.elim|N+1,f+1,j,h,b,e=>by
  simp only[rgM]at b e⊢;cases g:F j h with
  |none=>simp only[g]at b|some r=>
   obtain⟨o,p⟩:=r;cases o with
   |none=>
    simp only[g]at b e⊢;exact⟨b.1,b.2,e.2⟩|some c=>
    simp only[g]at b e⊢;obtain⟨x,n,k1,_,k3⟩:=m (l b e);refine k3 _ ?_;cases x with
    |normal=>exact zV3 (F:=F) (T:=T) (k:=k) (Q:=Q) (Q':=Q') m l N f (j+1) n k1.1 k1.2|exit i=>exact k1|ret=>exact k1
theorem MO{u:aA}:∀(d:List ME){Q:List (Nat×AV)->List (Nat×AV)->aA->Prop}{l:jD}{env fr:List (Nat×AV)}{h:aA},jP G u d Q l env fr h->∃q r h',Q q r h'/\∀c:List (Nat×AV)->List (Nat×AV)->aA->Prop,c q r h'->jP G u d c l env fr h
 |[],Q,l,env,fr,h,b=>⟨env,fr,h,b.2,fun _ k=>⟨b.1,k⟩⟩|(e,z,m)::d,Q,l,env,fr,h,b=>by
  simp only[jP]at b⊢;obtain⟨o,b⟩:=b;split at b;·exact b.elim
  ·rename_i v h' y;obtain⟨p,f⟩:=b;cases x:m.dst with
   |none=>
    simp only[x]at f⊢;obtain⟨g,i,j,k1,k2⟩:=MO d f;exact⟨g,i,j,k1,fun c k=>⟨o,p,k2 c k⟩⟩|some t=>
    simp only[x]at f⊢;split at f
    ·rename_i n;obtain⟨g,i,j,k1,k2⟩:=MO d f;exact⟨g,i,j,k1,fun c k=>⟨o,p,by rw[if_pos n];exact k2 c k⟩⟩
    ·rename_i n;obtain⟨g,i,j,k1,k2⟩:=MO d f;exact⟨g,i,j,k1,fun c k=>⟨o,p,by rw[if_neg n];exact k2 c k⟩⟩
theorem TH{l:aA}:∀(d:List ME){Q k:List (Nat×AV)->List (Nat×AV)->aA->Prop}{j:jD}{env fr:List (Nat×AV)}{h:aA},jP G l d Q j env fr h->jP G l d k j env fr h->jP G l d (fun e f h=>Q e f h/\k e f h) j env fr h
 |[],Q,k,j,env,fr,h,b,c=>⟨b.1,b.2,c.2⟩|(e,r,m)::d,Q,k,j,env,fr,h,b,c=>by
  simp only[jP]at b c⊢;obtain⟨q,b⟩:=b;replace c:=c.2;split at b;·exact b.elim
  ·rename_i v h' p;simp only[p]at c;refine⟨q,b.1,?_⟩;obtain⟨_,i⟩:=b;obtain⟨_,g⟩:=c;cases o:m.dst with
   |none=>simp only[o]at i g⊢;exact TH d i g|some t=>
    simp only[o]at i g⊢;split at i;·rename_i n;rw[if_pos n]at g⊢;exact TH d i g
    ·rename_i n;rw[if_neg n]at g⊢;exact TH d i g
abbrev mK:=MX×List (Nat×AV)×List (Nat×AV)×aA
def FinP{b:Type}(S:(b->Prop)->Prop):Prop:=∀Q:b->Prop,S Q->∃L:List b,(∀o∈L,Q o)/\∀c:b->Prop,(∀o∈L,c o)->S c
def Un(Q:mK->Prop):aS:=fun x e f h=>Q (x,e,f,h)
theorem FinP.mono{b:Type}{S:(b->Prop)->Prop}(i:FinP S){Q Q':b->Prop}(g:S Q)(e:∀o,Q o->Q' o):S Q':=by
 obtain⟨L,c,d⟩:=i Q g;exact d Q' fun o f=>e o (c o f)
theorem fin_at{c:Type}(o:c):FinP fun Q=>Q o:=fun Q b=>⟨[o],by simpa using b,fun d h=>h o (by simp)⟩
theorem kR{c:Type}:FinP fun _:c->Prop=>False:=fun _Q b=>b.elim
theorem KF{g:Type}{p:Prop}{S:(g->Prop)->Prop}(f:FinP S):FinP fun Q=>p/\S Q:=fun Q b=>by
 obtain⟨L,d,e⟩:=f Q b.2;exact⟨L,d,fun c h=>⟨b.1,e c h⟩⟩
theorem XR{t j:Type}{K:j->(t->Prop)->Prop}(g:∀b,FinP (K b)):∀l:List j,FinP fun Q=>∀b∈l,K b Q
 |[],Q,_=>⟨[],by simp,fun f _ b r=>by simp at r⟩|b::l,Q,i=>by
  obtain⟨k,n,p⟩:=g b Q (i b (by simp));obtain⟨m,q,h4⟩:=XR g l Q fun c e=>i c (by simp[e]);refine⟨k++m,fun o d=>?_,fun f h c e=>?_⟩
  ·rcases iK.1 d with d|d;·exact n o d
   ·exact q o d
  ·rcases dD.1 e with rfl|e;·exact p f fun o d=>h o (by simp[d])
   ·exact h4 f (fun o d=>h o (by simp[d])) c e
theorem yJ4{m:Type}{S T:(m->Prop)->Prop}(k:FinP S)(l:FinP T):FinP fun Q=>S Q/\T Q:=fun Q d=>by
 obtain⟨e,g,i⟩:=k Q d.1;obtain⟨f,j,h4⟩:=l Q d.2;refine⟨e++f,fun o b=>?_,fun c h=>⟨i c fun o b=>h o (by simp[b]),h4 c fun o b=>h o (by simp[b])⟩⟩;rcases iK.1 b with b|b;·exact g o b
 ·exact j o b
theorem AA{m c:Type}{S:(c->Prop)->Prop}{K:c->(m->Prop)->Prop}(l:FinP S)(j:∀b,FinP (K b)):FinP fun Q=>S fun b=>K b Q:=fun Q k=>by
 obtain⟨d,f,g⟩:=l _ k;obtain⟨L,i,h4⟩:=XR j d Q f;exact⟨L,i,fun e h=>g _ (h4 e h)⟩
theorem zw6{g:Type}{S:Nat->(g->Prop)->Prop}(f:∀N,FinP (S N)):FinP fun Q=>∃N,S N Q:=fun Q b=>by
 obtain⟨N,b⟩:=b;obtain⟨L,d,e⟩:=f N Q b;exact⟨L,d,fun c h=>⟨N,e c h⟩⟩
abbrev FinT(T:aS->List (Nat×AV)->List (Nat×AV)->aA->Prop):Prop:=∀env fr h,FinP fun Q:mK->Prop=>T (Un Q) env fr h
theorem FinT.mono{T:aS->List (Nat×AV)->List (Nat×AV)->aA->Prop}(d:FinT T){Q Q':aS}{env fr:List (Nat×AV)}{h:aA}(c:T Q env fr h)(b:∀x env fr h,Q x env fr h->Q' x env fr h):T Q' env fr h:=FinP.mono (d env fr h) (Q:=fun o=>Q o.1 o.2.1 o.2.2.1 o.2.2.2) (Q':=fun o=>Q' o.1 o.2.1 o.2.2.1 o.2.2.2) c fun _o=>b _ _ _ _
theorem zW5{T:aS->List (Nat×AV)->List (Nat×AV)->aA->Prop}(c:FinT T){b:List Nat}{n:Nat}:∀N,FinT fun Q=>gS T b n Q N
 |0=>fun _ _ _=>kR|N+1=>fun env fr h=>by
  have:=AA (K:=fun(o:mK)(Q:mK->Prop)=>oY (fun _ env fr h=>gS T b n (Un Q) N env fr h) (Un Q) o.1 o.2.1 o.2.2.1 o.2.2.2) (c [] (aY b fr) (nU b n (aY b fr) h)) fun o=>by
   obtain⟨x,e,f,h⟩:=o;cases x with
   |normal=>exact zW5 c N e f h|exit i=>exact fin_at (MX.exit i,e,f,h)|ret=>exact fin_at (MX.ret,e,f,h)
  exact this
theorem zc9{T:aS->List (Nat×AV)->List (Nat×AV)->aA->Prop}(g:FinT T){d:List Nat}{n:Nat}{Q:aS}:∀(N M:Nat)(env fr:List (Nat×AV))(h:aA),N<=M->gS T d n Q N env fr h->gS T d n Q M env fr h
 |0,_,_,_,_,_,b=>b.elim|N+1,0,_,_,_,j,_=>by omega|N+1,M+1,env,fr,h,j,b=>by
  simp only[gS]at b⊢;refine g.mono b fun x e f h c=>?_;cases x with
  |normal=>exact zc9 g N M e f h (by omega) c|exit i=>exact c|ret=>exact c
theorem xn7{c b:aS->List (Nat×AV)->List (Nat×AV)->aA->Prop}(l:FinT c)(m:FinT b){j:List Nat}{fr:List (Nat×AV)}{k:Nat}{d:List AV}{h:aA}:FinP fun Q:MX×aA->Prop=>oX c b j fr k d h fun x h=>Q (x,h):=by
 refine KF (KF ?_);refine AA (K:=fun(o:mK)(Q:MX×aA->Prop)=>match o.1 with
  |.normal=>o.2.2.2[k]?=some (.lp false .normal)/\b (fun x _ _ g=>g[k]?=some (.lp true .normal)/\Q (x,g.set k (.lp false x))) [] o.2.2.1 (o.2.2.2.set k (.lp true .normal))|_=>False) (l [] (nQ j d fr) h) fun o=>?_;obtain⟨x,e,f,h⟩:=o;cases x with
 |normal=>
  refine KF ?_;exact AA (K:=fun(o:mK)(Q:MX×aA->Prop)=>o.2.2.2[k]?=some (.lp true .normal)/\Q (o.1,o.2.2.2.set k (.lp false o.1))) (m [] f (h.set k (.lp true .normal))) fun o=>KF (fin_at _)|exit i=>exact kR|ret=>exact kR
theorem zV4{F:RdF}{T:List AV->aA->(MX->aA->Prop)->Prop}{k:Nat}(c:∀b h,FinP fun Q:MX×aA->Prop=>T b h fun x h=>Q (x,h)):∀(N j:Nat)(h:aA),FinP fun Q:MX×aA->Prop=>rgM F T k (fun x h=>Q (x,h)) N j h
 |0,_,_=>kR|N+1,j,h=>by
  simp only[rgM];cases F j h with
  |none=>exact kR|some r=>
   obtain⟨o,d⟩:=r;cases o with
   |none=>exact KF (fin_at _)|some b=>
    refine AA (K:=fun(o:MX×aA)(Q:MX×aA->Prop)=>match o.1 with
     |.normal=>rgM F T k (fun x h=>Q (x,h)) N (j+1) o.2|x=>Q (x,o.2.set k .dead)) (c b d) fun o=>?_;obtain⟨x,e⟩:=o;cases x with
    |normal=>exact zV4 c N (j+1) e|exit i=>exact fin_at _|ret=>exact fin_at _
theorem xo9{i:aA}:∀(b:List ME){c:jD}{env fr:List (Nat×AV)}{h:aA},FinP fun Q:mK->Prop=>jP G i b (fun e f h=>Q (.normal,e,f,h)) c env fr h:=fun b c env fr h Q k=>by
 obtain⟨d,g,j,k1,k2⟩:=MO b k;exact⟨[(.normal,d,g,j)],by simpa using k1,fun l h=>k2 _ (h _ (by simp))⟩
theorem nW:∀a:MC,FinT (wpM G a)
 |.skip=>fun env fr h=>fin_at (MX.normal,env,fr,h)|.reg d=>fun env fr h=>by
  simp only[wpM];cases run G false d (.ok [] fr h)with
  |ok e f h=>exact fin_at (MX.normal,e,f,h)|bad=>exact kR
 |.rgd d=>fun env fr h=>by
  simp only[wpM];cases run G true d (.ok [] fr h)with
  |ok e f h=>exact fin_at (MX.normal,e,f,h)|bad=>exact kR
 |.rge d=>fun env fr h=>xo9 d|.seq a b=>fun env fr h=>by
  refine AA (K:=fun(o:mK)(Q:mK->Prop)=>oY (fun _ env fr h=>wpM G b (Un Q) env fr h) (Un Q) o.1 o.2.1 o.2.2.1 o.2.2.2) (nW a env fr h) fun o=>?_;obtain⟨x,e,f,h⟩:=o;cases x with
  |normal=>exact nW b e f h|exit i=>exact fin_at (MX.exit i,e,f,h)|ret=>exact fin_at (MX.ret,e,f,h)
 |.ite c a b=>fun env fr h=>by
  simp only[wpM];cases q:gO (aV env fr) c with
  |none=>exact kR|some v=>
   cases v<;>first|exact kR|skip
   rename_i t;cases t with
   |true=>simp only[aM];exact nW a env fr h|false=>simp only[bM,bH];exact nW b env fr h
 |.blk id a=>fun env fr h=>by
  refine AA (K:=fun(o:mK)(Q:mK->Prop)=>oL id (Un Q) o.1 o.2.1 o.2.2.1 o.2.2.2) (nW a env fr h) fun o=>?_;obtain⟨x,e,f,h⟩:=o;cases x with
  |normal=>exact fin_at (MX.normal,e,f,h)|exit i=>
   simp only[oL];split;·exact fin_at (MX.normal,e,f,h)
   ·exact fin_at (MX.exit i,e,f,h)|ret=>exact fin_at (MX.ret,e,f,h)
 |.loop E a=>fun env fr h=>zw6 fun N=>zW5 (nW a) N env fr h|.exit id=>fun env fr h=>fin_at (MX.exit id,env,fr,h)|.ret=>fun env fr h=>fin_at (MX.ret,env,fr,h)|.rgf g I a b=>fun env fr h=>by
  simp only[wpM];cases q:gO (aV env fr) g with
  |none=>exact kR|some v=>
   cases v<;>first|exact kR|skip
   rename_i f A;dsimp only;cases H:G.fn f with
   |none=>exact kR|some c=>
    cases c<;>first|exact kR|skip
    rename_i F;refine zw6 fun N=>?_;exact AA (K:=fun(o:MX×aA)(Q:mK->Prop)=>Q (o.1,env,fr,o.2)) (zV4 (fun z h=>xn7 (nW a) (nW b)) N 0 _) fun o=>fin_at _
 |.rgn g k p d=>fun env fr h=>by
  simp only[wpM];cases q:gO (aV [] fr) g with
  |none=>exact kR|some v=>
   cases v<;>first|exact kR|skip
   rename_i l y;cases y with
   |succ _=>exact kR|zero=>
    have u:FinP (fun Q:mK->Prop=>match iG h l with
     |some j=>∀r∈j,match run G false d (iD k p [] fr (some r))with
      |.ok m n h'=>Q (.normal,m,n,h')|.bad=>False
     |none=>False):=by cases iG h l with
     |none=>exact kR|some j=>
      refine XR (K:=fun(r:AV×aA)(Q:mK->Prop)=>match run G false d (iD k p [] fr (some r))with
       |.ok m n h'=>Q (.normal,m,n,h')|.bad=>False) (fun r=>?_) j;cases run G false d (iD k p [] fr (some r))with
      |ok e f h=>exact fin_at (MX.normal,e,f,h)|bad=>exact kR
    exact u
 |.both a b=>fun env fr h=>yJ4 (nW a env fr h) (nW b env fr h)|.bad=>fun _ _ _=>kR
theorem yg0{a:MC}{Q b:aS}{env fr:List (Nat×AV)}{h:aA}(d:wpM G a Q env fr h)(c:∀x env fr h,Q x env fr h->b x env fr h):wpM G a b env fr h:=(nW a).mono d c
theorem vV:∀(a:MC)(_:a.det=true){Q:aS}{env fr:List (Nat×AV)}{h:aA},wpM G a Q env fr h->∃x u v h',Q x u v h'/\∀j:aS,j x u v h'->wpM G a j env fr h
 |.skip,_,Q,env,fr,h,d=>⟨_,_,_,_,d,fun _ k=>k⟩|.reg A,_,Q,env,fr,h,d=>by
  simp only[wpM]at d⊢;split at d;·rename_i r;exact⟨_,_,_,_,d,fun j k=>k⟩
  ·exact d.elim|.rgd A,_,Q,env,fr,h,d=>by
  simp only[wpM]at d⊢;split at d;·rename_i r;exact⟨_,_,_,_,d,fun j k=>k⟩
  ·exact d.elim|.rge A,_,Q,env,fr,h,d=>by
  obtain⟨n,o,p,k1,k2⟩:=MO A d;exact⟨.normal,n,o,p,k1,fun j k=>k2 (fun e f h=>j .normal e f h) k⟩|.seq a b,l,Q,env,fr,h,d=>by
  simp only[MC.det,bR]at l;simp only[wpM]at d⊢;obtain⟨x,n,o,p,k1,k2⟩:=vV a l.1 d;cases x with
  |normal=>
   obtain⟨y,E,H,I,k3,k4⟩:=vV b l.2 k1;exact⟨y,E,H,I,k3,fun j k=>k2 _ (k4 j k)⟩|exit i=>exact⟨.exit i,n,o,p,k1,fun j k=>k2 _ k⟩|ret=>exact⟨.ret,n,o,p,k1,fun j k=>k2 _ k⟩
 |.ite c a b,l,Q,env,fr,h,d=>by
  simp only[MC.det,bR]at l;simp only[wpM]at d⊢;split at d
  ·rename_i t K;cases t with
   |true=>
    simp only[aM]at d;obtain⟨x,n,o,p,k1,k2⟩:=vV a l.1 d;exact⟨x,n,o,p,k1,fun j k=>by simpa[K]using k2 j k⟩|false=>
    simp only[bM,bH]at d;obtain⟨x,n,o,p,k1,k2⟩:=vV b l.2 d;exact⟨x,n,o,p,k1,fun j k=>by simpa[K]using k2 j k⟩
  ·exact d.elim|.blk id a,l,Q,env,fr,h,d=>by
  simp only[wpM]at d⊢;obtain⟨x,n,o,p,k1,k2⟩:=vV a l d;cases x with
  |normal=>exact⟨.normal,n,o,p,k1,fun j k=>k2 _ k⟩|exit i=>
   simp only[oL]at k1;by_cases z:i=id;·rw[if_pos z]at k1;exact⟨.normal,n,o,p,k1,fun j k=>k2 _ (by simp only[oL];rw[if_pos z];exact k)⟩
   ·rw[if_neg z]at k1;exact⟨.exit i,n,o,p,k1,fun j k=>k2 _ (by simp only[oL];rw[if_neg z];exact k)⟩|ret=>exact⟨.ret,n,o,p,k1,fun j k=>k2 _ k⟩
 |.loop J a,l,Q,env,fr,h,d=>by
  simp only[wpM]at d⊢;obtain⟨N,r⟩:=d;generalize h.length=m at r⊢;have M:∀(N:Nat)(env fr:List (Nat×AV))(h:aA),gS (wpM G a) J m Q N env fr h->∃x u v h',Q x u v h'/\∀j:aS,j x u v h'->gS (wpM G a) J m j N env fr h:=by
   intro N;induction N with
   |zero=>intro env fr h r;exact r.elim|succ N L=>
    intro env fr h r;simp only[gS]at r⊢;obtain⟨x,n,o,p,k1,k2⟩:=vV a l r;cases x with
    |normal=>
     obtain⟨y,E,H,I,k3,k4⟩:=L _ _ _ k1;exact⟨y,E,H,I,k3,fun j k=>k2 _ (k4 j k)⟩|exit i=>exact⟨.exit i,n,o,p,k1,fun j k=>k2 _ k⟩|ret=>exact⟨.ret,n,o,p,k1,fun j k=>k2 _ k⟩
  obtain⟨x,n,o,p,k1,k2⟩:=M N env fr h r;exact⟨x,n,o,p,k1,fun j k=>⟨N,k2 j k⟩⟩|.exit id,_,Q,env,fr,h,d=>⟨_,_,_,_,d,fun _ k=>k⟩|.ret,_,Q,env,fr,h,d=>⟨_,_,_,_,d,fun _ k=>k⟩|.rgf g O a b,l,Q,env,fr,h,d=>by
  simp only[MC.det,bR]at l;simp only[wpM]at d⊢;split at d
  ·rename_i f S V;split at d
   ·rename_i F U;obtain⟨N,r⟩:=d;obtain⟨x,h',k1,k2⟩:=zV2 (T:=oX (wpM G a) (wpM G b) O fr h.length) (Q:=fun x h=>Q x env fr h) (fun d=>zc8 (fun _ _ _ _ q=>vV a l.1 q) (fun _ _ _ _ q=>vV b l.2 q) d) N 0 _ r;exact⟨x,env,fr,h',k1,fun j k=>⟨N,k2 (fun x h=>j x env fr h) k⟩⟩
   ·exact d.elim
  ·exact d.elim|.rgn g T W A,l,Q,env,fr,h,d=>by simp[MC.det]at l|.both a b,l,Q,env,fr,h,d=>by simp[MC.det]at l|.bad,_,Q,env,fr,h,d=>d.elim
theorem vW(a:MC)(b:a.det=true):OneOut (wpM G a):=fun _ _ _ _ q=>vV a b q
theorem zW3{T:aS->List (Nat×AV)->List (Nat×AV)->aA->Prop}(m:OneOut T)(k:NN T){g:List Nat}{n:Nat}{Q j:aS}:∀(N d:Nat)(env fr:List (Nat×AV))(h:aA),gS T g n Q N env fr h->gS T g n j d env fr h->gS T g n (fun x e f h=>Q x e f h/\j x e f h) N env fr h
 |0,_,_,_,_,b,_=>b.elim|_+1,0,_,_,_,_,b=>b.elim|N+1,d+1,env,fr,h,b,l=>by
  simp only[gS]at b l⊢;refine m.mono (k _ _ _ _ _ b l) fun x e f h c=>?_;cases x with
  |normal=>exact zW3 m k N d e f h c.1 c.2|exit i=>exact c|ret=>exact c
theorem tW:∀(a:MC)(_:a.det=true),NN (wpM G a)
 |.skip,_=>fun Q l env fr h d j=>⟨d,j⟩|.reg q,_=>fun Q l env fr h d j=>by
  simp only[wpM]at d j⊢;split at d;·rename_i n;rw[n]at j;exact⟨d,j⟩
  ·exact d.elim|.rgd q,_=>fun Q l env fr h d j=>by
  simp only[wpM]at d j⊢;split at d;·rename_i n;rw[n]at j;exact⟨d,j⟩
  ·exact d.elim|.rge q,_=>fun Q l env fr h d j=>TH q d j|.seq a b,k=>fun Q l env fr h d j=>by
  simp only[MC.det,bR]at k;simp only[wpM]at d j⊢;refine yg0 (tW a k.1 _ _ _ _ _ d j) fun x e f h m=>?_;cases x with
  |normal=>exact tW b k.2 _ _ _ _ _ m.1 m.2|exit i=>exact m|ret=>exact m
 |.ite c a b,k=>fun Q l env fr h d j=>by
  simp only[MC.det,bR]at k;simp only[wpM]at d j⊢;split at d
  ·rename_i t A;simp only[A]at j;cases t with
   |true=>simp only[aM]at d j⊢;exact tW a k.1 _ _ _ _ _ d j|false=>simp only[bM,bH]at d j⊢;exact tW b k.2 _ _ _ _ _ d j
  ·exact d.elim|.blk id a,k=>fun Q l env fr h d j=>by
  simp only[wpM]at d j⊢;refine yg0 (tW a k _ _ _ _ _ d j) fun x e f h m=>?_;cases x with
  |normal=>exact m|exit i=>
   obtain⟨o,p⟩:=m;simp only[oL]at o p⊢;by_cases v:i=id;·rw[if_pos v]at o p⊢;exact⟨o,p⟩
   ·rw[if_neg v]at o p⊢;exact⟨o,p⟩|ret=>exact m
 |.loop I a,k=>fun Q l env fr h d j=>by
  simp only[wpM]at d j⊢;obtain⟨N,n⟩:=d;obtain⟨r,u⟩:=j;exact⟨N,zW3 (vW a k) (tW a k) N r _ _ _ n u⟩|.exit id,_=>fun Q l env fr h d j=>⟨d,j⟩|.ret,_=>fun Q l env fr h d j=>⟨d,j⟩|.rgf g E a b,k=>fun Q l env fr h d j=>by
  simp only[MC.det,bR]at k;simp only[wpM]at d j⊢;split at d
  ·rename_i f H z;split at d
   ·rename_i F y;try rw[z]at j
    try simp only[y]at j
    obtain⟨N,n⟩:=d;obtain⟨r,u⟩:=j;exact⟨N,zV3 (T:=oX (wpM G a) (wpM G b) E fr h.length) (Q:=fun x h=>Q x env fr h) (Q':=fun x h=>l x env fr h) (fun d=>zc8 (vW a k.1) (vW b k.2) d) (fun d j=>zW2 (vW a k.1) (vW b k.2) (tW a k.1) (tW b k.2) d j) N r 0 _ n u⟩
   ·exact d.elim
  ·exact d.elim|.rgn g J K q,k=>by simp[MC.det]at k|.both a b,k=>by simp[MC.det]at k|.bad,_=>fun Q l env fr h d j=>d.elim
end
def MX.is:MX->Exit->Prop
 |.normal,.normal=>True|.exit i,.exit j=>i=j|.ret,.ret=>True|_,_=>False
def MX.nrm:MX->Bool
 |.normal=>true|_=>false
def mark(D:Nat):Deferred:={target:=.collected D,args:=#[]}
structure Marks(w0:World)(Ds:List Nat)(w:World):Prop where
 nodup:Ds.Nodup
 there:∀D∈Ds,w0.heap.size<=D/\w.heap[D]?=some (.deferred (some []))
structure Way(B:Base)(C0:Cx)(w0:World)(d:List Deferred)(C:Cx)(a:Act)(w:World):Prop where
 le:C0.Le C
 keep:Keep B w0 w
 ds:∃Ds,a.defers=Ds.map mark++d/\Marks w0 Ds w
theorem Way.step{B:Base}{c C D:Cx}{g w w':World}{d:List Deferred}{a a':Act}(h:Way B c g d C a w)(l:C.Le D)(f:Keep B w w')(k:a'.defers=a.defers):Way B c g d D a' w':=by
 obtain⟨i,j,b⟩:=h.ds;exact⟨h.le.trans l,h.keep.trans f,i,k.trans j,b.nodup,fun D e=>⟨(b.there D e).1,f.sys _ _ (b.there D e).2⟩⟩
theorem Way.start{B:Base}{C:Cx}{w:World}{d:List Deferred}{a:Act}(c:a.defers=d):Way B C w d C a w:=⟨.refl _,.refl _ _,[],by simpa using c,List.nodup_nil,fun D b=>by cases b⟩
def OH(ks:List Nat)(n:Nat)(B:Base)(b:Cx)(c:World)(d:List Deferred)(Q:aS)(e:Exit)(a:Act)(w:World):Prop:=∃x env fr h C,MX.is x e/\Q x env fr h/\StOK ks n B C env fr h a w/\Way B b c d C a w
section
variable{P:Program}{B:Base}{C D:Cx}{h:aA}{w w':World}{G:Gam}{a:Act}
def Base.withRc(B:Base)(l b:Nat)(r:Loop)(C:Cx):Base:={B with rc:=fun k=>if k=l then some (b,r)else B.rc k,cx:=C}
theorem zM6(r:Loop)(b:r.state=.ready)(c:r.pending=none):({r with state:=xI false .normal,pending:=MX.normal.code}:Loop)=r:=by cases r;simp only at b c;subst b c;rfl
theorem yV1(d:Inv B C (h++[.dead]) w){b:Nat}{r:Loop}(y:C.bl h.length=some b)(L:B<=b)(M:w.heap[b]?=some (.loop r))(J:r.state=.ready)(K:r.pending=none)(N:∀l x,B.rc l=some x->l<h.length)(z:∀(l:Nat)v,h[l]?=some v->aU C l v≠some b):Inv (B.withRc h.length b r C) C (h++[.lp false .normal]) w:=by
 have m:∀(l:Nat)k,(h++[Blk.lp false .normal])[l]?=some k->(l<h.length/\h[l]?=some k/\(h++[.dead])[l]?=some k)\/(l=h.length/\k=.lp false .normal):=by
  intro l k c;by_cases j:l<h.length;·rw[aX j]at c;exact .inl ⟨j,c,by rw[aX j];exact c⟩
  ·rw[dY (by omega)]at c;have:l-h.length=0:=by
    rcases DF (l-h.length)with e|e;·exact e
    ·rw[lX (by simp;omega)]at c;cases c
   rw[this]at c;simp at c;exact .inr ⟨by omega,c.symm⟩
 have A:aU C h.length (.lp false .normal)=some b:=by simp[aU,y]
 refine⟨d.im,d.one,fun l k c=>?_,fun l t k q o H I f g=>?_,fun l j=>d.fr l (by simpa using j),fun l S tg Z c2 Y wr c c1 O=>?_,d.hB,d.low,d.gl,d.tb,fun l x p=>?_,.refl _⟩
 ·rcases m l k c with⟨u,n,i⟩|⟨rfl,rfl⟩
  ·have:=d.ok l k i;cases k with
   |lp bz x=>
    obtain⟨o,X,T,U,V,W⟩:=this;exact⟨o,X,T,U,by simp only[Base.withRc];rw[if_neg (by omega)];exact V,W⟩|_=>exact this
  ·exact⟨b,r,y,L,by simp[Base.withRc],by rw[zM6 r J K];exact M⟩
 ·rcases m l k H with⟨u,n,i⟩|⟨rfl,rfl⟩<;>rcases m t q I with⟨b1,E,F⟩|⟨rfl,rfl⟩;·exact d.inj l t k q o i F f g
  ·rw[A]at g;injection g with g;subst g;exact absurd f (z l k n)
  ·rw[A]at f;injection f with f;subst f;exact absurd g (z t q E)
  ·rfl
 ·rcases m l _ c with⟨u,n,i⟩|⟨_,e⟩;·exact d.fv l S tg Z c2 Y wr i c1 O
  ·cases e
 ·simp only[Base.withRc]at p;split at p;·rename_i e;subst e;simp
  ·have:=N l x p;simp;omega
theorem yV0{l b:Nat}{r:Loop}{j:Cx}(c:Inv (B.withRc l b r j) C h w)(i:h[l]?=some .dead)(n:B.cx.Le C):Inv B C h w:=by
 refine⟨c.im,c.one,fun k g d=>?_,c.inj,c.fr,c.fv,c.hB,c.low,c.gl,c.tb,fun k x p=>?_,n⟩
 ·have:=c.ok k g d;cases g with
  |lp y x=>
   obtain⟨m,v,q,t,f,u⟩:=this;have o:k≠l:=fun e=>by subst e;rw[i]at d;cases d
   simp only[Base.withRc]at f;rw[if_neg o]at f;exact⟨m,v,q,t,f,u⟩|_=>exact this
 ·by_cases e:k=l;·subst e;exact(aF.1 i).1
  ·exact c.rcl k x (by simp only[Base.withRc];rw[if_neg e];exact p)
theorem zM7(p:Inv B C h w){l b:Nat}{u:Bool}{x:MX}{r:Loop}(q:h[l]?=some (.lp u x))(g:C.bl l=some b)(t:B.rc l=some (b,r))(k:Bool)(i:MX):Inv B C (h.set l (.lp k i)) (World.put w b (.loop {r with state:=xI k i,pending:=i.code}))/\Keep B w (World.put w b (.loop {r with state:=xI k i,pending:=i.code})):=by
 obtain⟨y,z,j,m,d,n⟩:=p.ok l _ q;rw[g]at j;injection j with j;subst j;rw[t]at d;injection d with d;injection d with _ d;subst d;exact⟨tU p q g (by simp[aU,g]) n (fun c e f=>by simp) m ⟨b,r,g,m,t,vK n⟩ (fun v o=>by simp[aU,g]at o;exact o.symm) (fun _ _ _ _=>by simp),tN m n (fun c=>by simp)⟩
theorem yY3(i:Inv B C h w){l b:Nat}{n:Bool}{x:MX}{r:Loop}(j:h[l]?=some (.lp n x))(g:C.bl l=some b)(_hr:B.rc l=some (b,r))(o:Loop):Inv B C (h.set l .dead) (World.put w b (.loop o))/\Keep B w (World.put w b (.loop o)):=by
 obtain⟨t,v,d,k,u,m⟩:=i.ok l _ j;rw[g]at d;injection d with d;subst d;exact⟨tU i j g (by simp[aU,g]) m (fun c e f=>by simp) k trivial (fun q p=>by simp[aU]at p) (fun _ _ _ _=>by simp),tN k m (fun c=>by simp)⟩
theorem RY(e:Inv B C h w){l b:Nat}{d:Bool}{x:MX}{r:Loop}(f:h[l]?=some (.lp d x))(g:B.rc l=some (b,r)):C.bl l=some b/\B<=b/\w.heap[b]?=some (.loop {r with state:=xI d x,pending:=x.code}):=by
 obtain⟨n,o,i,j,c,k⟩:=e.ok l _ f;rw[g]at c;injection c with c;injection c with m c;subst m c;exact⟨i,j,k⟩
theorem zT3:∀(b:List Nat)(c:List AV)(fr:List (Nat×AV))(t:Nat),(lkp t (nQ b c fr)).isSome=(lkp t fr).isSome
 |[],c,fr,t=>by simp[nQ]|p::b,[],fr,t=>by simp[nQ]|p::b,v::c,fr,t=>by
  simp only[nQ,zT3 b c,EQ];by_cases e:t=p;·simp[e]
  ·simp[e]
def OI(C:Cx)(fr:List (Nat×AV))(b:Array Value):Prop:=∀t x,lkp t fr=some x->∃u,b[t]?=some u/\Rel C x u
theorem zT5:∀(f:List Nat)(i:List AV)(c:List Value)(fr:List (Nat×AV))(g:Array Value),RelL C i c->OI C fr g->OI C (nQ f i fr) ((f.zip c).foldl (fun t q=>t.setIfInBounds q.1 q.2) g)
 |[],i,c,fr,g,_,b=>by simpa[nQ]using b|p::f,[],c,fr,g,j,b=>by cases c with
  |nil=>simpa[nQ]using b|cons _ _=>simp[RelL]at j
 |p::f,v::i,c,fr,g,j,b=>by
  obtain⟨u,r,rfl,m,n⟩:=j.inv_cons;simp only[nQ,List.zip_cons_cons,List.foldl_cons];refine zT5 f i r _ _ n fun t x d=>?_;rw[EQ]at d;by_cases e:t=p
  ·subst e;simp only[aM,bS]at d;obtain⟨y,o,rfl⟩:=d;obtain⟨z,l,_⟩:=b t y o;exact⟨u,by simp[(lL.1 l).1],m⟩
  ·rw[if_neg e]at d;obtain⟨z,l,k⟩:=b t x d;exact⟨z,by rw[VR (fun q=>e q.symm)];exact l,k⟩
theorem fold_size:∀(l:List (Nat×Value))(b:Array Value),(l.foldl (fun t q=>t.setIfInBounds q.1 q.2) b).size=b.size
 |[],_=>rfl|q::l,b=>by simp[List.foldl_cons,fold_size l]
theorem xn9{ks:List Nat}{n:Nat}{env fr:List (Nat×AV)}{g:aA}{j:World}(e:StOK ks n B C env fr h a w)(r:C.Le D){f:Base}(o:Inv f D g j){ps:Array Tmp}{d:List AV}{c:Array Value}(z:RelL D d c.toList):StOK ks n f D [] (nQ ps.toList d fr) g {tmps:=(ps.zip c).foldl (fun t(p,v)=>t.setIfInBounds p v) a.tmps,defers:=[]} j:=by
 have l:OI C fr a.tmps:=fun t x b=>by
  have k:=e.clear.rel t x (show lkp t fr=some x from b);exact k
 have m:OI D fr a.tmps:=fun t x b=>let⟨u,k1,k2⟩:=l t x b;⟨u,k1,k2.mono r⟩;have i:(ps.zip c).foldl (fun t(p,v)=>t.setIfInBounds p v) a.tmps=(ps.toList.zip c.toList).foldl (fun t q=>t.setIfInBounds q.1 q.2) a.tmps:=by rw[<-Array.foldl_toList,Array.toList_zip]
 refine⟨o,fun t x b=>?_,fun t v b=>by simp[lkp]at b,fun t v b=>?_,?_⟩
 ·have A:lkp t (nQ ps.toList d fr)=some x:=b;show∃u,((ps.zip c).foldl (fun t(p,v)=>t.setIfInBounds p v) a.tmps)[t]?=some u/\Rel D x u;rw[i];exact zT5 ps.toList d c.toList fr a.tmps z m t x A
 ·have:(lkp t fr).isSome=true:=by rw[<-zT3 ps.toList d fr t,b];rfl
  obtain⟨y,E⟩:=Option.isSome_iff_exists.1 this;exact e.keys t y E
 ·show n<=((ps.zip c).foldl (fun t(p,v)=>t.setIfInBounds p v) a.tmps).size;rw[i,fold_size];exact e.size
theorem xH0{T:List AV->aA->(MX->aA->Prop)->Prop}(k0:Nat)(m:∀{b:List AV}{h:aA}{K:MX->aA->Prop},T b h K->∃x h',K x h'/\h'[k0]?=some (.lp false x)/\∀f:MX->aA->Prop,f x h'->T b h f)(n:∀{b:List AV}{h:aA}{K f:MX->aA->Prop},T b h K->T b h f->T b h fun x h=>K x h/\f x h):∃Y:Nat->List AV->aA->Option (AV×aA),(∀k b h v h',Y k b h=some (v,h')->k=k0/\∃x,v=.bool x.nrm/\T b h (fun d c=>d=x/\c=h'))/\(∀b h K,T b h K->∃x h',Y k0 b h=some (.bool x.nrm,h')/\K x h'/\h'[k0]?=some (.lp false x)):=by classical
 have o:∀(b:List AV)(h:aA),∃r:Option (MX×aA),(∀x h',r=some (x,h')->T b h (fun d c=>d=x/\c=h'))/\(∀K,T b h K->∃x h',r=some (x,h')):=fun b h=>by
  by_cases q:∃x h',T b h (fun d c=>d=x/\c=h')
  ·obtain⟨x,h',j⟩:=q;exact⟨some (x,h'),fun E n e=>by simp only[aE,aR]at e;obtain⟨rfl,rfl⟩:=e;exact j,fun K _=>⟨x,h',rfl⟩⟩
  ·exact⟨none,(fun x h' e=>by cases e),fun K i=>by
   obtain⟨x,h',_,_,k3⟩:=m i;exact absurd ⟨x,h',k3 _ ⟨rfl,rfl⟩⟩ q⟩
 obtain⟨R,l⟩:∃R:List AV->aA->Option (MX×aA),∀b h,(∀x h',R b h=some (x,h')->T b h (fun d c=>d=x/\c=h'))/\(∀K,T b h K->∃x h',R b h=some (x,h')):=⟨fun b h=>(o b h).choose,fun b h=>(o b h).choose_spec⟩;refine⟨fun k b h=>if k=k0 then(R b h).map fun r=>(.bool r.1.nrm,r.2)else none,fun k b h v h' g=>?_,fun b h K i=>?_⟩
 ·simp only at g;split at g
  ·rename_i q;simp only[bS,aR]at g;obtain⟨⟨x,A⟩,p,rfl,rfl⟩:=g;exact⟨q,x,rfl,(l b h).1 _ _ p⟩
  ·cases g
 ·obtain⟨x,h',j⟩:=(l b h).2 K i;refine⟨x,h',by simp[j],?_⟩;obtain⟨E,A,⟨t,u,y⟩,z,_⟩:=m (n i ((l b h).1 _ _ j));rw[<-u,<-y];exact⟨t,z⟩
theorem zX6{F:RdF}{T:List AV->aA->(MX->aA->Prop)->Prop}{k:Nat}{Q:MX->aA->Prop}{y:List AV->aA->Option (AV×aA)}(g:∀d h K,T d h K->∃x h',y d h=some (.bool x.nrm,h')/\K x h'/\h'[k]?=some (.lp false x)):∀(N j:Nat)(h:aA),rgM F T k Q N j h->∃h' x,mF F y N j h h'/\h'[k]?=some (.lp false x)/\Q x (h'.set k .dead)
 |0,_,_,b=>b.elim|N+1,j,h,b=>by
  simp only[rgM]at b;split at b;·exact b.elim
  ·rename_i f c;exact⟨f,.normal,by simp only[mF,c],b.1,b.2⟩
  ·rename_i d f c;obtain⟨x,e,k1,k2,k3⟩:=g _ _ _ b;cases x with
   |normal=>
    obtain⟨o,p,l,m,n⟩:=zX6 g N (j+1) e k2;exact⟨o,p,by simp only[mF,c,k1,MX.nrm];exact l,m,n⟩|exit i=>exact⟨e,.exit i,by simp only[mF,c,k1,MX.nrm],k3,k2⟩|ret=>exact⟨e,.ret,by simp only[mF,c,k1,MX.nrm],k3,k2⟩
end
section
variable{P:Program}{B:Base}{C D:Cx}{h:aA}{w w':World}{G:Gam}{a:Act}
def Snd(P:Program)(G:Gam)(ks g:List Nat)(n:Nat)(j:Bool)(i:Option Nat)(c:Code):Prop:=∀(B:Base),GamB P B G->∀(f:List (List Nat))(b:Cx)(e:World)(d:List Deferred)(Q:aS)(env fr:List (Nat×AV))(h:aA)(C:Cx)(a:Act)(w:World),StOK ks n B C env fr h a w->Way B b e d C a w->wpM G (gD j P B.gv ks n g c f).1 Q env fr h->c.wpIn (fR i) 0 P (OH ks n B b e d Q) a w
theorem xH2{ks I:List Nat}{n:Nat}{_g:Operand}{ps:Array Tmp}{t y:Code}(ha:∀l,Snd P G ks I n false (some l) t)(hb:∀l,Snd P G ks I n false (some l) y){m:Base}(hG:GamB P m G){z:Gv}(f1:m.gv=z){K:Cx}(e2:m.cx=K){k b:Nat}{r:Loop}(h3:m.rc k=some (b,r))(f3:r.state=.ready)(g1:r.pending=none)(b1:r.params=ps)(g2:r.assign=t)(g3:r.body=y){env fr:List (Nat×AV)}{h:aA}{w:World}(i1:StOK ks n B C env fr h a w)(f2:C.Le K)(j2:r.tmps=a.tmps){U V:List (List Nat)}{Y:Nat->List AV->aA->Option (AV×aA)}(hY:∀i q h v h',Y i q h=some (v,h')->i=k/\∃x:MX,v=.bool x.nrm/\oX (wpM G (gD false P z ks n I t U).1) (wpM G (gD false P z ks n I y V).1) ps.toList fr k q h (fun x' d1=>x'=x/\d1=h')):YOK P m Y:=by
 intro c E i q hh v h' d2 o W u l2 d3 M b2;obtain⟨rfl,x,rfl,q1,q2,q3⟩:=hY _ _ _ _ _ d2;have Z:=hG.up E;have p:c.rc i=some (b,r):=by obtain⟨rc,T,rfl,g,d⟩:=E;exact g _ _ h3
 have e1:K.Le o:=by
  have:=M.cle;obtain⟨rc,T,rfl,g,d⟩:=E;rw[e2]at d;exact d.trans this
 have a3:c.gv=z:=by obtain⟨rc,T,rfl,_,_⟩:=E;exact f1
 obtain⟨J,p2,p3⟩:=RY M q1 p;rw[d3]at J;injection J with J;subst J;rw[zM6 r f3 g1]at p3;have j1:l2.size=r.params.size:=by
  have g:=b2.1;have d:q.length=ps.toList.length:=q2;rw[b1];simp at g d;omega
 refine⟨r.fn,_,t,y,by rw[run_yield p3 j1,g2,g3],?_⟩;refine roundIn_of_wpIn (F:=Fence.wide) (n:=0) trivial ?_;have i3:=xn9 i1 (f2.trans e1) M (ps:=ps) b2;rw[b1,j2];have hA:=ha u c Z U o W [] _ [] _ hh o _ W i3 (.start rfl) (by rw[a3];exact q3);refine wpIn_mono hA fun e L W1 N=>?_;obtain⟨x1,l3,X,g,S,m1,j,O,m4⟩:=N;cases x1 with
 |exit c2=>exact j.elim|ret=>exact j.elim|normal=>
  cases e<;>simp only[MX.is]at m1;obtain⟨j,m5⟩:=j;obtain⟨s1,s2,s3⟩:=RY O.inv j p;have s4:=run_beginRound (P:=P) s3 (by show xI false .normal=.ready;rfl);refine⟨_,s4,?_⟩;have b3:=zM7 O.inv j s1 p true .normal;have i2:StOK ks n c S [] X (g.set i (.lp true .normal)) L (World.put W1 u (.loop {r with state:=xI true .normal,pending:=MX.normal.code})):=by
   have A:=O.clear;exact⟨b3.1,A.rel,A.sep,A.keys,A.size⟩
  have j3:=m4.step (.refl _) b3.2 (a':=L) rfl;have hB:=hb u c Z V o W [] _ [] X _ S L _ i2 j3 (by rw[a3];exact m5);refine wpIn_mono hB fun e a2 W3 N=>?_;obtain⟨f,o1,o2,d,C3,F,H,n3,n4⟩:=N;obtain⟨H,rfl,rfl⟩:=H;obtain⟨t1,t2,t3⟩:=RY n3.inv H p;have e3:=fun l1=>run_endRound (P:=P) l1 t3;have c1:=zM7 n3.inv H t1 p false f;have fin:∀(e:Option Code),f.code=e->∃v w',(Instr.endRound u e).run P W3=.ok v w'/\∃c3 D,Ending.returned v=.returned c3/\o.Le D/\Inv c D (d.set i (.lp false f)) w'/\Rel D (.bool f.nrm) c3/\Keep c W w':=by
   rintro e rfl;refine⟨_,_,e3 f.code,_,C3,rfl,n4.le,c1.1,?_,n4.keep.trans c1.2⟩;cases f<;>exact .bool _
  cases f with
  |normal=>cases e<;>simp only[MX.is]at F;exact fin none rfl|exit c2=>cases e<;>simp only[MX.is]at F;subst F;exact fin (some (.exit c2)) rfl|ret=>cases e<;>simp only[MX.is]at F;exact fin (some .ret) rfl
theorem xn1{ks k:List Nat}{n:Nat}{g:Operand}{H:Array Tmp}{m y:Code}(ha:∀l,Snd P G ks k n false (some l) m)(E:∀l,Snd P G ks k n false (some l) y):Snd P G ks k n true none (.rangeFunc g H m y):=by
 intro B S z C0 w0 g2 Q env fr h C a w c L d;simp only[gD,aM]at d;split at d
 ·rename_i g' m1;obtain⟨c1,d⟩:((gD false P B.gv ks n k m z).1.det&&(gD false P B.gv ks n k y (gD false P B.gv ks n k m z).2).1.det)=true/\wpM G (.rgf g' H.toList (gD false P B.gv ks n k m z).1 (gD false P B.gv ks n k y (gD false P B.gv ks n k m z).2).1) Q env fr h:=by
   dsimp only at d;split at d;·rename_i U;exact⟨U,d⟩
   ·exact d.elim
  simp only[bR]at c1;obtain⟨V,W⟩:=c1;simp only[wpM]at d;split at d
  ·rename_i f a3 m2;split at d
   ·rename_i f3 hF;obtain⟨a1,hr⟩:=d;have f1:=QE c.inv c.rel m1 m2;have n1:VI P B.gv f f3:=S.ok f _ hF;have l1:=S.enters f _ hF;generalize l3:a.eval g=p1 at f1;cases f1 with|fn _ _ M K hh=>
    have j3:RelL C a3 M.toList:=⟨by simpa using K,fun i g1 v hc hv=>hh i g1 v hc (by simpa using hv)⟩;refine wpIn_rangeFunc fun fn p2=>?_;obtain⟨r,p⟩:∃r:Loop,r={state:=.ready,pending:=none,fn,tmps:=a.tmps,params:=H,assign:=m,body:=y,defers:=w.heap.size}:=⟨_,rfl⟩;obtain⟨j,F⟩:∃j,(w.alloc (.deferred (some []))).alloc (.loop r)=j:=⟨_,rfl⟩;have p3:j.heap.size=w.heap.size+2:=by rw[<-F];simp
    have i2:j.heap[w.heap.size+1]?=some (.loop r):=by rw[<-F];have:=World.alloc_heap_new (w.alloc (.deferred (some []))) (.loop r);rwa[World.size_alloc]at this
    have i1:j.heap[w.heap.size]?=some (.deferred (some [])):=by rw[<-F];exact(Below.heap_alloc _ _ _ (by simp)).trans (World.alloc_heap_new w _)
    have T:Below w.heap.size w j:=by rw[<-F];exact((Below.refl _ w).alloc (bP _) _).alloc (by simp) _
    have hn:=(c.inv.fr h.length (bP _)).1;have c2:=KE (w:=w) (w.heap.size+1) hn;have t:=c2.le;have b2:(C.addBl h.length (w.heap.size+1)).bl h.length=some (w.heap.size+1):=by simp[Cx.addBl]
    have U:Inv B (C.addBl h.length (w.heap.size+1)) (h++[.dead]) j:=c.inv.add c2 T (fun b o u x=>vA c.inv T b o u x) (fun b o u x=>c.inv.one b o u x) (blk:=.dead) trivial (fun b E=>by simp[aU]at E) (fun l K=>by simp[Cx.addBl,K]) (fun l v K=>rfl) (fun ne tg sz q2 q1 wr e=>by cases e);have d2:=yV1 U b2 (by have:=c.inv.hB;omega) i2 (by rw[p]) (by rw[p]) c.inv.rcl (fun l blk E b3=>by
     rw[qY (c.inv.ok l blk E) t]at b3;have:=DN (c.inv.ok l blk E) b3;omega);have f2:B.Up (B.withRc h.length (w.heap.size+1) r (C.addBl h.length (w.heap.size+1))):=⟨_,_,rfl,fun l x hx=>by
     have:=c.inv.rcl l x hx;show(if l=h.length then some (w.heap.size+1,r)else B.rc l)=some x;rw[if_neg (by omega)];exact hx,c.inv.cle.trans t⟩;obtain⟨q,A⟩:∃q,q=B.withRc h.length (w.heap.size+1) r (C.addBl h.length (w.heap.size+1)):=⟨_,rfl⟩;have b1:q.gv=B.gv:=by rw[A];rfl
    have g3:q.cx=C.addBl h.length (w.heap.size+1):=by rw[A];rfl
    have O:q.rc h.length=some (w.heap.size+1,r):=by rw[A];simp[Base.withRc]
    have h1:(q:Nat)=B:=by rw[A];rfl
    rw[<-A]at f2 d2;have h3:=S.up f2;obtain⟨a2,i3,j1⟩:=xH0 (T:=oX (wpM G (gD false P B.gv ks n k m z).1) (wpM G (gD false P B.gv ks n k y (gD false P B.gv ks n k m z).2).1) H.toList fr h.length) h.length (fun d=>zc8 (vW _ V) (vW _ W) d) (fun d n2=>zW2 (vW _ V) (vW _ W) (tW _ V) (tW _ W) d n2);obtain⟨h',x,n3,Y,hQ⟩:=zX6 (k:=h.length) (Q:=fun x h=>Q x env fr h) j1 a1 0 _ hr;have o1:YOK P q a2:=xH2 (_g:=g) (ps:=H) ha E h3 b1 g3 (k:=h.length) (b:=w.heap.size+1) (r:=r) O (by rw[p]) (by rw[p]) (by rw[p]) (by rw[p]) (by rw[p]) c t (by rw[p]) i3;have j2:=n1 q _ _ h' j a3 M h.length (w.heap.size+1) a1 a2 b1 d2 (j3.mono t) b2 o1 n3;refine⟨w.heap.size+1,[mark w.heap.size],j,{target:=.fn (.func f) M,args:=#[.func (.yield (w.heap.size+1)) #[] #[]]},j,f,#[.func (.yield (w.heap.size+1)) #[] #[]]++M,j,?_,?_,?_,?_,?_,?_⟩;·rw[<-F,p];exact run_enterLoop_outer _ _ _ _ _
    ·simp only[resolve,l3];simp[go_sem]
    ·exact fun _ _=>trivial
    ·simp only[invoke];exact l1 _ _
    ·exact QG
    ·refine zq5 (j2.mono ?_);rintro e w2⟨v,D',rfl,N,e2,e3⟩;obtain⟨t1,t2,t3⟩:=RY e2 Y O;have l2:=run_endLoop (P:=P) t3 (by cases x<;>simp[xI,MX.code]);have c3:=yY3 e2 Y t1 O {r with state:=.exhausted,pending:=x.code};have d1:=c3.1;rw[A]at d1;have m3:=yV0 d1 (by rw[fL (aF.1 Y).1]) ((c.inv.cle.trans t).trans N);refine⟨x.code,_,l2,?_⟩;have X:Keep B j (World.put w2 (w.heap.size+1) (.loop {r with state:=.exhausted,pending:=x.code})):=by rw[<-h1];exact Keep.trans e3 c3.2
     have d3:Keep B w j:=.grown T c.inv.hB;have Z:∀(e:Exit),MX.is x e->OH ks n B C0 w0 g2 Q e {a with defers:=[mark w.heap.size]++a.defers} (World.put w2 (w.heap.size+1) (.loop {r with state:=.exhausted,pending:=x.code})):=fun e he=>by
      refine⟨x,env,fr,h'.set h.length .dead,D',he,hQ,⟨m3,fun o2 o3 hy=>?_,c.sep,c.keys,c.size⟩,⟨L.le.trans (t.trans N),L.keep.trans (d3.trans X),?_⟩⟩
      ·obtain⟨u,k1,k2⟩:=c.rel o2 o3 hy;exact⟨u,k1,k2.mono (t.trans N)⟩
      ·obtain⟨Ds,h2,J⟩:=L.ds;refine⟨w.heap.size::Ds,by simp[h2],?_,fun D I=>?_⟩
       ·refine wM.2 ⟨fun hm=>?_,J.nodup⟩;have:=fM (J.there _ hm).2;omega
       ·rcases dD.1 I with rfl|I;·exact⟨L.keep.below.size,X.sys _ _ i1⟩
        ·exact⟨(J.there D I).1,X.sys _ _ (d3.sys _ _ (J.there D I).2)⟩
     cases x with
     |normal=>exact Z .normal trivial|exit i=>exact wpIn_exit (Z (.exit i) rfl)|ret=>exact wpIn_ret (Z .ret trivial)
   ·exact d.elim
  ·exact d.elim
 ·exact d.elim
theorem yf9{Q:aS}{env fr:List (Nat×AV)}:∀{g:List MC},wpM G (OV g) Q env fr h->∀c∈g,wpM G c Q env fr h
 |[],f,c,b=>by cases b|[d],f,c,b=>by rw[gU.1 b];exact f|d::e::g,f,c,b=>by
  simp only[OV,wpM]at f;rcases dD.1 b with rfl|b;·exact f.1
  ·exact yf9 f.2 c b
theorem yF0{ro:Option Nat}(j:GamB P B G){ks o:List Nat}{n:Nat}{f:Array Oper}{Q:Exit->Act->World->Prop}{i:aS}{env fr:List (Nat×AV)}(l:StOK ks n B C env fr h a w)(b:wpM G (XL P B.gv ks n o f) i env fr h)(k:∀d e h' D c w',i .normal d e h'->C.Le D->StOK ks n B D d e h' c w'->c.defers=a.defers->Keep B w w'->Q .normal c w'):wpAnyIn (fR ro) 0 P .any f Q f.size (Array.replicate f.size false) a {w with drawn:=w.drawn+1}:=by
 unfold XL at b;split at b
 ·rename_i g;simp only[wpM]at b;split at b
  ·rename_i d e h' m;exact zu0 j l.clear g m fun D c w' k1 k2 k3 k4=>k d e h' D c w' b k1 k2 k3 k4
  ·exact b.elim
 ·split at b
  ·rename_i g;exact zu6 j l.clear g b fun d e h' D c w' k0 k1 k2 k3 k4=>k d e h' D c w' k0 k1 k2 k3 k4
  ·exact b.elim
theorem yp0{v:Option Nat}(A:P.follows .mixedOrders=true)(x:GamB P B G){ks f:List Nat}{n id:Nat}{b:Array Oper}{Q:Exit->Act->World->Prop}{l:aS}{env fr:List (Nat×AV)}(F:StOK ks n B C env fr h a w)(j:wpM G (VS P B.gv ks n f b) l env fr h)(y:∀r t h' D m w',l .normal r t h'->C.Le D->StOK ks n B D r t h' m w'->m.defers=a.defers->Keep B w w'->Q .normal m w'):(Code.region id b true).wpIn (fR v) 0 P Q a w:=by
 unfold VS at j;split at j
 ·rename_i u;simp only[bR,fD]at u;have J:(aO P B.gv ks n f b).length=b.size:=by simp[aO]
  refine xl9 A (lou:=MI.loudAt (aO P B.gv ks n f b)) (all:=RQ (aO P B.gv ks n f b)) (fun i g z=>nG.2 ⟨jF.2 (by omega),z⟩) (fun i g=>by
   obtain⟨c,d⟩:=nG.1 g;exact⟨by have:=jF.1 c;omega,d⟩) (fun k o e i g=>by
   have c:=fK.1 u.1 k (jF.2 (by simpa using(lL.1 e).1));rw[show b.toList[k]?=some o by simpa using e]at c;have:=fK.1 c i g;simpa using this) fun q I=>?_;have c:=yf9 j _ (jE.2 ⟨q,I,rfl⟩);obtain⟨p,d⟩:∃p,wpM G (IW P B.gv ks n f b q p) l env fr h:=by
   unfold zo0 at c;split at c;·exact⟨_,c⟩
   ·exact⟨_,c⟩
  unfold IW at d;split at d
  ·rename_i E;have e:=xh1 E;refine⟨_,e,?_⟩;have H:(nA b p q).size=b.size:=by rw[zc4];exact e.len
   have:=yF0 (ro:=v) x F d (Q:=Q) y;rw[H]at this;exact this
  ·exact d.elim
 ·exact j.elim
theorem xn2{y:Option Nat}(O:GamB P B G){ks ow:List Nat}{n id:Nat}{c:Array Oper}{F:Operand}{o:Oper}(d:mapNext c.toList=some (F,o))(W:(o.dst.map fun t=>decide (t<n)).getD true=true){g:At}(Y:sU B.gv F=some g){Q:Exit->Act->World->Prop}{env fr:List (Nat×AV)}(c1:StOK ks n B C env fr h a w){l:Nat}(a2:gO (aV [] fr) g=some (.ptr l 0)){z:List (AV×aA)}(U:iG h l=some z)(q:∀r∈z,∃m p h',run G false (aO P B.gv ks n ow c).tail (iD o.dst ((o.dst.map fun t=>ks.contains t).getD false) [] fr (some r))=.ok m p h'/\∀D k w',C.Le D->StOK ks n B D m p h' k w'->k.defers=a.defers->Keep B w w'->Q .normal k w'):(Code.region id c false).wpIn (fR y) 0 P Q a w:=by
 refine wpIn_region ?_;have f:=zT8 c;cases v:c.toList with
 |nil=>rw[v]at d;cases d|cons b I=>
  rw[v]at f d;simp only[mapNext]at d;split at d
  ·rename_i H E Z;simp only[aE,aR]at d;obtain⟨rfl,rfl⟩:=d;generalize List.range c.size=j at f;cases j with
   |nil=>simp at f|cons d1 j=>
    simp only[fE,List.cons.injEq]at f;obtain⟨ho,f⟩:=f;rw[wpOpsIn_cons];have e:=c1.clear;have b1:=QE e.inv e.rel Y a2;obtain⟨r,u,w',hr,k1,k2,k3,k4⟩:=xa3 (P:=P) (ty:=b.type) e.inv b1 U;obtain⟨m,p,h',i,q⟩:=q r hr;unfold wpOpIn;simp only[ho];rw[if_pos (by simp[Region.wanted,Z])];unfold Oper.wpIn;refine⟨fun _ _=>trivial,?_⟩;have b2:Oper.semAt (fR y).round a.eval b=execOp a.eval b:=Oper.semAt_eq _ _ _ fun c3 A=>by rw[E]at A;cases A
    rw[b2];have M:(execOp a.eval b).run P w=.ok (.value u) w':=by
     have J:execOp a.eval b=execOp a.eval {b with op:=.next H false}:=by rw[<-E]
     rw[J];have K:∀S:Sem Value,S.run P w=.ok u w'->Sem.run P (do pure (Next.value (<-S))) w=.ok (.value u) w':=fun S T=>by simp[T]
     exact K (Instr.next (a.eval H) false b.type) k1
    rw[M];show wpOpsIn (fR y) 0 P c Q j (a.put b.dst u) w';have c2:(aO P B.gv ks n ow c).tail=I.map (dF P B.gv ks n ow c):=by simp[aO,v]
    rw[c2]at i;generalize V:iD b.dst ((b.dst.map fun t=>ks.contains t).getD false) [] fr (some r)=r1 at i;cases r1 with
    |bad=>rw[BB]at i;cases i|ok L N h2=>
     obtain⟨d2,h1⟩:=r;obtain⟨rfl,b3,a3,a1⟩:=OS e.sep rfl V;have X:∀t,b.dst=some t->t<n:=fun t x=>by simpa[x]using W
     exact ZA O j I L N _ C (a.put b.dst u) w' f ⟨k2,e.rel.put k3 (fun t x=>sP (X t x) e.size) a1,b3,a3 e.keys,by rw[SV];exact e.size⟩ (by rw[SU]) (.refl C) k4 i q
  ·cases d
theorem kX(A:P.follows .mixedOrders=true){ks O:List Nat}{n:Nat}:∀(c:Code)(p:Bool)(q:Option Nat),(p=true->q=none)->Snd P G ks O n p q c
 |.skip,p,q,u=>fun B o t j r d Q env fr h C a w g i f=>wpIn_skip ⟨.normal,env,fr,h,C,trivial,f,g,i⟩|.region id e2 S,p,q,u=>fun B o t j r d Q env fr h C a w g i f=>by
  simp only[gD]at f;split at f
  ·rename_i it e1 b2;split at f;·exact f.elim
   ·rename_i a3;obtain rfl:S=false:=by simpa using a3
    split at f
    ·rename_i a1 hg;split at f
     ·rename_i hd;simp only[wpM]at f;split at f
      ·rename_i l b1;split at f
       ·rename_i d3 a2;refine xn2 (ow:=O) o b2 hd hg g b1 a2 fun c2 E=>?_;have:=f c2 E;split at this
        ·rename_i k m h' J;exact⟨k,m,h',J,fun D F w' k1 k2 k3 k4=>⟨.normal,k,m,h',D,trivial,this,k2,i.step k1 k4 k3⟩⟩
        ·exact this.elim
       ·exact f.elim
      ·exact f.elim
     ·exact f.elim
    ·exact f.elim
  cases S with
  |false=>
   simp only[bM,bH,wpM]at f;split at f
   ·rename_i k m h' J;exact zc2 o g.clear J fun D F w' k1 k2 k3 k4=>⟨.normal,k,m,h',D,trivial,f,k2,i.step k1 k4 k3⟩
   ·exact f.elim|true=>
   simp only[aM]at f;split at f
   ·rename_i M;simp only[wpM]at f;split at f
    ·rename_i k m h' J;exact xm0 A o g.clear M J fun D F w' k1 k2 k3 k4=>⟨.normal,k,m,h',D,trivial,f,k2,i.step k1 k4 k3⟩
    ·exact f.elim
   ·split at f
    ·rename_i M;exact xm1 A o g.clear M f fun k m h' D F w' k0 k1 k2 k3 k4=>⟨.normal,k,m,h',D,trivial,k0,k2,i.step k1 k4 k3⟩
    ·exact yp0 A o g f fun k m h' D F w' k0 k1 k2 k3 k4=>⟨.normal,k,m,h',D,trivial,k0,k2,i.step k1 k4 k3⟩
 |.seq x y,p,q,u=>fun B o t j r d Q env fr h C a w g i f=>by
  simp only[gD,wpM]at f;refine wpIn_seq (wpIn_mono (kX A x p q u B o t j r d _ env fr h C a w g i f) fun e F w' H=>?_);obtain⟨I,k,m,h',z,k1,k2,k3,k4⟩:=H;cases I<;>cases e<;>simp only[MX.is]at k1<;>(try exact k1.elim);·exact kX A y p q u B o _ j r d Q k m h' z F w' k3 k4 k2
  ·exact⟨.exit _,k,m,h',z,k1,k2,k3,k4⟩
  ·exact⟨.ret,k,m,h',z,trivial,k2,k3,k4⟩|.cond c x y,p,q,u=>fun B o t j r d Q env fr h C a w g i f=>by
  simp only[gD]at f;split at f
  ·rename_i c' hc;simp only[wpM]at f;split at f
   ·rename_i c3 ht;have E:=QE g.inv g.rel hc ht;have:=jG E;cases c3 with
    |true=>simp only[aM]at f;exact wpIn_cond_true this (kX A x p q u B o t j r d Q env fr h C a w g i f)|false=>simp only[bM,bH]at f;exact wpIn_cond_false this (kX A y p q u B o _ j r d Q env fr h C a w g i f)
   ·exact f.elim
  ·exact f.elim|.block id x,p,q,u=>fun B o t j r d Q env fr h C a w g i f=>by
  simp only[gD,wpM]at f;refine wpIn_block (wpIn_mono (kX A x p q u B o t j r d _ env fr h C a w g i f) fun e F w' H=>?_);obtain⟨I,k,m,h',z,k1,k2,k3,k4⟩:=H;cases I<;>cases e<;>simp only[MX.is]at k1<;>(try exact k1.elim);·exact⟨.normal,k,m,h',z,trivial,k2,k3,k4⟩
  ·subst k1;simp only[oL]at k2;simp only[Exit.inBlock];split;·rename_i e;rw[if_pos e]at k2;exact⟨.normal,k,m,h',z,trivial,k2,k3,k4⟩
   ·rename_i e;rw[if_neg e]at k2;exact⟨.exit _,k,m,h',z,rfl,k2,k3,k4⟩
  ·exact⟨.ret,k,m,h',z,trivial,k2,k3,k4⟩|.loop x,p,q,u=>fun B o t j r d Q env fr h C a w g i f=>by
  simp only[gD,wpM]at f;obtain⟨N,E⟩:=f;refine wpIn_loop_rounds N ?_;have L:∀(j:Cx),j.Le C->∀l,h.length<=l->j.bl l=none/\∀v,j.ar l v=none:=fun j U l hl=>by
   have T:=g.inv.fr l hl;refine⟨?_,fun v=>?_⟩;·cases K:j.bl l with
    |none=>rfl|some b=>have:=U.bl l b K;rw[T.1]at this;cases this
   ·cases K:j.ar l v with
    |none=>rfl|some b=>have:=U.ar l v b K;rw[T.2 v]at this;cases this
  have V:=L j i.le;have W:=L B.cx g.inv.cle;have X:=g.inv.rcl;clear L;generalize h.length=c1 at E V W X;have b3:∀(N:Nat)(env fr:List (Nat×AV))(h:aA)(C:Cx)(a:Act)(w:World),StOK ks n B C env fr h a w->Way B j r d C a w->gS (wpM G (gD p P B.gv ks n O x t.tail).1) (t.headD []) c1 Q N env fr h->Code.roundsIn (fR q) 0 P x (OH ks n B j r d Q) N a w:=by
   intro N;induction N with
   |zero=>intro env fr h C a w _ _ E;exact E|succ N ih=>
    intro env fr h C a w g i E;obtain⟨D,d1,d2⟩:=g.head X W i.le V (t.headD []);simp only[gS]at E;refine wpIn_mono (kX A x p q u B o t.tail j r d _ _ _ _ D a w d2 ⟨d1,i.keep,i.ds⟩ E) fun e F w' H=>?_;obtain⟨I,k,m,h',z,k1,k2,k3,k4⟩:=H;cases I<;>cases e<;>simp only[MX.is]at k1<;>(try exact k1.elim);·exact ih k m h' z F w' k3 k4 k2
    ·exact⟨.exit _,k,m,h',z,k1,k2,k3,k4⟩
    ·exact⟨.ret,k,m,h',z,trivial,k2,k3,k4⟩
  exact b3 N env fr h C a w g i E|.exit id,p,q,u=>fun B o t j r d Q env fr h C a w g i f=>wpIn_exit ⟨.exit id,env,fr,h,C,rfl,f,g,i⟩|.ret,p,q,u=>fun B o t j r d Q env fr h C a w g i f=>wpIn_ret ⟨.ret,env,fr,h,C,trivial,f,g,i⟩|.label l,p,q,u=>fun B o t j r d Q env fr h C a w g i f=>wpIn_label ⟨.normal,env,fr,h,C,trivial,f,g,i⟩|.rangeFunc a1 ps Y Z,p,q,u=>by cases p with
  |true=>
   have:=u rfl;subst this;exact xn1 (fun l=>kX A Y false (some l) (fun e=>by cases e)) (fun l=>kX A Z false (some l) (fun e=>by cases e))|false=>exact fun B o t j r d Q env fr h C a w g i f=>by simp only[gD,bM,bH]at f;exact f.elim
 |.scope x,p,q,u=>fun B o t j r d Q env fr h C a w g i f=>by
  simp only[gD]at f;refine xG2 (wpIn_mono (kX A x p q u B o t j r d _ env fr h C a w g i f) fun e F w' H=>?_);obtain⟨I,k,m,h',z,k1,k2,k3,k4⟩:=H;cases I<;>cases e<;>simp only[MX.is]at k1<;>(try exact k1.elim);·exact⟨.normal,k,m,h',z,trivial,k2,k3,k4⟩
  ·exact⟨.exit _,k,m,h',z,k1,k2,k3,k4⟩
  ·exact⟨.ret,k,m,h',z,trivial,k2,k3,k4⟩|.goto _,p,q,u=>fun B o t j r d Q env fr h C a w g i f=>f.elim|.refuse _,p,q,u=>fun B o t j r d Q env fr h C a w g i f=>f.elim
end
inductive RV where|tmp(t:Nat)|cell(a size:Nat)(agg:Bool)deriving Inhabited
def PG(P:Program):ResultVar->Option RV
 |.tmp t=>some (.tmp t)|.cell a t=>match dU P t,lJ P t with
  |some n,some g=>some (.cell a n g)|_,_=>none
def lE(P:Program):List ResultVar->Option (List RV)
 |[]=>some []|x::b=>match PG P x,lE P b with
  |some y,some c=>some (y::c)|_,_=>none
def fA(e:Nat->Option AV)(h:aA):RV->Option AV
 |.tmp t=>e t|.cell a c b=>match e a with
  |some p=>aB c b h p|none=>none
def eR(e:Nat->Option AV)(h:aA):List RV->Option (List AV)
 |[]=>some []|x::c=>match fA e h x,eR e h c with
  |some v,some b=>some (v::b)|_,_=>none
def cZ(e:Nat->Option AV)(h:aA)(b:List RV):Option AV:=match eR e h b with
 |some [v]=>some v|some c=>some (.tup c)|none=>none
def aC:List Nat->List AV->List (Nat×AV)
 |[],_=>[]|k::ks,b=>(k,(b[k]?).getD .junk)::aC ks b
def aJ(b:List RV)(r:AV):aS:=fun x env fr h=>(match x with|.exit _=>False|_=>True)/\∃v,cZ (aV env fr) h b=some v/\view h v=some r
def xj6(b:List RV)(r:AV):aS:=fun x env fr h=>(match x with|.exit _=>False|_=>True)/\∃v,cZ (aV env fr) h b=some v/\fH h v=some r
def eF(b:List RV)(r:AV)(h':aA):aS:=fun x env fr h=>(match x with|.exit _=>False|_=>True)/\cZ (aV env fr) h b=some r/\h=h'
section
variable{P:Program}{B:Base}{C D:Cx}{h:aA}{w w':World}{G:Gam}{a:Act}
theorem xn0(m:Inv B C h w){e:Nat->Option AV}(k:RelT C e a){x:ResultVar}{y:RV}{v:AV}(c:PG P x=some y)(d:fA e h y=some v):∃u,Rel C v u/\(match x with|.tmp t=>(pure (a.tmps.getD t undef):Sem Value)|.cell b t=>do loadVar t (<-asAddr (a.tmps.getD b undef))).run P w=.ok u w:=by cases x with
 |tmp t=>
  simp only[PG,aE]at c;subst c;obtain⟨u,i,f⟩:=k t v d;exact⟨u,f,by simp[i]⟩|cell b t=>
  simp only[PG]at c;split at c
  ·rename_i n g o l;simp only[aE]at c;subst c;simp only[fA]at d;split at d
   ·rename_i p q;obtain⟨x,i,f⟩:=k b p q;obtain⟨u,k1,k2⟩:=zL2 m l o f d;have k3:=k2 w (Below.refl _ _);have r:∃j,x=.pointer (some j):=by cases f<;>simp[aB]at d<;>exact⟨_,rfl⟩
    obtain⟨j,rfl⟩:=r;refine⟨u,k1,?_⟩;simp only[Instr.loadAt,Instr.sureAddr,Sem.run_bind,Sem.run_pure,Result.andThen_ok]at k3;simp[i,asAddr,k3]
   ·cases d
  ·cases c
theorem zc5(k:Inv B C h w){e:Nat->Option AV}(l:RelT C e a):∀{j:List ResultVar}{i:List RV}{g:List AV},lE P j=some i->eR e h i=some g->∃f,RelL C g f/\(j.mapM (m:=Sem) fun|.tmp t=>(pure (a.tmps.getD t undef):Sem Value)|.cell b t=>do loadVar t (<-asAddr (a.tmps.getD b undef))).run P w=.ok f w
 |[],i,g,c,d=>by
  simp[lE]at c;subst c;simp[eR]at d;subst d;exact⟨[],.nil,by simp⟩|x::j,i,g,c,d=>by
  simp only[lE]at c;split at c
  ·rename_i y r n o;injection c with c;subst c;simp only[eR]at d;split at d
   ·rename_i v q p h4;injection d with d;subst d;obtain⟨u,k1,k2⟩:=xn0 k l n p;obtain⟨f,k3,k4⟩:=zc5 k l o h4;refine⟨u::f,.cons k1 k3,?_⟩;rw[List.mapM_cons,Sem.run_bind,k2,Result.andThen_ok,Sem.run_bind,k4];simp
   ·cases d
  ·cases c
theorem vL(n:Inv B C h w){e:Nat->Option AV}(p:RelT C e a){g:Func}{q:List RV}{v:AV}(j:lE P g.results.toList=some q)(d:cZ e h q=some v):∃u,Rel C v u/\(results g a.tmps).run P w=.ok u w:=by
 unfold cZ at d;have run:∀f:List Value,(g.results.toList.mapM (m:=Sem) fun|.tmp t=>(pure (a.tmps.getD t undef):Sem Value)|.cell b t=>do loadVar t (<-asAddr (a.tmps.getD b undef))).run P w=.ok f w->(results g a.tmps).run P w=.ok (if h:f.toArray.size=1 then f.toArray[0]else .tuple f.toArray) w:=fun f k=>by
  unfold results;rw[Array.mapM_eq_mapM_toList];simp only[bind_map_left,Sem.run_bind,Sem.run_pure];exact(congrArg (fun r=>Result.andThen r _) k).trans rfl
 split at d
 ·rename_i x l;injection d with d;subst d;obtain⟨f,k1,k2⟩:=zc5 n p j l;obtain⟨u,E,rfl,k3,k4⟩:=k1.inv_cons;have:=k4.inv_nil;subst this;exact⟨u,k3,by rw[run _ k2];simp⟩
 ·rename_i A z l;injection d with d;subst d;obtain⟨f,k1,k2⟩:=zc5 n p j l;refine⟨.tuple f.toArray,.tup _ _ (by simpa using k1.1) (fun i c u j k=>k1.2 i c u j (by simpa using k)),?_⟩;rw[run _ k2];have:f.length≠1:=fun e=>by
   have o:=k1.1;rw[e]at o;match A,o with|[y],_=>exact z y rfl
  rw[dif_neg (by simpa using this)]
 ·cases d
theorem ZB(b:List AV):∀(ks:List Nat)(t:Nat)(x:AV),lkp t (aC ks b)=some x->t∈ks/\x=(b[t]?).getD .junk
 |[],t,x,h=>by simp[aC,lkp]at h|k::ks,t,x,h=>by
  simp only[aC,lkp]at h;split at h;·rename_i e;subst e;injection h with h;exact⟨by simp,h.symm⟩
  ·have:=ZB b ks t x h;exact⟨by simp[this.1],this.2⟩
theorem rY(j:Inv B C h w){ks:List Nat}{n:Nat}(l:ks.all (fun k=>decide (k<n))=true){d:List AV}{b:Array Value}(m:RelL C d b.toList):StOK ks n B C [] (aC ks d) h {tmps:=b++Array.replicate (n-b.size) undef,defers:=[]} w:=by
 have o:n<=(b++Array.replicate (n-b.size) undef).size:=by simp;omega
 refine⟨j,fun t x e=>?_,fun t v e=>by simp[lkp]at e,fun t v e=>?_,o⟩
 ·have p:lkp t (aC ks d)=some x:=e;obtain⟨g,rfl⟩:=ZB d ks t x p;have q:t<n:=by simpa using fK.1 l t g
  cases i:d[t]? with
  |some c=>
   obtain⟨u,k1,k2⟩:=m.get i;have f:t<b.size:=by have:=(aF.1 k1).1;simpa using this
   refine⟨u,?_,k2⟩;show(b++Array.replicate (n-b.size) undef)[t]?=some u;rw[II f];simpa using k1|none=>
   have f:t<(b++Array.replicate (n-b.size) undef).size:=by omega
   exact⟨(b++Array.replicate (n-b.size) undef)[t],by simp,.junk _⟩
 ·have:=(ZB d ks t v e).1;simpa using this
theorem yr2{l b:Nat}{p:Blk}(j:BlkOK B C w l p)(d:aU C l p=some b):∃o,w.heap[b]?=some o/\∀c,o≠.deferred c:=by cases p with
 |cellsT tg L=>
  obtain⟨k,q,e,f,i,g,_⟩:=j;simp only[aU,f,aE]at d;subst d;exact⟨_,g,fun c=>by simp⟩|arrX F tg J K I M=>
  rcases j with⟨f,i⟩|⟨r,q,f,i,_,_,_,t,_⟩;·simp[aU,f]at d
  ·simp only[aU,f,aE]at d;subst d;exact⟨_,t,fun c=>by simp⟩|map y=>
  obtain⟨k,E,v,f,i,g,_⟩:=j;simp only[aU,f,aE]at d;subst d;exact⟨_,g,fun c=>by simp⟩|iter s H=>
  obtain⟨k,f,i,g⟩:=j;simp only[aU,f,aE]at d;subst d;exact⟨_,g,fun c=>by simp⟩|lp u x=>
  obtain⟨k,r,f,i,_,g⟩:=j;simp only[aU,f,aE]at d;subst d;exact⟨_,g,fun c=>by simp⟩|mit m n seen z=>
  obtain⟨k,A,f,i,g,_⟩:=j;simp only[aU,f,aE]at d;subst d;exact⟨_,g,fun c=>by simp⟩|dead=>simp[aU]at d
theorem zI3(d:Inv B C h w){k:Nat}{c:Option (List Deferred)}(m:w.heap[k]?=some (.deferred c))(o:Obj):Inv B C h (World.put w k o):=by
 refine⟨fun b i u z=>?_,d.one,fun l n p=>?_,d.inj,d.fr,d.fv,by rw[zb7];exact d.hB,d.low,d.gl,fun g r y=>(by
  obtain⟨v,T,t,j⟩:=d.tb g r y;exact⟨v,T,t,by rw[FW (fun e=>by subst e;rw[m]at j;cases j)];exact j⟩),d.rcl,d.cle⟩
 ·have q:=d.im b i u z;refine zT4 (fun e=>?_) q;subst e;simp[World.cell?,m]at q
 ·refine(d.ok l n p).stay (.refl C) fun b x=>⟨FW fun e=>?_,fun _=>rfl⟩;subst e;obtain⟨E,f,A⟩:=yr2 (d.ok l n p) x;rw[m]at f;injection f with f;exact A c f.symm
theorem zJ9{m:Func}{p:Array Value}{R:Ending->World->Prop}{i:World}(q:B.n<=i.heap.size)(fin:∀f,Inv B C h f->Keep B i f->∃v,(results m p).run P f=.ok v f/\R (.returned v) f):∀(g:List Nat)(w:World),Inv B C h w->Keep B i w->Marks i g w->LeavesInM Fence.wide 0 P m p R (g.map mark) .returning w
 |[],w,l,b,_=>fin w l b|D::g,w,l,b,d=>by
  obtain⟨r,n⟩:=d.there D (by simp);refine⟨by simp,.inl ⟨D,_,rfl,run_takeDeferred n,?_⟩⟩;refine zJ9 q fin g _ (zI3 l n _) ⟨?_,fun k c o=>?_⟩ ⟨(wM.1 d.nodup).2,fun E j=>?_⟩;·exact b.below.trans ⟨rfl,rfl,rfl,by simp,fun k b=>World.putObj_heap_other (by omega)⟩
  ·have:k≠D:=fun e=>by subst e;have:=fM o;omega
   exact(World.putObj_heap_other this).trans (b.sys k c o)
  ·have:E≠D:=fun e=>by subst e;exact(wM.1 d.nodup).1 j
   exact⟨(d.there E (by simp[j])).1,(World.putObj_heap_other this).trans (d.there E (by simp[j])).2⟩
theorem uR{f:FuncId}{d:Func}{c:Code}(t:P.funcs[f]?=some d)(r:d.body=some c){ks:List Nat}{j:Cx}{Q:aS}{g:Array Value}{R:Ending->World->Prop}(o:B.n<=w.heap.size)(A:c.wpIn (fR none) 0 P (OH ks d.ntmps B j w [] Q) {tmps:=g++Array.replicate (d.ntmps-g.size) undef,defers:=[]} w)(fin:∀x env fr h C a b,Q x env fr h->StOK ks d.ntmps B C env fr h a b->j.Le C->Keep B w b->(match x with|.exit _=>False|_=>True)/\∃v,(results d a.tmps).run P b=.ok v b/\R (.returned v) b):Calls P f g w R:=by
 refine(callsIn_wide (n:=0)).1 (callsIn_of_wp_marks (F:=Fence.wide) t r trivial (wpIn_mono A fun e a b z=>?_));obtain⟨x,env,fr,l,k,k1,k2,k3,k4⟩:=z;obtain⟨n,p,q⟩:=k4.ds;have m:LeavesInM Fence.wide 0 P d a.tmps R a.defers .returning b:=by
  rw[p,iR];exact zJ9 o (fun E u y=>(fin x env fr l k a E k2 ⟨u,k3.rel,k3.sep,k3.keys,k3.size⟩ k4.le y).2) n b k3.inv k4.keep q
 cases x with
 |normal=>cases e<;>simp only[MX.is]at k1;exact m|ret=>cases e<;>simp only[MX.is]at k1;exact m|exit i=>exact(fin (.exit i) env fr l k a b k2 k3 k4.le k4.keep).1.elim
abbrev PW(G:Gam)(c:MC)(d:List RV)(ks:List Nat)(F:List AV->Option AV):Prop:=∀b r,F b=some r->wpM G c (aJ d r) [] (aC ks b) []
theorem hJ(W:P.follows .mixedOrders=true){i:Gv}(M:GamOK P i G){f:FuncId}{e:Func}{c:Code}(N:P.funcs[f]?=some e)(d:e.body=some c){ks ow:List Nat}{dl:List (List Nat)}{rs:List RV}{y:MC}(V:ks.all (fun a2=>decide (a2<e.ntmps))=true)(Z:lE P e.results.toList=some rs)(X:(bU P i ks e.ntmps ow c dl).1=y){F:List AV->Option AV}(K:∀k r,F k=some r->wpM G y (aJ rs r) [] (aC ks k) []):dP P i f F:=by
 intro I w k r b2 p q Y L;have U:Inv ⟨w.heap.size,I,i,fun _=>none,Cx.pure fun _ _=>none⟩ (Cx.pure I) [] w:=⟨p.cell,p.one,fun l z d=>by simp at d,fun l l' z a3 b d=>by simp at d,fun l _=>⟨rfl,fun _=>rfl⟩,fun l ne tg sz b3 b1 wr d=>by simp at d,bP _,fun b o u _ j=>j,q.gl,(fun g A S=>(by obtain⟨T,J,n⟩:=q.tb g A S;exact⟨fM n,T,J,n⟩)),(fun l x hx=>by cases hx),⟨(fun _ _ _ x=>by cases x),(fun _ _ x=>by cases x),(fun _ _ _ x=>by cases x)⟩⟩;have a1:=rY (n:=e.ntmps) U V Y;have t:=K k r L;rw[<-X]at t;have hw:=kX W c true none (fun _=>rfl) ⟨w.heap.size,I,i,fun _=>none,Cx.pure fun _ _=>none⟩ (GamOK.b M) dl _ w [] _ [] _ [] _ _ w a1 (.start rfl) t;refine uR N d (bP _) hw fun x env fr h' C' a' w' k0 k5 k6 k7=>?_;obtain⟨k2,v,k3,k4⟩:=k0;refine⟨k2,?_⟩;obtain⟨u,r1,r2⟩:=vL k5.inv k5.rel Z k3;have O:frz h' v=some (r,dC h' (owns v)):=by simp[frz,k4]
 obtain⟨D,E,m,H,d4,d5⟩:=tA k5.inv O r1;exact⟨u,r2,u,D.im,rfl,⟨fun b o u j=>E.im _ _ _ (k6.im _ _ _ j),fun b o u j d=>m.low b o u d j⟩,m.holds,H,k7.below⟩
theorem zT0(X:P.follows .mixedOrders=true){i:Gv}(N:GamOK P i G){f:FuncId}{e:Func}{c:Code}(O:P.funcs[f]?=some e)(d:e.body=some c){ks ow:List Nat}{dl:List (List Nat)}{z:List RV}{y:MC}(W:ks.all (fun a3=>decide (a3<e.ntmps))=true)(a1:lE P e.results.toList=some z)(Y:(bU P i ks e.ntmps ow c dl).1=y){F:List AV->Option AV}(L:∀k r,F k=some r->wpM G y (xj6 z r) [] (aC ks k) []):dP P i f F:=by
 intro I w k r b3 p q Z M;have V:Inv ⟨w.heap.size,I,i,fun _=>none,Cx.pure fun _ _=>none⟩ (Cx.pure I) [] w:=⟨p.cell,p.one,fun l A d=>by simp at d,fun l l' A b1 b d=>by simp at d,fun l _=>⟨rfl,fun _=>rfl⟩,fun l ne tg sz c1 b2 wr d=>by simp at d,bP _,fun b o u _ j=>j,q.gl,(fun g E U=>(by obtain⟨T,K,n⟩:=q.tb g E U;exact⟨fM n,T,K,n⟩)),(fun l x hx=>by cases hx),⟨(fun _ _ _ x=>by cases x),(fun _ _ x=>by cases x),(fun _ _ _ x=>by cases x)⟩⟩;have a2:=rY (n:=e.ntmps) V W Z;have t:=L k r M;rw[<-Y]at t;have hw:=kX X c true none (fun _=>rfl) ⟨w.heap.size,I,i,fun _=>none,Cx.pure fun _ _=>none⟩ (GamOK.b N) dl _ w [] _ [] _ [] _ _ w a2 (.start rfl) t;refine uR O d (bP _) hw fun x env fr h' C' a' w' k0 k5 k6 k7=>?_;obtain⟨k2,v,k3,k4⟩:=k0;refine⟨k2,?_⟩;obtain⟨u,r1,r2⟩:=vL k5.inv k5.rel a1 k3;have S:EI h' v=some (r,dC h' (owns v)):=by simp[EI,k4]
 obtain⟨D,H,m,J,d4,d5⟩:=zy1 k5.inv S r1;exact⟨u,r2,u,D.im,rfl,⟨fun b o u j=>H.im _ _ _ (k6.im _ _ _ j),fun b o u j d=>m.low b o u d j⟩,m.holds,J,k7.below⟩
def zb0:AV->List AV
 |.tup b=>b|v=>[v]
def xj7(c:List RV)(r:AV):aS:=fun x env fr h=>(match x with|.exit _=>False|_=>True)/\∃v b,cZ (aV env fr) h c=some v/\xY h (zb0 v)=some b/\fH b v=some r
theorem xj8(Z:P.follows .mixedOrders=true){i:Gv}(S:GamOK P i G){f:FuncId}{e:Func}{c:Code}(U:P.funcs[f]?=some e)(d:e.body=some c){ks ow:List Nat}{dl:List (List Nat)}{A:List RV}{z:MC}(Y:ks.all (fun b1=>decide (b1<e.ntmps))=true)(a2:lE P e.results.toList=some A)(a1:(bU P i ks e.ntmps ow c dl).1=z){F:List AV->Option AV}(N:∀k r,F k=some r->wpM G z (xj7 A r) [] (aC ks k) []):dP P i f F:=by
 intro I w k r c2 q t hr O;have X:Inv ⟨w.heap.size,I,i,fun _=>none,Cx.pure fun _ _=>none⟩ (Cx.pure I) [] w:=⟨q.cell,q.one,fun l H d=>by simp at d,fun l l' H b3 b d=>by simp at d,fun l _=>⟨rfl,fun _=>rfl⟩,fun l ne tg sz c3 c1 wr d=>by simp at d,bP _,fun b o u _ j=>j,t.gl,(fun g J W=>(by obtain⟨T,M,p⟩:=t.tb g J W;exact⟨fM p,T,M,p⟩)),(fun l x hx=>by cases hx),⟨(fun _ _ _ x=>by cases x),(fun _ _ x=>by cases x),(fun _ _ _ x=>by cases x)⟩⟩;have a3:=rY (n:=e.ntmps) X Y hr;have y:=N k r O;rw[<-a1]at y;have hw:=kX Z c true none (fun _=>rfl) ⟨w.heap.size,I,i,fun _=>none,Cx.pure fun _ _=>none⟩ (GamOK.b S) dl _ w [] _ [] _ [] _ _ w a3 (.start rfl) y;refine uR U d (bP _) hw fun x env fr h' C' a' w' k0 k5 k6 k7=>?_;obtain⟨k2,v,n,k3,b2,k4⟩:=k0;refine⟨k2,?_⟩;obtain⟨u,r1,r2⟩:=vL k5.inv k5.rel a2 k3;obtain⟨D0,E,z2⟩:=zd9 k5.inv b2;have V:EI n v=some (r,dC n (owns v)):=by simp[EI,k4]
 obtain⟨D,K,m,L,d4,d5⟩:=zy1 z2 V (r1.mono E);exact⟨u,r2,u,D.im,rfl,⟨fun b o u j=>K.im _ _ _ (E.im _ _ _ (k6.im _ _ _ j)),fun b o u j d=>m.low b o u d j⟩,m.holds,L,k7.below⟩
abbrev GW(G:Gam)(c:MC)(d:List RV)(ks:List Nat)(F:List AV->aA->Option (AV×aA)):Prop:=∀b h r h',F b h=some (r,h')->wpM G c (eF d r h') [] (aC ks b) h
theorem mB(y:P.follows .mixedOrders=true){e:Gv}(o:GamOK P e G){f:FuncId}{b:Func}{c:Code}(q:P.funcs[f]?=some b)(p:b.body=some c){ks ow:List Nat}{dl:List (List Nat)}{rs:List RV}{j:MC}(v:ks.all (fun k=>decide (k<b.ntmps))=true)(E:lE P b.results.toList=some rs)(z:(bU P e ks b.ntmps ow c dl).1=j){F:List AV->aA->Option (AV×aA)}(m:∀d h r h',F d h=some (r,h')->wpM G j (eF rs r h') [] (aC ks d) h):gG P e f F:=by
 intro B C h w d r h' N t g A n;subst t;have H:=rY (n:=b.ntmps) g v A;have i:=m d h r h' n;rw[<-z]at i;have I:=kX y c true none (fun _=>rfl) B (GamOK.b o) dl _ w [] _ [] _ h _ _ w H (.start rfl) i;refine uR q p g.hB I fun x env fr M l L w' k0 k5 k6 k7=>?_;obtain⟨k2,k3,k4⟩:=k0;subst k4;refine⟨k2,?_⟩;obtain⟨u,J,K⟩:=vL k5.inv k5.rel E k3;exact⟨u,K,u,l,rfl,k6,k5.inv,J,k7⟩
def yK9(b:List RV)(r:AV)(h':aA):aS:=fun x env fr h=>(match x with|.exit _=>False|_=>True)/\∃v,cZ (aV env fr) h b=some v/\frz h v=some (r,h')
theorem zy8(H:P.follows .mixedOrders=true){e:Gv}(t:GamOK P e G){f:FuncId}{b:Func}{c:Code}(z:P.funcs[f]?=some b)(y:b.body=some c){ks ow:List Nat}{dl:List (List Nat)}{l:List RV}{j:MC}(E:ks.all (fun k=>decide (k<b.ntmps))=true)(K:lE P b.results.toList=some l)(I:(bU P e ks b.ntmps ow c dl).1=j){F:List AV->aA->Option (AV×aA)}(p:∀d h r h',F d h=some (r,h')->wpM G j (yK9 l r h') [] (aC ks d) h):gG P e f F:=by
 intro B C h w d r h' X A g J q;subst A;have L:=rY (n:=b.ntmps) g E J;have i:=p d h r h' q;rw[<-I]at i;have M:=kX H c true none (fun _=>rfl) B (GamOK.b t) dl _ w [] _ [] _ h _ _ w L (.start rfl) i;refine uR z y g.hB M fun x env fr W S T w' k0 k5 k6 k7=>?_;obtain⟨k2,v,k3,k4⟩:=k0;refine⟨k2,?_⟩;obtain⟨u,N,O⟩:=vL k5.inv k5.rel K k3;obtain⟨D,m,n,o,U,V⟩:=tA k5.inv k4 N;exact⟨u,O,u,D,rfl,k6.trans m,n,o.mono (Cx.frozen_le D),k7⟩
def itQ(h':aA):aS:=fun x _ _ h=>(match x with|.exit _=>False|_=>True)/\h=h'
theorem zI7(E:P.follows .mixedOrders=true){g:Gv}(q:GamOK P g G){f:FuncId}{d:Func}{c:Code}(v:P.funcs[f]?=some d)(t:d.body=some c){ks T:List Nat}{i:List (List Nat)}{m:MC}(A:ks.all (fun k=>decide (k<d.ntmps))=true)(K:d.results.toList=[])(H:(bU P g ks d.ntmps T c i).1=m){F:ItF}(p:∀(Y:Nat->List AV->aA->Option (AV×aA))(e:List AV)(k N:Nat)(h h':aA),mF (F e h) (Y k) N 0 h h'->wpM {G with y:=Y} m (itQ h') [] (aC ks (.yld k::e)) h):VI P g f F:=by
 intro B C h h' w e U k b N Y z j I u r L;subst z;have J:RelL C (.yld k::e) (#[Value.func (.yield b) #[] #[]]++U).toList:=by rw[Array.toList_append];exact .cons (.yld k b u) I
 have M:=rY (n:=d.ntmps) j A J;have l:=p Y e k N h h' L;rw[<-H]at l;have S:=kX E c true none (fun _=>rfl) B (GamOK.withY q r) i _ w [] _ [] _ h _ _ w M (.start rfl) l;refine uR v t j.hB S fun x env fr V n o w' k0 k5 k6 k7=>?_;obtain⟨k2,k4⟩:=k0;subst k4;refine⟨k2,?_⟩;have O:(results d o.tmps).run P w'=.ok (.tuple #[]) w':=by
  unfold results;rw[Array.mapM_eq_mapM_toList,K];simp
 exact⟨_,O,_,n,rfl,k6,k5.inv,k7⟩
def Gam.none:Gam:=⟨fun _=>Option.none,fun _ _ _=>Option.none⟩
def Gam.add(G:Gam)(f:FuncId)(c:CT):Gam:={G with fn:=fun g=>if g=f then some c else G g}
theorem zy6(b:Gv):GamOK P b Gam.none:=⟨fun f c h=>by simp[Gam.none]at h,fun f c h=>by simp[Gam.none]at h,fun _ _ _=>rfl⟩
def zY(P:Program)(f:FuncId):Bool:=match P.funcs[f]? with
 |some b=>b.name != "runtime.NumGoroutine"&&b.body.isSome|none=>false
theorem enters_of{f:FuncId}(h:zY P f=true):Enters P f:=by
 intro i w;unfold zY at h;split at h
 ·rename_i b g;simp only[bR]at h;have c:b.name≠ "runtime.NumGoroutine":=by simpa using h.1
  have d:b.body≠none:=fun e=>by have:=h.2;rw[e]at this;cases this
  simp[callFunc,program,Sem.run,g,c,d]
 ·cases h
theorem bD{d:Gv}(i:GamOK P d G){f:FuncId}{c:CT}(k:zY P f=true)(j:c.OK P d f):GamOK P d (G.add f c):=by
 refine⟨fun g b h=>?_,fun g b h=>?_,i.noy⟩
 ·by_cases e:g=f;·subst e;exact enters_of k
  ·refine i.enters g b ?_;have h:(if g=f then some c else G g)=some b:=h;rwa[if_neg e]at h
 ·have h:(if g=f then some c else G g)=some b:=h;by_cases e:g=f
  ·subst e;rw[if_pos rfl]at h;injection h with h;subst h;exact j
  ·rw[if_neg e]at h;exact i.ok g b h
end
section
variable{P:Program}{B:Base}{C D:Cx}{h h':aA}{w w':World}{G:Gam}{a:Act}
theorem KY{n:Nat}:∀{b:List AV},(∀(i:Nat)c,b[i]?=some c->low n c=true)->bA n b=true
 |[],_=>rfl|c::b,h=>by
  simp only[bA,bR];exact⟨h 0 c rfl,KY fun i d e=>h (i+1) d (by simpa using e)⟩
theorem xm4{n:Nat}{v:AV}{u:Value}(E:Rel C v u)(d:∀l,n<=l->C.bl l=none/\∀k,C.ar l k=none):low n v=true:=by
 have y:∀{C:Cx}{l b:Nat},(∀l,n<=l->C.bl l=none/\∀k,C.ar l k=none)->C.bl l=some b->decide (l<n)=true:=fun{C l b}d o=>by
  rcases lY l n with m|m;·simpa using m
  ·rw[(d l m).1]at o;cases o
 have x:∀{C:Cx}{l k:Nat}{r},(∀l,n<=l->C.bl l=none/\∀k,C.ar l k=none)->C.ar l k=some r->decide (l<n)=true:=fun{C l k r}d o=>by
  rcases lY l n with m|m;·simpa using m
  ·rw[(d l m).2]at o;cases o
 induction E with
 |agg A j q h e=>
  simp only[low];refine KY fun i c g=>?_;have p:i<j.size:=by rw[<-q];exact(aF.1 g).1
  exact e i c j[i] g (by simp[p]) d|tup A j q h e=>
  simp only[low];refine KY fun i c g=>?_;have p:i<j.size:=by rw[<-q];exact(aF.1 g).1
  exact e i c j[i] g (by simp[p]) d|fn f A j q h e=>
  simp only[low];refine KY fun i c g=>?_;have p:i<j.size:=by rw[<-q];exact(aF.1 g).1
  exact e i c j[i] g (by simp[p]) d|mth f a v _ e=>simp only[low];exact e d|iface t a v _ e=>simp only[low];exact e d|ownnil l z h=>simp only[low];exact x d h|own l z k r h _=>simp only[low];exact x d h|win l z H k r h _=>simp only[low];exact x d h|ptr l F b h=>simp only[low];exact y d h|eptr l z i F r h=>simp only[low];exact x d h|map l b h=>simp only[low];exact y d h|yld l b h=>simp only[low];exact y d h|_=>rfl
theorem MG{n:Nat}{d:List AV}{g:List Value}(b:RelL C d g)(f:∀l,n<=l->C.bl l=none/\∀k,C.ar l k=none):bA n d=true:=by
 refine KY fun i c e=>?_;obtain⟨u,j,b⟩:=b.get e;exact xm4 b f
theorem zM4{n:Nat}:∀{e:List (List AV)},bA n e.flatten=true->tF n e=true
 |[],_=>rfl|r::j,h=>by
  have i:∀{b c:List AV},bA n (b++c)=true->bA n b=true/\bA n c=true:=by
   intro b;induction b with
   |nil=>exact fun h=>⟨rfl,h⟩|cons a b d=>
    intro c h;simp only[qW,bA,bR]at h⊢;exact⟨⟨h.1,(d h.2).1⟩,(d h.2).2⟩
  simp only[oF]at h;obtain⟨f,g⟩:=i h;simp only[tF,bR];exact⟨f,zM4 g⟩
theorem KW{n:Nat}:∀{h:aA},(∀(l:Nat)b,h[l]?=some b->gR n b=true)->bG n h=true
 |[],_=>rfl|b::h,k=>by
  simp only[bG,bR];exact⟨k 0 b rfl,KW fun l c d=>k (l+1) c (by simpa using d)⟩
theorem YN(c:Inv B C h w):bG h.length h=true:=by
 refine KW fun l b j=>?_;have f:=c.ok l b j;cases b with
 |cellsT tg A=>
  obtain⟨_,g,e,_,_,_,_,h5,_⟩:=f;exact MG h5 c.fr|arrX k tg y z v E=>cases k with
  |false=>rfl|true=>
   rcases f with⟨_,rfl⟩|⟨r,g,_,_,_,_,_,_,_,i,_⟩;·rfl
   ·exact zM4 (MG i c.fr)
 |mit m n seen t=>cases m with
  |none=>rfl|some m=>
   obtain⟨b,u,_,_,_,o,h4,_⟩:=f;simp only[gR];rcases lY m h.length with d|d;·simpa using d
   ·rw[(c.fr m d).1]at h4;cases h4
 |map q=>rfl|iter s p=>rfl|lp b x=>rfl|dead=>rfl
def Leaves(h' h:aA):Prop:=h'.length<=h.length/\∀(l:Nat)b,h'[l]?=some b->b=.dead\/h[l]?=some b
def OF(b:Nat)(c:List RV)(e:Nat->Option AV)(h:aA)(r:AV)(h':aA):Prop:=cZ e h c=some r/\b<=h'.length/\Leaves h' h/\low h'.length r=true/\bG h'.length h'=true
def iO(b:Nat)(c:List RV)(r:AV)(h':aA):aS:=fun x env fr h=>(match x with|.exit _=>False|_=>True)/\OF b c (aV env fr) h r h'
theorem YW{d:Cx}{i:aA}{y:World}(f:Inv B d i y)(p:Inv B C h w)(r:d.Le C)(z:i.length<=h'.length)(e:Leaves h' h)(t:bG h'.length h'=true):d.Le (C.cut h'.length)/\Inv B (C.cut h'.length) h' w:=by
 have n:(h'++h.drop h'.length).length=h.length:=by have:=e.1;simp;omega
 have o:Inv B C (h'++h.drop h'.length) w:=zI2 p n fun l m c=>by
  rcases lY l h'.length with g|g;·rw[aX g]at c;exact e.2 l m c
  ·rw[dY g,oH]at c;rw[show h'.length+(l-h'.length)=l by omega]at c;exact .inr c
 have k:(h'++h.drop h'.length).take h'.length=h':=by simp
 have j:∀l,h'.length<=l->d.bl l=none/\∀v,d.ar l v=none:=fun l e=>f.fr l (by omega);refine⟨YV r j,?_⟩;have:=ye2 o (n:=h'.length) (fun l x u=>by have:=f.rcl l x u;omega) (fun l e=>by
  have:=j l e;refine⟨?_,fun v=>?_⟩;·cases c:B.cx.bl l with
   |none=>rfl|some b=>have q:=f.cle.bl _ _ c;rw[this.1]at q;cases q
  ·cases c:B.cx.ar l v with
   |none=>rfl|some b=>have q:=f.cle.ar _ _ _ c;rw[this.2 v]at q;cases q) (by rw[k];exact t);rwa[k]at this
theorem tB(A:P.follows .mixedOrders=true){g:Gv}(q:GamOK P g G){f:FuncId}{b:Func}{c:Code}(v:P.funcs[f]?=some b)(t:b.body=some c){ks ow:List Nat}{dl:List (List Nat)}{rs:List RV}{l:MC}(z:ks.all (fun k=>decide (k<b.ntmps))=true)(H:lE P b.results.toList=some rs)(E:(bU P g ks b.ntmps ow c dl).1=l){F:List AV->aA->Option (AV×aA)}(o:∀d h r h',bA h.length d=true->bG h.length h=true->F d h=some (r,h')->wpM G l (iO h.length rs r h') [] (aC ks d) h):gG P g f F:=by
 intro B C h w d r h' W y e j p;subst y;have I:=rY (n:=b.ntmps) e z j;have i:=o d h r h' (MG j e.fr) (YN e) p;rw[<-E]at i;have J:=kX A c true none (fun _=>rfl) B (GamOK.b q) dl _ w [] _ [] _ h _ _ w I (.start rfl) i;refine uR v t e.hB J fun x env fr V T U w' k0 k5 k6 k7=>?_;obtain⟨k2,k3,K,L,M,N⟩:=k0;refine⟨k2,?_⟩;obtain⟨u,O,S⟩:=vL k5.inv k5.rel H k3;obtain⟨m,n⟩:=YW e k5.inv k6 K L N;exact⟨u,S,u,_,rfl,m,n,AL M O,k7⟩
def OG(c:Nat)(d:List RV)(e:Nat->Option AV)(h:aA)(r:AV)(h':aA):Prop:=∃v b,cZ e h d=some v/\frz h v=some (r,b)/\c<=h'.length/\Leaves h' b/\low h'.length r=true/\bG h'.length h'=true
def jM(b:Nat)(c:List RV)(r:AV)(h':aA):aS:=fun x env fr h=>(match x with|.exit _=>False|_=>True)/\OG b c (aV env fr) h r h'
theorem uY(H:P.follows .mixedOrders=true){g:Gv}(x:GamOK P g G){f:FuncId}{b:Func}{c:Code}(z:P.funcs[f]?=some b)(y:b.body=some c){ks ow:List Nat}{dl:List (List Nat)}{rs:List RV}{l:MC}(E:ks.all (fun k=>decide (k<b.ntmps))=true)(J:lE P b.results.toList=some rs)(I:(bU P g ks b.ntmps ow c dl).1=l){F:List AV->aA->Option (AV×aA)}(t:∀d h r h',bA h.length d=true->bG h.length h=true->F d h=some (r,h')->wpM G l (jM h.length rs r h') [] (aC ks d) h):gG P g f F:=by
 intro B C h w d r h' a2 A e j v;subst A;have K:=rY (n:=b.ntmps) e E j;have i:=t d h r h' (MG j e.fr) (YN e) v;rw[<-I]at i;have L:=kX H c true none (fun _=>rfl) B (GamOK.b x) dl _ w [] _ [] _ h _ _ w K (.start rfl) i;refine uR z y e.hB L fun a3 env fr h2 V W w' k0 k5 k6 k7=>?_;obtain⟨k2,a1,Z,k3,kz,M,N,O,S⟩:=k0;refine⟨k2,?_⟩;obtain⟨u,T,U⟩:=vL k5.inv k5.rel J k3;obtain⟨D,m,n,o,X,Y⟩:=tA k5.inv kz T;obtain⟨p,q⟩:=YW e n (k6.trans m) M N S;exact⟨u,U,u,_,rfl,p,q,AL O (o.mono (Cx.frozen_le D)),k7⟩
theorem zK0{n:Func}{q:Array Value}{R:Ending->World->Prop}{g:World}{m:List Deferred}(r:B.n<=g.heap.size)(fin:∀l,Inv B C h l->Keep B g l->LeavesInM Fence.wide 0 P n q R m .returning l):∀(f:List Nat)(w:World),Inv B C h w->Keep B g w->Marks g f w->LeavesInM Fence.wide 0 P n q R (f.map mark++m) .returning w
 |[],w,j,b,_=>fin w j b|D::f,w,j,b,d=>by
  obtain⟨t,o⟩:=d.there D (by simp);refine⟨by simp,.inl ⟨D,_,rfl,run_takeDeferred o,?_⟩⟩;refine zK0 r fin f _ (zI3 j o _) ⟨?_,fun k c p=>?_⟩ ⟨(wM.1 d.nodup).2,fun E i=>?_⟩;·exact b.below.trans ⟨rfl,rfl,rfl,by simp,fun k b=>World.putObj_heap_other (by omega)⟩
  ·have:k≠D:=fun e=>by subst e;have:=fM p;omega
   exact(World.putObj_heap_other this).trans (b.sys k c p)
  ·have:E≠D:=fun e=>by subst e;exact(wM.1 d.nodup).1 i
   exact⟨(d.there E (by simp[i])).1,(World.putObj_heap_other this).trans (d.there E (by simp[i])).2⟩
def ze9:Code->Option (Array Oper×Array Oper×Oper×Nat×FuncId×Array Operand×Code)
 |.seq (.region _ j false) (.seq (.region _ d false) k)=>match d.toList with
  |[b,c]=>(match b.op,b.dst,b.guard,c.op,c.dst,c.guard with
   |.makeFunc (.func g) i f,some t,none,.defer ⟨.value (.tmp l),e,_⟩,none,none=>if t=l/\i.toList=[]/\e.toList=[]then some (j,d,b,t,g,f,k)else none|_,_,_,_,_,_=>none)|_=>none
 |_=>none
def zc1:Code->Option (Array Oper)
 |.region _ b false=>some b|_=>none
theorem zy7(hm:P.follows .mixedOrders=true){p:Gv}(L:GamOK P p G){f1:FuncId}{d:Func}{c:Code}(hf:P.funcs[f1]?=some d)(hb:d.body=some c){ks ow:List Nat}{dl:List (List Nat)}{rs:List RV}{j1 j2:Array Oper}{o1:Oper}{l2:Nat}{g:FuncId}{l3:Array Operand}{l1:Code}(i:ze9 c=some (j1,j2,o1,l2,g,l3,l1)){i2:List MI}{m1:MI}{mc:MC}(C1:ks.all (fun c2=>decide (c2<d.ntmps))=true)(C2:ks.contains l2=false)(G2:lE P d.results.toList=some rs)(q:aO P p ks d.ntmps ow j1=i2)(h1:dF P p ks d.ntmps ow j2 o1=m1)(D2:(bU P p ks d.ntmps ow l1 dl).1=mc){k:Func}{Y:Code}{g1:Array Oper}{Z gow:List Nat}{f3:List MI}(hg:P.funcs[g]?=some k)(y1:k.body=some Y)(t:zc1 Y=some g1)(A2:k.results.toList=[])(A1:Z.all (fun c2=>decide (c2<k.ntmps))=true)(y2:Enters P g)(z3:aO P p Z k.ntmps gow g1=f3){d1:List AV->aA->Option (AV×aA)}(hF:∀args h r h',bA h.length args=true->bG h.length h=true->d1 args h=some (r,h')->∃d2 o q I,run G false i2 (.ok [] (aC ks args) h)=.ok d2 o q/\dG G false m1 (aV [] o) q=some (.fn g I,q)/\wpM G mc (fun x env fr h1=>(match x with|.exit _=>False|_=>True)/\∃d3 f2 F,run G false f3 (.ok [] (aC Z I) h1)=.ok d3 f2 F/\OF h.length rs (aV env fr) F r h') [] o q):gG P p f1 d1:=by
 intro B C h w args r h' K1 A3 N hr v1;subst A3;have H1:=rY (n:=d.ntmps) N C1 hr;obtain⟨d2,o,F,I,e1,n,e3⟩:=hF args h r h' (MG hr N.fr) (YN N) v1;unfold ze9 at i;split at i
 ·rename_i i0 J3 i1 H I1;split at i
  ·rename_i u l D3;split at i
   ·rename_i j I3 I2 z t' o3 r3 q1 T q3 q4 q5 q6;split at i
    ·rename_i hc;obtain⟨rfl,J2,v3⟩:=hc;simp only[aE,aR]at i;obtain⟨rfl,rfl,rfl,rfl,rfl,rfl,rfl⟩:=i;have x2:o3=#[]:=by rw[<-oE];simpa using v3
     subst x2;have b3:H=#[u,l]:=by rw[<-oE];simpa using D3
     refine(callsIn_wide (n:=0)).1 (callsIn_of_wp_marks (F:=Fence.wide) hf hb trivial ?_);rw[<-q]at e1;rw[<-h1]at n;rw[<-D2]at e3;refine wpIn_seq (F:=fR none) (zc2 (ro:=none) (GamOK.b L) H1 e1 fun D1 X w1 p1 y p3 p4=>?_);refine wpIn_seq (F:=fR none) (wpIn_region ?_);have G1:List.range H.size=[0,1]:=by rw[b3];rfl
     rw[G1,wpOpsIn_cons];have S:=y.clear;refine zf4 (ro:=none) (GamOK.b L) S.inv S.rel (k:=0) (o:=u) (by rw[b3];rfl) n fun c3 D A k1 k2 k3 k4=>?_;rw[wpOpsIn_cons];unfold wpOpIn;have y3:H[1]?=some l:=by rw[b3];rfl
     simp only[y3];rw[if_pos (by simp[Region.wanted,q6])];cases k3 with|fn _ _ f hl hh=>
     have g2:(X.put u.dst (.func (.func j) #[] f)).eval (.tmp z)=.func (.func j) #[] f:=by
      rw[T];have ht:z<X.tmps.size:=by
       have b2:dF P B.gv ks d.ntmps ow H u≠dB:=fun e=>by rw[e,sS]at n;cases n
       exact sP ((DO b2).2.2 z T) y.size
      simp[Act.put,Act.eval,ht]
     obtain⟨m,b1⟩:∃m3:Deferred,m3={target:=.fn (.func j) f,args:=#[]}:=⟨_,rfl⟩;obtain⟨b,M⟩:∃b,b=X.put u.dst (.func (.func j) #[] f):=⟨_,rfl⟩;rw[<-M]at g2⊢;have x3:b.defers=[]:=by rw[M,SU,p3]
     unfold Oper.wpIn;refine⟨fun _ _=>trivial,?_⟩;have G3:((l.semAt (fR none).round b.eval).run P A)=.ok (.defer m) A:=by
      have es:l.semAt (fR none).round b.eval=execOp b.eval l:=Oper.semAt_none _ _;have e9:execOp b.eval l=execOp b.eval {l with op:=.defer ⟨.value (.tmp z),#[],r3⟩}:=by rw[<-q4]
      rw[es,e9,b1];simp[execOp,resolve,g2,ZX]
     rw[G3,Oper.uponIn_defer,q5];have E2:RelT D (aV [] o) b:=by
      rw[M,T];refine(S.rel.mono k1).put (.fn j I f hl hh) (fun t' c1=>?_) (fun t' x hx=>?_)
      ·injection c1 with c1;subst c1;have b2:dF P B.gv ks d.ntmps ow H u≠dB:=fun e=>by rw[e,sS]at n;cases n
       exact sP ((DO b2).2.2 z T) y.size
      ·refine .inr ⟨fun e=>?_,hx⟩;injection e with e;subst e;have:=y.keys z x (by simpa[aV,lkp]using hx);rw[C2]at this;cases this
     have H2:StOK ks d.ntmps B D [] o F {b with defers:=m::b.defers} A:=⟨k2,E2,S.sep,y.keys,by rw[M];simp only[SV];exact y.size⟩;have u2:C.Le D:=p1.trans k1;have v2:Keep B w A:=p4.trans k4;have hw:=kX hm I1 true none (fun _=>rfl) B (GamOK.b L) dl D A [m] _ [] _ F _ {b with defers:=m::b.defers} A H2 (.start (by simp[x3])) e3;refine wpIn_mono hw fun e K w3 hp=>?_;obtain⟨x,env,fr,h3,W,n1,n2,n3,O⟩:=hp;obtain⟨Ds,hD,hM⟩:=O.ds;obtain⟨m0,d3,f2,h4,i3,m2⟩:=n2;have j3:LeavesInM Fence.wide 0 P d K.tmps (fun e w'=>∃v D,e=.returned v/\C.Le D/\Inv B D h' w'/\Rel D r v/\Keep B w w') K.defers .returning w3:=by
      rw[hD];refine zK0 (C:=W) (h:=h3) k2.hB (fun J B1 B3=>?_) Ds w3 n3.inv O.keep hM;have B2:(invoke m.target m.args).run P J=.ok (.enter j f) J:=by
       rw[b1];simp only[invoke];have:=y2 f J;simpa using this
      refine⟨by simp,.inr ⟨QG (ro:=none),.func j,f,j,f,by rw[b1],B2,fun _ _=>trivial,?_⟩⟩;have x1:RelL W I f.toList:=⟨by simpa using hl,fun g3 c v hc hv=>(hh g3 c v hc (by simpa using hv)).mono O.le⟩;have H3:=rY (n:=k.ntmps) B1 A1 x1;have E1:Y.wpIn (fR none) 0 P (bodyPost P k fun e w'=>∃E,e=.returned (.tuple #[])/\W.Le E/\Inv B E h4 w'/\Keep B J w') {tmps:=f++Array.replicate (k.ntmps-f.size) undef,defers:=[]} J:=by
       unfold zc1 at t;split at t
       ·rename_i ig J1;injection t with t;subst t;rw[<-z3]at i3;refine zc2 (ro:=none) (GamOK.b L) H3 i3 fun D5 a5 w5 U V s3 s4=>?_;refine⟨s3,.tuple #[],?_,D5,rfl,U,V.inv,s4⟩;unfold results;rw[Array.mapM_eq_mapM_toList,A2];simp
       ·cases t
      refine CallsDIn.mono (callsDIn_of_wp (F:=Fence.wide) (n:=0) hg y1 trivial E1) fun e u' w' hk=>?_;obtain⟨rfl,E,rfl,U,V,s3⟩:=hk;show LeavesInM Fence.wide 0 P d K.tmps _ [] (settle .returning) w';obtain⟨t1,t2,t3,t4,t5⟩:=m2;have E3:RelT E (aV env fr) K:=n3.rel.mono U;obtain⟨c3,r1,r2⟩:=vL V E3 G2 t1;have u1:C.Le E:=u2.trans (O.le.trans U);obtain⟨z1,z2⟩:=YW N V u1 t2 t3 t5;exact⟨c3,r2,c3,_,rfl,z1,z2,AL t4 r1,v2.trans (B3.trans s3)⟩
     cases x with
     |normal=>cases e<;>simp only[MX.is]at n1;exact j3|ret=>cases e<;>simp only[MX.is]at n1;exact j3|exit g3=>exact m0.elim
    ·cases i
   ·cases i
  ·cases i
 ·cases i
end
section
variable{G:Gam}
def wG(G:Gam)(b:List Nat)(a:MC)(n:Nat)(Q:aS)(fr:List (Nat×AV))(h:aA):Prop:=∃N,gS (wpM G a) b n Q N [] fr h
theorem zW4{T:aS->List (Nat×AV)->List (Nat×AV)->aA->Prop}{b:List Nat}{n:Nat}{Q:aS}{N:Nat}{env env' fr:List (Nat×AV)}{h:aA}:gS T b n Q N env fr h=gS T b n Q N env' fr h:=by cases N<;>rfl
theorem xG4{b:List Nat}{a:MC}{Q:aS}{env fr:List (Nat×AV)}{h:aA}:wpM G (.loop b a) Q env fr h=wG G b a h.length Q fr h:=by
 simp only[wpM,wG];congr 1;funext N;exact zW4
theorem yY2{c:List Nat}{a:MC}{n:Nat}{Q:aS}{fr:List (Nat×AV)}{h:aA}(m:wpM G a (oY (fun _ _ fr h=>wG G c a n Q fr h) Q) [] (aY c fr) (nU c n (aY c fr) h)):wG G c a n Q fr h:=by
 obtain⟨L,k1,k2⟩:=nW a [] (aY c fr) (nU c n (aY c fr) h) (fun o=>oY (fun _ _ fr h=>wG G c a n Q fr h) Q o.1 o.2.1 o.2.2.1 o.2.2.2) m;have d:∀L:List mK,(∀o∈L,oY (fun _ _ fr h=>wG G c a n Q fr h) Q o.1 o.2.1 o.2.2.1 o.2.2.2)->∃N,∀o∈L,oY (fun _ env fr h=>gS (wpM G a) c n Q N env fr h) Q o.1 o.2.1 o.2.2.1 o.2.2.2:=by
  intro L;induction L with
  |nil=>intro _;exact⟨0,by simp⟩|cons o L q=>
   intro j;obtain⟨N,d⟩:=q fun p b=>j p (by simp[b]);have g:=j o (by simp);obtain⟨x,e,f,k⟩:=o;cases x with
   |normal=>
    obtain⟨M,l⟩:=g;refine⟨max N M,fun p b=>?_⟩;rcases dD.1 b with rfl|b;·exact zc9 (nW a) M _ _ _ _ (Nat.le_max_right _ _) (by rw[zW4 (env':=[])];exact l)
    ·have:=d p b;obtain⟨x,e,f,k⟩:=p;cases x with
     |normal=>exact zc9 (nW a) N _ _ _ _ (Nat.le_max_left _ _) this|exit i=>exact this|ret=>exact this
   |exit i=>
    refine⟨N,fun p b=>?_⟩;rcases dD.1 b with rfl|b;·exact g
    ·exact d p b|ret=>
    refine⟨N,fun p b=>?_⟩;rcases dD.1 b with rfl|b;·exact g
    ·exact d p b
 obtain⟨N,d⟩:=d L k1;exact⟨N+1,by simp only[gS];exact k2 (fun o=>oY (fun _ env fr h=>gS (wpM G a) c n Q N env fr h) Q o.1 o.2.1 o.2.2.1 o.2.2.2) d⟩
def after(Q:aS):R->Prop
 |.ok env fr h=>Q .normal env fr h|.bad=>False
theorem xG5{b:List MI}{Q:aS}{env fr:List (Nat×AV)}{h:aA}:wpM G (.reg b) Q env fr h=after Q (run G false b (.ok [] fr h)):=by simp only[wpM,after]
theorem xG6{b:List MI}{Q:aS}{env fr:List (Nat×AV)}{h:aA}:wpM G (.rgd b) Q env fr h=after Q (run G true b (.ok [] fr h)):=by simp only[wpM,after]
def zq9(b c:Prop):Option AV->Prop
 |some (.bool t)=>if t then b else c|_=>False
theorem xG3{c:At}{a b:MC}{Q:aS}{env fr:List (Nat×AV)}{h:aA}:wpM G (.ite c a b) Q env fr h=zq9 (wpM G a Q env fr h) (wpM G b Q env fr h) (gO (aV env fr) c):=by simp only[wpM,zq9]
end
inductive MK where|seq(b:MC)|blk(id:Nat)|loop(dead:List Nat)(a:MC)(n:Nat)
def mP(G:Gam):List MK->aS->aS
 |[],Q=>Q|.seq b::ks,Q=>oY (fun _ env fr h=>wpM G b (mP G ks Q) env fr h) (mP G ks Q)|.blk id::ks,Q=>oL id (mP G ks Q)|.loop d a n::ks,Q=>oY (fun _ _ fr h=>wG G d a n (mP G ks Q) fr h) (mP G ks Q)
def goM(G:Gam)(c:MC)(ks:List MK)(Q:aS)(env fr:List (Nat×AV))(h:aA):Prop:=wpM G c (mP G ks Q) env fr h
def exM(G:Gam)(x:MX)(ks:List MK)(Q:aS)(env fr:List (Nat×AV))(h:aA):Prop:=mP G ks Q x env fr h
def cY(G:Gam)(d:List Nat)(a:MC)(n:Nat)(ks:List MK)(Q:aS)(fr:List (Nat×AV))(h:aA):Prop:=wG G d a n (mP G ks Q) fr h
def oV(G:Gam)(s:Bool)(b:List MI)(ks:List MK)(Q:aS)(env fr:List (Nat×AV))(h:aA):Prop:=after (mP G ks Q) (run G s b (.ok env fr h))
def zP(G:Gam)(s:Bool)(c:Option Nat)(d:Bool)(b:List MI)(ks:List MK)(Q:aS)(env fr:List (Nat×AV)):Option (AV×aA)->Prop
 |none=>False|some (v,h)=>match c with
  |none=>oV G s b ks Q env fr h|some t=>if d then oV G s b ks Q env (upd t v fr) h else oV G s b ks Q ((t,v)::env) fr h
def opV(G:Gam)(s:Bool)(h:aA)(o:AO):Option (List AV)->Option (AV×aA)
 |some b=>if s&&!o.loud then(iN G h o b).map fun v=>(v,h)else fV G h o b|none=>none
def xC(c:Bool)(h:aA)(r:Option (AV×aA)):Option AV->Option (AV×aA)
 |some (.bool b)=>if b=c then r else some (rV,h)|some (.tup [])=>some (rV,h)|_=>none
section
variable{G:Gam}{s:Bool}{ks:List MK}{Q:aS}{env fr:List (Nat×AV)}{h:aA}
theorem aT{c:MC}:wpM G c Q env fr h=goM G c [] Q env fr h:=rfl
@[simp]theorem xP5:goM G .skip ks Q env fr h=exM G .normal ks Q env fr h:=rfl
@[simp]theorem fX:goM G .ret ks Q env fr h=exM G .ret ks Q env fr h:=rfl
@[simp]theorem xO9{id:Nat}:goM G (.exit id) ks Q env fr h=exM G (.exit id) ks Q env fr h:=rfl
@[simp]theorem EM{a b:MC}:goM G (.seq a b) ks Q env fr h=goM G a (.seq b::ks) Q env fr h:=rfl
@[simp]theorem xO7{id:Nat}{a:MC}:goM G (.blk id a) ks Q env fr h=goM G a (.blk id::ks) Q env fr h:=rfl
@[simp]theorem xP1{d:List Nat}{a:MC}:goM G (.loop d a) ks Q env fr h=cY G d a h.length ks Q fr h:=xG4
@[simp]theorem xP2{b:List MI}:goM G (.reg b) ks Q env fr h=oV G false b ks Q [] fr h:=xG5
def uP(G:Gam)(c:Option Nat)(e:Bool)(d:List MI)(ks:List MK)(Q:aS)(fr:List (Nat×AV)):Option (List (AV×aA))->Prop
 |some b=>∀r∈b,zP G false c e d ks Q [] fr (some r)|none=>False
def zO9(G:Gam)(b:Option Nat)(d:Bool)(c:List MI)(ks:List MK)(Q:aS)(fr:List (Nat×AV))(h:aA):Option AV->Prop
 |some (.ptr l 0)=>uP G b d c ks Q fr (iG h l)|_=>False
@[simp]theorem xR1{b:Option Nat}{d:Bool}{c:List MI}{l:Nat}:zO9 G b d c ks Q fr h (some (.ptr l 0))=uP G b d c ks Q fr (iG h l):=rfl
theorem run_bind_reg{c:Option Nat}{g:Bool}{b:List MI}{r:AV×aA}:(match run G false b (iD c g [] fr (some r))with
  |.ok d f h'=>mP G ks Q .normal d f h'|.bad=>False)=zP G false c g b ks Q [] fr (some r):=by
 obtain⟨v,i⟩:=r;have e:∀env fr h,(match run G false b (.ok env fr h)with
  |.ok d f h'=>mP G ks Q .normal d f h'|.bad=>False)=oV G false b ks Q env fr h:=fun env fr h=>by simp only[oV,after]<;>rfl
 cases c with
 |none=>exact e _ _ _|some t=>cases g<;>exact e _ _ _
theorem yo8{d:Option Nat}{f:Bool}{e:List MI}{y:Option (List (AV×aA))}:(match y with
  |some c=>∀r∈c,match run G false e (iD d f [] fr (some r))with
   |.ok g i h'=>mP G ks Q .normal g i h'|.bad=>False
  |none=>False)=uP G d f e ks Q fr y:=by cases y with
 |none=>rfl|some c=>exact propext ⟨fun k r b=>run_bind_reg.mp (k r b),fun k r b=>run_bind_reg.mpr (k r b)⟩
@[simp]theorem EL{g:At}{b:Option Nat}{d:Bool}{c:List MI}:goM G (.rgn g b d c) ks Q env fr h=zO9 G b d c ks Q fr h (gO (aV [] fr) g):=by
 simp only[goM,wpM];generalize gO (aV [] fr) g=x;cases x with
 |none=>rfl|some v=>
  cases v<;>first|rfl|skip
  rename_i l e;cases e with
  |succ _=>rfl|zero=>exact yo8
@[simp]theorem xO8{a b:MC}:goM G (.both a b) ks Q env fr h=(goM G a ks Q env fr h/\goM G b ks Q env fr h):=rfl
def nR(G:Gam)(b:aA)(c:List ME)(ks:List MK)(Q:aS)(d:jD)(env fr:List (Nat×AV))(h:aA):Prop:=jP G b c (fun e f h=>exM G .normal ks Q e f h) d env fr h
def wR(G:Gam)(b:aA)(e:Option Nat)(f:Bool)(c:List ME)(ks:List MK)(Q:aS)(d:AV->jD)(env fr:List (Nat×AV)):Option (AV×aA)->Prop
 |none=>False|some (v,h)=>match e with
  |none=>nR G b c ks Q (d v) env fr h|some t=>if f then nR G b c ks Q (d v) env (upd t v fr) h else nR G b c ks Q (d v) ((t,v)::env) fr h
def zY0(b:aA)(c r:Option (AV×aA)):Prop:=∀v h,r=some (v,h)->c=some (v,b)
@[simp]theorem xq1{b h:aA}{v:AV}{c:Option (AV×aA)}:zY0 b c (some (v,h))=(c=some (v,b)):=by
 apply propext;exact⟨fun k=>k v h rfl,fun k d h' e=>by cases e;exact k⟩
def zJ7(G:Gam)(m:MI)(env fr:List (Nat×AV))(v:AV):aA->Prop:=fun h=>dG G true m (aV env fr) h=some (v,h)
@[simp]theorem xV1:mX h []=True:=rfl
@[simp]theorem xV3{m:MI}{e f:List (Nat×AV)}{v:AV}{r:jD}:mX h ((0,zJ7 G m e f v)::r)=(dG G true m (aV e f) h=some (v,h)/\mX h r):=rfl
@[simp]theorem xV2{n:Nat}{c:aA->Prop}{r:jD}:mX h ((n+1,c)::r)=mX h r:=rfl
@[simp]theorem xV6:mE []=[]:=rfl
@[simp]theorem xV8{c:aA->Prop}{r:jD}:mE ((0,c)::r)=mE r:=rfl
@[simp]theorem xV7{n:Nat}{c:aA->Prop}{r:jD}:mE ((n+1,c)::r)=(n,c)::mE r:=rfl
@[simp]theorem xV5{m:MI}{v:AV}:qF G m env fr v []=[]:=rfl
@[simp]theorem xV4{m:MI}{v:AV}{d:Nat}{r:List Nat}:qF G m env fr v (d::r)=(d,zJ7 G m env fr v)::qF G m env fr v r:=rfl
@[simp]theorem xP4{b:List ME}:goM G (.rge b) ks Q env fr h=nR G h b ks Q [] [] fr h:=rfl
@[simp]theorem xW2{c:aA}{b:jD}:nR G c [] ks Q b env fr h=(mX h b/\exM G .normal ks Q env fr h):=rfl
@[simp]theorem xW3{e:aA}{c:jD}{i:List Nat}{g:Option (Nat×Bool)}{d:Option Nat}{k:Bool}{o:AO}{b:List At}{f:List ME}:nR G e ((false,i,⟨g,d,k,o,b⟩)::f) ks Q c env fr h=(mX h c/\wR G e d k f ks Q (fun v=>qF G ⟨g,d,k,o,b⟩ env fr v i++mE c) env fr (dG G true ⟨g,d,k,o,b⟩ (aV env fr) h)):=by
 unfold nR;simp only[jP];congr 1;cases dG G true ⟨g,d,k,o,b⟩ (aV env fr) h with
 |none=>rfl|some r=>obtain⟨v,h'⟩:=r;cases d<;>simp[wR,nR]
@[simp]theorem xW1{c:aA}{e:jD}{i:List Nat}{g:Option (Nat×Bool)}{d:Option Nat}{k:Bool}{o:AO}{b:List At}{f:List ME}:nR G c ((true,i,⟨g,d,k,o,b⟩)::f) ks Q e env fr h=(mX h e/\zY0 c (dG G true ⟨g,d,k,o,b⟩ (aV env fr) c) (dG G true ⟨g,d,k,o,b⟩ (aV env fr) h)/\wR G c d k f ks Q (fun v=>qF G ⟨g,d,k,o,b⟩ env fr v i++mE e) env fr (dG G true ⟨g,d,k,o,b⟩ (aV env fr) h)):=by
 unfold nR;simp only[jP];congr 1;cases j:dG G true ⟨g,d,k,o,b⟩ (aV env fr) h with
 |none=>simp[wR]|some r=>obtain⟨v,h'⟩:=r;rw[xq1];cases d<;>simp[wR,nR]
@[simp]theorem xI6{b:aA}{c:List ME}{e:Bool}{v:AV}{d:AV->jD}:wR G b none e c ks Q d env fr (some (v,h))=nR G b c ks Q (d v) env fr h:=rfl
@[simp]theorem xI4{b:aA}{c:List ME}{t:Nat}{v:AV}{d:AV->jD}:wR G b (some t) false c ks Q d env fr (some (v,h))=nR G b c ks Q (d v) ((t,v)::env) fr h:=rfl
@[simp]theorem xI5{b:aA}{c:List ME}{t:Nat}{v:AV}{d:AV->jD}:wR G b (some t) true c ks Q d env fr (some (v,h))=nR G b c ks Q (d v) env (upd t v fr) h:=rfl
@[simp]theorem xP3{b:List MI}:goM G (.rgd b) ks Q env fr h=oV G true b ks Q [] fr h:=xG6
def YP(G:Gam)(a b:MC)(ks:List MK)(Q:aS)(env fr:List (Nat×AV))(h:aA):Option AV->Prop
 |some (.bool t)=>goM G (if t then a else b) ks Q env fr h|_=>False
@[simp]theorem xP0{c:At}{a b:MC}:goM G (.ite c a b) ks Q env fr h=YP G a b ks Q env fr h (gO (aV env fr) c):=by
 simp only[goM,xG3];generalize gO (aV env fr) c=r;cases r with
 |none=>rfl|some v=>cases v<;>first|rfl|(rename_i t;cases t<;>rfl)
@[simp]theorem xQ1{a b:MC}:YP G a b ks Q env fr h (some (.bool true))=goM G a ks Q env fr h:=rfl
@[simp]theorem xQ0{a b:MC}:YP G a b ks Q env fr h (some (.bool false))=goM G b ks Q env fr h:=rfl
@[simp]theorem xN0{x:MX}:exM G x [] Q env fr h=Q x env fr h:=rfl
@[simp]theorem xN3{b:MC}:exM G .normal (.seq b::ks) Q env fr h=goM G b ks Q env fr h:=rfl
@[simp]theorem xM9{b:MC}{i:Nat}:exM G (.exit i) (.seq b::ks) Q env fr h=exM G (.exit i) ks Q env fr h:=rfl
@[simp]theorem xN7{b:MC}:exM G .ret (.seq b::ks) Q env fr h=exM G .ret ks Q env fr h:=rfl
@[simp]theorem xN1{id:Nat}:exM G .normal (.blk id::ks) Q env fr h=exM G .normal ks Q env fr h:=rfl
@[simp]theorem xN5{id:Nat}:exM G .ret (.blk id::ks) Q env fr h=exM G .ret ks Q env fr h:=rfl
@[simp]theorem xM7{id i:Nat}:exM G (.exit i) (.blk id::ks) Q env fr h=exM G (if i=id then .normal else .exit i) ks Q env fr h:=by simp only[exM,mP,oL];split<;>rfl
@[simp]theorem xN2{d:List Nat}{a:MC}{n:Nat}:exM G .normal (.loop d a n::ks) Q env fr h=cY G d a n ks Q fr h:=rfl
@[simp]theorem xM8{d:List Nat}{a:MC}{n i:Nat}:exM G (.exit i) (.loop d a n::ks) Q env fr h=exM G (.exit i) ks Q env fr h:=rfl
@[simp]theorem xN6{d:List Nat}{a:MC}{n:Nat}:exM G .ret (.loop d a n::ks) Q env fr h=exM G .ret ks Q env fr h:=rfl
theorem zG0{d:List Nat}{a:MC}{n:Nat}(b:goM G a (.loop d a n::ks) Q [] (aY d fr) (nU d n (aY d fr) h)):cY G d a n ks Q fr h:=yY2 b
theorem yS1{d:List Nat}{a:MC}{n:Nat}(c:goM G a (.loop d a n::ks) Q [] (aY d fr) (trunc n (aY d fr) h))(b:d.contains 999999=false:=by rfl):cY G d a n ks Q fr h:=by
 refine zG0 ?_;unfold nU;rw[b];exact c
@[simp]theorem xW5:oV G s [] ks Q env fr h=exM G .normal ks Q env fr h:=rfl
@[simp]theorem xW4{i:MI}{b:List MI}:oV G s (i::b) ks Q env fr h=zP G s i.dst i.kept b ks Q env fr (dG G s i (aV env fr) h):=by
 simp only[oV,run,EE,zP];cases dG G s i (aV env fr) h with
 |none=>simp only[iD,BB,after]|some c=>
  obtain⟨v,h'⟩:=c;simp only[iD];cases i.dst with
  |none=>rfl|some t=>simp only[];split<;>rfl
@[simp]theorem xI9{b:List MI}{c:Bool}{v:AV}:zP G s none c b ks Q env fr (some (v,h))=oV G s b ks Q env fr h:=rfl
@[simp]theorem xI7{b:List MI}{t:Nat}{v:AV}:zP G s (some t) false b ks Q env fr (some (v,h))=oV G s b ks Q ((t,v)::env) fr h:=rfl
@[simp]theorem xI8{b:List MI}{t:Nat}{v:AV}:zP G s (some t) true b ks Q env fr (some (v,h))=oV G s b ks Q env (upd t v fr) h:=rfl
@[simp]theorem xX1{d:Option Nat}{k:Bool}{o:AO}{b:List At}{e:Nat->Option AV}:dG G s ⟨none,d,k,o,b⟩ e h=opV G s h o (iF e b):=by simp only[dG,opV];split<;>rename_i c<;>rw[c]
@[simp]theorem xX0{d:Option Nat}{k:Bool}{o:AO}{c:List At}{e:Nat->Option AV}{t:Nat}{f:Bool}:dG G s ⟨some (t,f),d,k,o,c⟩ e h=xC f h (opV G s h o (iF e c)) (e t):=by
 simp only[dG];generalize e t=r;cases r with
 |none=>rfl|some v=>cases v<;>first|rfl|(rename_i b;simp only[xC,opV];generalize iF e c=x;cases x<;>rfl)|(rename_i g;cases g<;>rfl)
def On(b:Bool):Prop:=b=true
instance{b:Bool}:Decidable (On b):=inferInstanceAs(Decidable (b=true))
@[simp]theorem xH8:On true=True:=by simp[On]
@[simp]theorem xH6:On false=False:=by simp[On]
@[simp]theorem xH7{b:Bool}:On (!b)=¬On b:=by simp[On]
@[simp]theorem xH5{p:Prop}[Decidable p]:On (decide p)=p:=by simp[On]
@[simp]theorem xL5{b:Bool}:decide (On b)=b:=by cases b<;>rfl
@[simp]theorem xP7{b:Bool}{r:Option (AV×aA)}:xC true h r (some (.bool b))=if On b then r else some (rV,h):=rfl
@[simp]theorem xP6{b:Bool}{r:Option (AV×aA)}:xC false h r (some (.bool b))=if On b then some (rV,h)else r:=by cases b<;>rfl
@[simp]theorem xP8{b:Bool}{r:Option (AV×aA)}:xC b h r (some rV)=some (rV,h):=rfl
@[simp]theorem xO3{e:Nat->Option AV}:iF e []=some []:=rfl
def zs2:Option AV->Option (List AV)->Option (List AV)
 |some v,some b=>some (v::b)|_,_=>none
@[simp]theorem xO2{e:Nat->Option AV}{a:At}{b:List At}:iF e (a::b)=zs2 (gO e a) (iF e b):=by
 simp only[iF];generalize gO e a=x;generalize iF e b=y;cases x<;>cases y<;>rfl
@[simp]theorem xK1{v:AV}{b:List AV}:zs2 (some v) (some b)=some (v::b):=rfl
@[simp]theorem xO1{e:Nat->Option AV}{n:Nat}:gO e (.t n)=e n:=rfl
@[simp]theorem xO0{e:Nat->Option AV}{v:AV}:gO e (.c v)=some v:=rfl
@[simp]theorem xO4{t:Nat}{v:AV}:aV ((t,v)::env) fr t=some v:=by simp[aV,lkp]
@[simp]theorem xO5{t k:Nat}{v:AV}(b:t≠k):aV ((k,v)::env) fr t=aV env fr t:=by simp[aV,lkp,b]
@[simp]theorem xO6{t:Nat}:aV [] fr t=lkp t fr:=rfl
@[simp]theorem xQ3{t:Nat}{v:AV}:lkp t ((t,v)::fr)=some v:=by simp[lkp]
@[simp]theorem xQ4{t k:Nat}{v:AV}(b:t≠k):lkp t ((k,v)::fr)=lkp t fr:=by simp[lkp,b]
@[simp]theorem xX5{t:Nat}{v x:AV}:upd t v ((t,x)::fr)=(t,v)::fr:=by simp[upd]
@[simp]theorem xX6{t k:Nat}{v x:AV}(b:t≠k):upd t v ((k,x)::fr)=(k,x)::upd t v fr:=by simp[upd,b]
theorem bW{o:AO}{b:List AV}(c:o.quiet=true):opV G s h o (some b)=(bV h o b).map fun v=>(v,h):=by
 have e:o.loud=false:=by cases o<;>simp_all[AO.loud,AO.quiet]
 have d:fV G h o b=cG G h o b:=by cases o<;>first|rfl|cases c
 cases s<;>simp only[opV,d,e,lA,wI,iB,aM,bM,bH,iN,cG,c];cases bV h o b<;>rfl
theorem fG{o:AO}{b:List AV}(c:o.turns=true):opV G s h o (some b)=bC G h o b:=by
 have f:o.loud=true:=by cases o<;>first|exact c|rfl
 have e:o.quiet=false:=by cases o<;>simp_all[AO.loud,AO.quiet]
 have d:fV G h o b=cG G h o b:=by cases o<;>first|rfl|cases c
 simp only[opV,d,f,uK,Bool.and_false,bM,bH,cG,e]
@[simp]theorem xU3{x:AV}:opV G s h .mv (some [x])=some (x,h):=by rw[bW rfl];rfl
@[simp]theorem xU6{c:Bool}{x y:AV}:opV G s h .pick (some [.bool c,x,y])=some (if On c then x else y,h):=by rw[bW rfl];rfl
@[simp]theorem xU8{x:List UInt8}:opV G s h .strid (some [.str x])=some (.str x,h):=by rw[bW rfl];rfl
@[simp]theorem xS2{o:BinOp}{x y:AV}:opV G s h (.bin o) (some [x,y])=(bY o x y).map fun v=>(v,h):=by rw[bW rfl];rfl
@[simp]theorem xT2{n b c:Bool}:opV G s h (.eqB n) (some [.bool b,.bool c])=some (.bool (if n then !(b==c)else b==c),h):=by rw[bW rfl];rfl
@[simp]theorem xU9{o:UnOp}{x:AV}:opV G s h (.un o) (some [x])=(GO o x).map fun v=>(v,h):=by rw[bW rfl];rfl
@[simp]theorem xS9{k b:IntKind}{n:Int}:opV G s h (.conv k) (some [.int b n])=some (.int k (k.wrap n),h):=by rw[bW rfl];rfl
@[simp]theorem xT6{o l b:Nat}:opV G s h (.fadr o) (some [.ptr l b])=some (.ptr l (b+o),h):=by rw[bW rfl];rfl
@[simp]theorem xT5{o b:Nat}{c:List AV}:opV G s h (.fadr o) (some [.fptr c b])=some (.fptr c (b+o),h):=by rw[bW rfl];rfl
@[simp]theorem xT4{o l v i b:Nat}:opV G s h (.fadr o) (some [.eptr l v i b])=some (.eptr l v i (b+o),h):=by rw[bW rfl];rfl
@[simp]theorem xT7{o n:Nat}{g:Bool}{b:List AV}:opV G s h (.fld o n g) (some [.agg b])=(aD g n (cut b o n)).map fun v=>(v,h):=by rw[bW rfl];rfl
@[simp]theorem xT8{n:Nat}{x i:AV}:opV G s h (.iadr n) (some [x,i])=(bN n h x i).map fun v=>(v,h):=by rw[bW rfl];rfl
@[simp]theorem xT9{n:Nat}{g:Bool}{x:AV}:opV G s h (.ld n g) (some [x])=(aB n g h x).map fun v=>(v,h):=by rw[bW rfl];rfl
@[simp]theorem xU0{k:Nat}{x:AV}:opV G s h (.len k) (some [x])=(aW h k x).map fun v=>(v,h):=by rw[bW rfl];rfl
@[simp]theorem xT3{i:Nat}{b:List AV}:opV G s h (.ext i) (some [.tup b])=(b[i]?).map fun v=>(v,h):=by rw[bW rfl];rfl
@[simp]theorem xU1{f:FuncId}{b:List AV}:opV G s h (.mkfn f) (some b)=some (.fn f b,h):=by rw[bW rfl];rfl
@[simp]theorem xU2{t:TypeId}{x:AV}:opV G s h (.mkif t) (some [x])=some (.iface t x,h):=by rw[bW rfl];rfl
@[simp]theorem xS3{z:List AV}{b:List (Nat×Nat)}{c:List AV}:opV G s h (.bld z b) (some c)=(eB z b c).map fun v=>(.agg v,h):=by rw[bW rfl];simp only[bV];cases eB z b c<;>rfl
@[simp]theorem xT1{n:Bool}{c:List EK}{d e:List AV}:opV G s h (.eqA n c) (some [.agg d,.agg e])=if d.length=c.length/\e.length=c.length then(eV c d e).map (fun b=>(.bool (if n then !b else b),h))else none:=by
 rw[bW rfl];simp only[bV];split;·cases eV c d e<;>rfl
 ·rfl
@[simp]theorem iH{z:List AV}:opV G s h (.alloc z) (some [])=some (.ptr h.length 0,h++[.cells z]):=by rw[fG rfl];rfl
@[simp]theorem LV{n:Nat}:opV G s h (.newnil n) (some [])=some (.own h.length 0 0,h++[.arr n 0 [] true]):=by rw[fG rfl];rfl
@[simp]theorem FG:opV G s h .mkmap (some [])=some (.map h.length,h++[.map []]):=by rw[fG rfl];rfl
@[simp]theorem xN{n:Nat}{a v:AV}:opV G s h (.st n) (some [a,v])=(bB n h a v).map fun h'=>(.junk,h'):=by rw[fG rfl];rfl
theorem cU{f:FuncId}{F:List AV->Option AV}{b us:List AV}{r:AV}(i:G f=some (.pure F))(j:cV h b=some us)(g:F us=some r)(c:scalar r=true\/eZ b=[]):opV G s h (.call f) (some b)=some (r,h):=by
 have d:iN G h (.call f) b=some r:=by
  simp only[iN,AO.quiet,bM,bH,i,j,g];rcases c with c|c;·rw[if_pos c]
  ·split<;>simp
 have e:=zw0 d;cases s;·simp only[opV,iB,bM,bH];exact e
 ·simp only[opV,AO.loud,lA,wI,aM,d,dI]
theorem xf8{f:FuncId}{F:List AV->Option AV}{b us:List AV}{r:AV}(d:G f=some (.pure F))(g:cV h b=some us)(c:F us=some r)(e:scalar r=false):opV G false h (.call f) (some b)=some (r,dC h (eZ b)):=by simp only[opV,iB,bM,bH,fV,cG,AO.quiet,bC,dE,d,g,c,e]
end
section
variable{G:Gam}{s:Bool}{ks:List MK}{Q:aS}{env fr:List (Nat×AV)}{h:aA}
@[simp]theorem xN4{ks:List MK}:exM G .ret ks Q env fr h=Q .ret env fr h:=by induction ks with
 |nil=>rfl|cons k ks b=>cases k<;>simpa using b
theorem bQ{d:List Nat}{a b:MC}{n:Nat}(c:a=b)(f:goM G b (.loop d a n::ks) Q [] (aY d fr) (trunc n (aY d fr) h))(e:d.contains 999999=false:=by rfl):cY G d a n ks Q fr h:=by subst c;exact yS1 f e
theorem xD{d:List Nat}{a b:MC}{n:Nat}(c:a=b)(f:goM G b (.loop d a n::ks) Q [] (aY d fr) h)(e:d.contains 999999=true:=by rfl):cY G d a n ks Q fr h:=by subst c;refine zG0 ?_;unfold nU;rw[e];exact f
theorem YS(d:List Nat):∀fr:List (Nat×AV),aY d (aY d fr)=aY d fr
 |[]=>rfl|(k,v)::r=>by
  simp only[aY,YS d r];by_cases h:k∈d<;>simp[h]
theorem xz6(n:Nat)(fr:List (Nat×AV))(h:aA):trunc n fr (trunc n fr h)=trunc n fr h:=by
 by_cases b:(cQ n fr&&bG n (h.take n))=true
 ·have e:trunc n fr h=h.take n:=by simp only[trunc,b,aM]
  rw[e];simp only[trunc,zK,Nat.min_self,ite_self]
 ·have e:trunc n fr h=h:=by simp only[trunc,b];rfl
  rw[e,e]
theorem dT{d:List Nat}{a:MC}{n:Nat}(e:cY G d a n ks Q (aY d fr) (trunc n (aY d fr) h))(c:d.contains 999999=false:=by rfl):cY G d a n ks Q fr h:=by
 obtain⟨N,b⟩:=e;refine⟨N,?_⟩;cases N with
 |zero=>exact b|succ N=>
  simp only[gS]at b⊢;simp only[nU,c,bM,bH]at b⊢;rw[YS,xz6]at b;exact b
theorem SK{n b l ver k:Nat}{x:AV}{new rows:List (List AV)}(j:rowsOf h x=some new)(f:h[l]?=some (.arr n ver rows true))(e:k=rows.length)(i:dH n new=true)(g:new≠[])(c:(k+new.length)*b<=dJ)(d:k+new.length<=dJ):opV G s h (.app false n b) (some [.own l ver k,x])=some (.own l (ver+new.length) (k+new.length),h.set l (.arr n (ver+new.length) (rows++new) true)):=by
 rw[fG rfl];simp only[bC,lZ,bM,bH,j,i,aM,nH,f];rw[if_pos ⟨trivial,e,trivial,trivial⟩,if_neg g,if_pos ⟨c,d⟩,xw6]
@[simp]theorem gF{n:Nat}{c:List AV}{s:Bool}(d:eZ c=[]):opV G s h (.bsl false n) (some c)=(cV h c).bind fun b=>if dH n (b.map AV.cells)/\nN (b.map AV.cells)/\0<n/\b.length*n<=16777216 then some (.tsl (b.map AV.cells),h)else none:=by
 cases s
 ·simp only[opV,iB,bM,bH,fV,cG,AO.quiet,bC,xA,d,dC];cases cV h c<;>rfl
 ·simp only[opV,AO.loud,lA,wI,aM,iN,AO.quiet,bM,bH,d];cases cV h c with
  |none=>rfl|some b=>simp only[wO];split<;>rfl
theorem EO{d i:Nat}{c:List (List AV)}{b:List AV}{k:IntKind}(e:c[i]?=some b)(f:b.length=d):bN d h (.sl c) (.int k i)=some (.fptr b 0):=by simp[bN,e,f]
@[simp]theorem xQ6{b d:Nat}{c:Bool}{e:List AV}:aB b c h (.fptr e d)=aD c b (cut e d b):=rfl
@[simp]theorem xQ8{b:Nat}{v:AV}:aD false b [v]=some v:=rfl
end
@[match_pattern]abbrev AV.n(x:Int):AV:=.int .i64 x
@[match_pattern]abbrev AV.u(x:Int):AV:=.int .u64 x
@[match_pattern]abbrev AV.T:AV:=.bool true
@[match_pattern]abbrev AV.F:AV:=.bool false
abbrev zz25:List AV:=[.u 0,.u 0,.u 0,.u 0,.u 0,.u 0,.u 0,.u 0,.u 0,.u 0,.u 0,.u 0,.u 0,.u 0,.u 0,.u 0,.u 0,.u 0,.u 0,.u 0,.u 0,.u 0,.u 0,.u 0,.u 0]
abbrev ff256:List AV:=[.F,.F,.F,.F,.F,.F,.F,.F,.F,.F,.F,.F,.F,.F,.F,.F,.F,.F,.F,.F,.F,.F,.F,.F,.F,.F,.F,.F,.F,.F,.F,.F,.F,.F,.F,.F,.F,.F,.F,.F,.F,.F,.F,.F,.F,.F,.F,.F,.F,.F,.F,.F,.F,.F,.F,.F,.F,.F,.F,.F,.F,.F,.F,.F,.F,.F,.F,.F,.F,.F,.F,.F,.F,.F,.F,.F,.F,.F,.F,.F,.F,.F,.F,.F,.F,.F,.F,.F,.F,.F,.F,.F,.F,.F,.F,.F,.F,.F,.F,.F,.F,.F,.F,.F,.F,.F,.F,.F,.F,.F,.F,.F,.F,.F,.F,.F,.F,.F,.F,.F,.F,.F,.F,.F,.F,.F,.F,.F,.F,.F,.F,.F,.F,.F,.F,.F,.F,.F,.F,.F,.F,.F,.F,.F,.F,.F,.F,.F,.F,.F,.F,.F,.F,.F,.F,.F,.F,.F,.F,.F,.F,.F,.F,.F,.F,.F,.F,.F,.F,.F,.F,.F,.F,.F,.F,.F,.F,.F,.F,.F,.F,.F,.F,.F,.F,.F,.F,.F,.F,.F,.F,.F,.F,.F,.F,.F,.F,.F,.F,.F,.F,.F,.F,.F,.F,.F,.F,.F,.F,.F,.F,.F,.F,.F,.F,.F,.F,.F,.F,.F,.F,.F,.F,.F,.F,.F,.F,.F,.F,.F,.F,.F,.F,.F,.F,.F,.F,.F,.F,.F,.F,.F,.F,.F,.F,.F,.F,.F,.F,.F,.F,.F,.F,.F,.F,.F]
end Go.Proofs.YtpefhfiehfkocaaGreatDoor
