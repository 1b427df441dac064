/- The reference -/
import Derived.Test.YtdebajodkallbaaGreatDoorRmA
import Derived.Lib.AtoiAll
import Derived.Shelf.Strings.Cut
import Derived.Lib.AtoiErrMem
namespace Go.Proofs.YtdebajodkallbaaGreatDoor
open Go.RowKit Go.IntWalk
section
attribute[local congr]ite_congr
def MT:List AV->Option AV:=F1 eStr eBool fun s=>if s.length<=big then some (jY s)else none
theorem zC8(G:Gam)(s:Bs)(f:s.length<=big):∀(a:Bs)(i:Nat),s.drop i=a->cY G [4] Mc.ba_L0 0 [.blk 0,.seq (.seq (.reg [Kb 2 true]) .ret)] (aD Rs.ba (.bool (a.all fun b=>pch b.toNat))) [(0,.str s),(2,.F),(3,.n i),(4,.junk)] []
 |[],i,c=>by
  have g:=drop_nil c;have d:ltB i s.length=false:=bC.2 (by omega);refine aJ (Mc.ba_L0.eq_1) ?_;simp[trunc,d,Rs.ba]|b::a,i,c=>by
  obtain⟨g,j,k⟩:=eT c;have d:ltB i s.length=true:=aO.2 (by omega);have h:=dT (i:=i) (by omega);have l:=zC8 G s f a (i+1) k;refine aJ (Mc.ba_L0.eq_1) ?_;have e:((ltB (b.toNat:Int) 97||ltB 122 b.toNat)&&(ltB b.toNat 48||ltB 57 b.toNat)&&!eqB b.toNat 46&&!eqB b.toNat 95&&!eqB b.toNat 45)=!pch b.toNat:=by simp[pch]
  simp+contextual[trunc,d,jX j];rw[e];cases m:pch b.toNat with
  |true=>
   simp[h];refine cZ ?_;simpa[trunc]using l|false=>simp[Rs.ba]
theorem yZ0(G:Gam):PW G Mc.ba Rs.ba Ks.ba MT:=mK fun s r h=>by
 split at h
 ·rename_i b;injection h with h;subst h;rw[aM];cases s with
  |nil=>simp+contextual[Mc.ba,aC,Ks.ba,Rs.ba,eStr,eBool,jY,ltB]|cons c r=>
   have d:=zC8 G (c::r) b (c::r) 0 rfl;have a:ltB ((r.length:Int)+1) 1=false:=bC.2 (by omega);have i:ltB (((c::r).length:Nat):Int) 32=ltB (r.length+1) 32:=rfl;simp+contextual[Mc.ba,aC,Ks.ba,eStr,eBool,jY,a,-List.all_cons];cases e:ltB 32 ((r.length:Int)+1)with
   |true=>simp[Rs.ba]|false=>cases f:eqB (c.toNat:Int) 46 with
    |true=>simp[Rs.ba]|false=>cases g:eqB (c.toNat:Int) 45 with
     |true=>simp[Rs.ba]|false=>simpa using d
 ·cases h
end
abbrev gJ(b:UInt8):List AV:=[.int .u8 b.toNat]
theorem OL:∀o:Bs,lP (o.map gJ)=some o
 |[]=>rfl|b::o=>by
  have a:=b.toNat_lt;simp only[iO,lP,OL o];rw[if_pos ⟨by omega,by omega⟩];simp
def hexDigits:Bs:=[48,49,50,51,52,53,54,55,56,57,97,98,99,100,101,102]
def hexDigit(n:Nat):UInt8:=hexDigits.getD n 0
def CP:List AV->Option AV
 |[.str s,.int .u8 c]=>some (.n (Lib.indexByte s c.toNat.toUInt8))|_=>none
def AK(T:TypeId)(s:Bs):AV:=match Lib.atoiAll s with
 |.ok v=>.tup [.n v,.nili]|.range=>.tup [.n (Lib.atoiSat s),.iface T .junk]|_=>.tup [.n 0,.iface T .junk]
theorem xa3(x:Lib.NumEnd Int):(∃v,x=.ok v)\/x=.range\/x=Lib.atoiAll []:=by
 rcases x with v|_|_;·exact .inl ⟨v,rfl⟩
 ·exact .inr (.inr rfl)
 ·exact .inr (.inl rfl)
def MJ(T:TypeId):List AV->Option AV
 |[.str s]=>if s.length<=281474976710656 then some (AK T s)else none|_=>none
theorem yf0{P:Program}{j:Gv}{f g4 g5 T e5:Nat}{F G:TypeId}{D E:Value}(h4:j.tb g4=some [.iface F D])(h5:j.tb g5=some [.iface G E])(y:∀(s:ByteArray),s.size<=9223372036854775806->∀(v:Int),Lib.atoiAll s.data.toList=.ok v->∀(w:World),Calls P f #[.string s] w fun e a=>e=.returned (.tuple #[.int .i64 v,.nilIface])/\(a=w\/∃t,a=Lib.bytesWorld w e5 t))(B:∀(s:ByteArray),s.size<=281474976710656->Lib.atoiAll s.data.toList=Lib.atoiAll []->∀(d:Value)(w:World),w.cell? ⟨g4,0,none⟩=some d->(d=.nilIface\/∃n m,d=.iface n m)->Calls P f #[.string s] w fun e a=>(∃N,e=.returned (.tuple #[.int .i64 0,.iface T (.pointer (some ⟨N,0,none⟩))]))/\Below w.heap.size w a)(A:∀(s:ByteArray),s.size<=281474976710656->Lib.atoiAll s.data.toList=.range->∀(d:Value)(w:World),w.cell? ⟨g5,0,none⟩=some d->(d=.nilIface\/∃n m,d=.iface n m)->Calls P f #[.string s] w fun e a=>(∃N,e=.returned (.tuple #[.int .i64 (Lib.atoiSat s.data.toList),.iface T (.pointer (some ⟨N,0,none⟩))]))/\Below w.heap.size w a):dW P j f (MJ T):=by
 refine wC fun I w K r M L o z b=>?_;unfold MJ at b;split at b
 ·rename_i s;split at b
  ·rename_i u;injection b with b;subst b;obtain⟨x,rfl,C⟩:=WS z;have:=fM C;subst this;have p:(ByteArray.mk s.toArray).size<=281474976710656:=by rw[mY];exact u
   have i:(ByteArray.mk s.toArray).data.toList=s:=by simp
   rcases xa3 (Lib.atoiAll s)with⟨v,c⟩|c|c
   ·have h:AK T s=.tup [.n v,.nili]:=by unfold AK;rw[c]
    rw[h];refine(y ⟨s.toArray⟩ (by omega) v (by rw[i];exact c) w).mono fun e a g=>?_;obtain⟨rfl,g⟩:=g;refine⟨⟨_,rfl,XY (.int _ _) .nili⟩,?_⟩;rcases g with rfl|⟨t,rfl⟩;·exact Below.refl _ _
    ·exact Lib.bytesWorld_below _ _ _
   ·have h:AK T s=.tup [.n (Lib.atoiSat s),.iface T .junk]:=by unfold AK;rw[c]
    rw[h];obtain⟨J,q,l⟩:=o.tb g5 _ h5;refine(A ⟨s.toArray⟩ p (by rw[i];exact c) _ w (by rw[cell_of_heap l];rfl) (.inr ⟨_,_,rfl⟩)).mono fun e a g=>?_;obtain⟨⟨N,rfl⟩,k⟩:=g;rw[i];exact⟨⟨_,rfl,XY (.int _ _) (.iface _ _ _ (.junk _))⟩,k⟩
   ·have h:AK T s=.tup [.n 0,.iface T .junk]:=by unfold AK;rw[c];rfl
    rw[h];obtain⟨H,q,l⟩:=o.tb g4 _ h4;refine(B ⟨s.toArray⟩ p (by rw[i];exact c) _ w (by rw[cell_of_heap l];rfl) (.inr ⟨_,_,rfl⟩)).mono fun e a g=>?_;obtain⟨⟨N,rfl⟩,k⟩:=g;exact⟨⟨_,rfl,XY (.int _ _) (.iface _ _ _ (.junk _))⟩,k⟩
  ·cases b
 ·cases b
def wX:List AV->Option AV
 |[.str s,.str a]=>if s.length<4294967281 then some (.tup [.str (Lib.cut s a).1,.str (Lib.cut s a).2.1,.bool (Lib.cut s a).2.2])else none|_=>none
theorem yt3{P:Program}{h:Gv}{f g:Nat}{m:Int}(p:h g=some [.n m])(l:∀(s c:ByteArray)(w:World),s.size<4294967281->w.cell? ⟨g,0,none⟩=some (.int .i64 m)->Calls P f #[.string s,.string c] w fun e i=>e=.returned (.tuple #[.string ⟨(Lib.cut s.data.toList c.data.toList).1.toArray⟩,.string ⟨(Lib.cut s.data.toList c.data.toList).2.1.toArray⟩,.bool (Lib.cut s.data.toList c.data.toList).2.2])/\∃n,i=w.drewN n):dW P h f wX:=by
 refine wC fun I w B r D j q v a=>?_;unfold wX at a;split at a
 ·rename_i s c;split at a
  ·rename_i k;injection a with a;subst a;obtain⟨x,y,rfl,z,A⟩:=FS v;have:=fM z;subst this;have:=fM A;subst this;have u:w.cell? ⟨g,0,none⟩=some (.int .i64 m):=by
    have:=q.gl g _ p;cases this with|fptr _ _ b o C k1 k2=>
     have e:=k2 0 (.n m) rfl;have:=fF e;have d:=j.cell _ _ _ (k1 0 (.n m) rfl);rw[this]at d;simpa using d
   refine(l ⟨s.toArray⟩ ⟨c.toArray⟩ w (by rw[mY];exact k) u).mono fun e i t=>?_;obtain⟨rfl,n,rfl⟩:=t;refine⟨⟨_,rfl,xi2 (.str _) (.str _) (.bool _)⟩,?_⟩;have:=below_grow (w:=w) (k:=n) (os:=#[]);rwa[Go.Sort.grow_empty]at this
  ·cases a
 ·cases a
theorem yS2{P:Program}{d:Gv}{f:Nat}(g:∀(s:ByteArray)(c:Int)(w:World),Calls P f #[.string s,.int .u8 c] w fun e b=>e=.returned (.int .i64 (Lib.indexByte s.data.toList c.toNat.toUInt8))/\b=w):dW P d f CP:=by
 refine wC fun I w l r o m n i a=>?_;unfold CP at a;split at a
 ·rename_i s c;injection a with a;subst a;obtain⟨x,y,rfl,j,k⟩:=FS i;have:=fM j;subst this;have:=fF k;subst this;refine(g ⟨s.toArray⟩ c w).mono fun e b h=>?_;obtain⟨rfl,rfl⟩:=h;exact⟨⟨_,rfl,.int _ _⟩,Below.refl _ _⟩
 ·cases a
theorem yQ5{P:Program}{c:Gv}{f:Nat}(d:∀(s t:ByteArray)(w:World),Calls P f #[.string s,.string t] w fun e b=>e=.returned (.bool (Lib.hasPrefix s.data.toList t.data.toList))/\b=w):dW P c f nS:=by
 refine wC fun I w k r n l m h a=>?_;unfold nS at a;split at a
 ·rename_i s t;injection a with a;subst a;obtain⟨x,y,rfl,i,j⟩:=FS h;have:=fM i;subst this;have:=fM j;subst this;refine(d ⟨s.toArray⟩ ⟨t.toArray⟩ w).mono fun e b g=>?_;obtain⟨rfl,rfl⟩:=g;exact⟨⟨_,rfl,.bool _⟩,Below.refl _ _⟩
 ·cases a
theorem yo9{P:Program}{d:Gv}{f:Nat}(h:∀(s:ByteArray)(w:World),s.size<=281474976710656->Calls P f #[.string s] w fun e c=>e=.returned (.string s)/\Below w.heap.size w c):dW P d f fun b=>match b with|[.str s]=>if s.length<=281474976710656 then some (.str s)else none|_=>none:=by
 refine wC fun I w b r o m n j a=>?_;split at a
 ·rename_i s;split at a
  ·rename_i k;injection a with a;subst a;obtain⟨x,rfl,l⟩:=WS j;have:=fM l;subst this;refine(h ⟨s.toArray⟩ w (by rw[mY];exact k)).mono fun e c i=>?_;obtain⟨rfl,g⟩:=i;exact⟨⟨_,rfl,.str _⟩,g⟩
  ·cases a
 ·cases a
theorem yX9{c:Gv}{I:Nat->Nat->Option Value}{w:World}(d:Holds I w)(h:GvHolds c I w){g:Nat}{m:Int}(f:c g=some [.int .i64 m]):w.cell? ⟨g,0,none⟩=some (.int .i64 m):=by
 have:=h.gl g _ f;cases this with|fptr _ _ b o i k1 k2=>
  have e:=k2 0 (.n m) rfl;have:=fF e;have a:=d.cell _ _ _ (k1 0 (.n m) rfl);rw[this]at a;simpa using a
def MM:List AV->Option AV
 |[.str s,.str t]=>if s.length<4294967281 then some (.bool (Lib.contains s t))else none|_=>none
theorem ys2{P:Program}{b:Gv}{f g:Nat}{m:Int}(j:b g=some [.n m])(i:∀(s t:ByteArray)(w:World),s.size<4294967281->w.cell? ⟨g,0,none⟩=some (.int .i64 m)->Calls P f #[.string s,.string t] w fun e c=>e=.returned (.bool (Lib.contains s.data.toList t.data.toList))/\c=w):dW P b f MM:=by
 refine wC fun I w q r u d k n a=>?_;unfold MM at a;split at a
 ·rename_i s t;split at a
  ·rename_i h;injection a with a;subst a;obtain⟨x,y,rfl,o,p⟩:=FS n;have:=fM o;subst this;have:=fM p;subst this;refine(i ⟨s.toArray⟩ ⟨t.toArray⟩ w (by rw[mY];exact h) (yX9 d k j)).mono fun e c l=>?_;obtain⟨rfl,rfl⟩:=l;exact⟨⟨_,rfl,.bool _⟩,Below.refl _ _⟩
  ·cases a
 ·cases a
def MN:List AV->Option AV
 |[.str s,.str [c]]=>some (.n (Lib.countByte s c))|_=>none
theorem ys9{P:Program}{d:Gv}{f:Nat}(g:∀(s:ByteArray)(c:UInt8)(w:World),Calls P f #[.string s,.string ⟨#[c]⟩] w fun e b=>e=.returned (.int .i64 (Lib.countByte s.data.toList c))/\b=w):dW P d f MN:=by
 refine wC fun I w l r o m n i a=>?_;unfold MN at a;split at a
 ·rename_i s c;injection a with a;subst a;obtain⟨x,y,rfl,j,k⟩:=FS i;have:=fM j;subst this;have:=fM k;subst this;refine(g ⟨s.toArray⟩ c w).mono fun e b h=>?_;obtain⟨rfl,rfl⟩:=h;exact⟨⟨_,rfl,.int _ _⟩,Below.refl _ _⟩
 ·cases a
def ML:List AV->Option AV
 |[.str s,.str t]=>some (.n (Lib.compareBytes s t))|_=>none
theorem yr6{P:Program}{c:Gv}{f:Nat}(d:∀(s t:ByteArray)(w:World),Calls P f #[.string s,.string t] w fun e b=>e=.returned (.int .i64 (Lib.compareBytes s.data.toList t.data.toList))/\b=w):dW P c f ML:=by
 refine wC fun I w k r n l m h a=>?_;unfold ML at a;split at a
 ·rename_i s t;injection a with a;subst a;obtain⟨x,y,rfl,i,j⟩:=FS h;have:=fM i;subst this;have:=fM j;subst this;refine(d ⟨s.toArray⟩ ⟨t.toArray⟩ w).mono fun e b g=>?_;obtain⟨rfl,rfl⟩:=g;exact⟨⟨_,rfl,.int _ _⟩,Below.refl _ _⟩
 ·cases a
def OutI(o:Bs)(x:AV)(h:aA):Prop:=x=.own 0 o.length o.length/\h=[.arr 1 o.length (o.map gJ) true]
theorem OutI.rows{o:Bs}{x:AV}{h:aA}(a:OutI o x h):rowsOf h x=some (o.map gJ):=by
 obtain⟨rfl,rfl⟩:=a;exact sL (h:=[.arr 1 o.length (o.map gJ) true]) rfl (by simp)
theorem OutI.trunc{o:Bs}{x:AV}{h:aA}(b:OutI o x h)(a:List (Nat×AV)):trunc 1 a h=h:=by
 obtain⟨rfl,rfl⟩:=b;exact lT rfl
theorem OutI.next{G:Gam}{o:Bs}{x:AV}{h:aA}(b:UInt8)(e:OutI o x h)(d:o.length<big):∃c a,opV G false h (.app false 1 1) (some [x,.tsl [[.int .u8 (b.toNat:Int)]]])=some (c,a)/\OutI (o++[b]) c a:=by
 obtain⟨rfl,rfl⟩:=e;have:=vY (G:=G) (s:=false) (h:=[.arr 1 o.length (o.map gJ) true]) (e:=gJ) (n:=1) (b:=1) (l:=0) (os:=o) (x:=b) rfl rfl (by omega) d;exact⟨_,_,this,rfl,rfl⟩
def lH(w:Bs):List AV:=[.str w]
def SpH(a:List Bs):aA:=[.arr 1 0 [] true,.arr 1 a.length (a.map lH) true]
def zH:List AV->Option AV
 |[.str s,.int .u8 e]=>if s.length<=1000000/\0<=e/\e<256 then some (.sl ((dG (UInt8.ofNat e.toNat) s).map lH))else none|_=>none
theorem zO7{G:Gam}(a:List Bs)(w:Bs)(b:a.length<big):opV G false (SpH a) (.app false 1 16) (some [.own 1 a.length a.length,.tsl [[.str w]]])=some (.own 1 (a++[w]).length (a++[w]).length,SpH (a++[w])):=vY (e:=lH) (l:=1) (os:=a) (x:=w) rfl rfl (by omega) b
theorem xs1{s:Bs}{f i:Nat}{b:UInt8}(c:f<=i)(a:s[i]?=some b):(s.take (i+1)).drop f=(s.take i).drop f++[b]:=by
 have d:i<s.length:=(aV.1 a).1;rw[xO,a,List.drop_append_of_le_length (by rw[lY];omega)];rfl
theorem YW(G:Gam)(s:Bs)(c:UInt8)(u:s.length<=1000000):∀(d:Bs)(i f:Nat)(a:List Bs),s.drop i=d->i<=s.length->f<=i->a.length<=i->dG c s=a++uE ((s.take i).drop f) (dG c d)->cY G [] Mc.bv_L0 2 [.blk 0,.seq (.seq (.reg [zm 28 5,zm 29 0,zm 30 6,iz 31 (.slc none true false false) [.t 29,.t 30],Zb 32 1 [.t 31],Zs 33 1 16 28 32,zM 4 33]) .ret)] (aD Rs.bv (.sl ((dG c s).map lH))) [(0,.str s),(1,.int .u8 c.toNat),(4,.own 0 0 0),(5,.own 1 a.length a.length),(6,.n f),(7,.n i)] (SpH a)
 |[],i,f,a,o,t,l,z,j=>by
  have B:=drop_nil o;have e:i=s.length:=by omega
  subst e;have p:ltB (s.length:Int) (s.length:Int)=false:=bC.2 (by omega);have sl:∀g h,opV G g h (.slc none true false false) (some [.str s,.n f])=some (.str (s.drop f),h):=fun g h=>SA (k:=f) rfl l;have m:=zO7 (G:=G) a (s.drop f) (by unfold big;omega);rw[kE]at j;have k:dG c s=a++[s.drop f]:=by simpa[dG,uE]using j
  rw[k];refine aJ (Mc.bv_L0.eq_1) ?_;rw[lT (n:=2) rfl];have A:rowsOf (SpH (a++[s.drop f])) (.own 1 (a++[s.drop f]).length (a++[s.drop f]).length)=some ((a++[s.drop f]).map lH):=sL (h:=SpH (a++[s.drop f])) (l:=1) (sz:=1) (rows:=(a++[s.drop f]).map lH) (wr:=true) rfl (by simp);simp[aI,sl,dX,owns,bU,dB,fW,bE,AV.cells,m,A,aD,Rs.bv,-List.length_append,-List.map_append]|b::d,i,f,a,o,t,l,z,j=>by
  obtain⟨C,w,x⟩:=eT o;have p:ltB (i:Int) (s.length:Int)=true:=aO.2 (by omega);have v:IntKind.i64.wrap ((i:Int)+1)=((i+1:Nat):Int):=dT (by unfold big;omega);have y:∀g h,opV G g h .istr (some [.str s,.n i])=some (.int .u8 b.toNat,h):=fun g h=>jX w;refine aJ (Mc.bv_L0.eq_1) ?_;rw[lT (n:=2) rfl];by_cases n:b=c
  ·subst n;rw[xq0]at j;have sl:∀g h,opV G g h (.slc none true true false) (some [.str s,.n f,.n i])=some (.str ((s.take i).drop f),h):=fun g h=>YR rfl rfl l t;have m:=zO7 (G:=G) a ((s.take i).drop f) (by unfold big;omega);have k:dG b s=(a++[(s.take i).drop f])++uE ((s.take (i+1)).drop (i+1)) (dG b d):=by
    have e:(s.take (i+1)).drop (i+1)=[]:=by rw[List.drop_eq_nil_iff,lY];omega
    rw[e,zG8 _ (CD b d),j];simp
   have r:=YW G s b u d (i+1) (i+1) (a++[(s.take i).drop f]) x (by omega) (by omega) (by simp;omega) k;simp[aI,p,y,sl,dX,owns,bU,view,dB,fW,bE,AV.cells,m,v,-List.length_append];refine cZ ?_;simpa[lT (n:=2) (show(SpH _).length=2 from rfl)]using r
  ·have q:eqB (b.toNat:Int) (c.toNat:Int)=false:=eU.2 fun e=>n (rP.1 (by omega));rw[xq2 n]at j;have k:dG c s=a++uE ((s.take (i+1)).drop f) (dG c d):=by rw[xs1 l w];exact j
   have r:=YW G s c u d (i+1) f a x (by omega) (by omega) (by omega) k;simp[aI,p,y,q,v];refine cZ ?_;simpa[lT (n:=2) (show(SpH _).length=2 from rfl)]using r
theorem yd0{G:Gam}:PW G Mc.bv Rs.bv Ks.bv zH:=by
 intro h r a;unfold zH at a;split at a
 ·rename_i s e;split at a
  ·rename_i f;injection a with a;subst a;obtain⟨c,i,j⟩:=f;obtain⟨E,d⟩:∃E:UInt8,e=(E.toNat:Int):=⟨UInt8.ofNat e.toNat,by rw[ID];omega⟩;subst d;have b:UInt8.ofNat ((E.toNat:Int)).toNat=E:=by simp
   rw[b,aM];have g:=YW G s E c s 0 0 [] rfl (by omega) (by omega) (by simp) (by simp[zG8 _ (CD E s)]);simp[Mc.bv,aC,Ks.bv];simpa[SpH]using g
  ·cases a
 ·cases a
theorem xm9{a:List Bs}{i:Nat}{w:Bs}(h:a[i]?=some w):(a.map lH)[i]?=some [.str w]:=by simp[h,lH]
theorem zF3(G:Gam)(k:G Fn.ba=some (.pure MT))(s:Bs)(p:s.length<=128)(a:List Bs)(t:a.length<=8)(l:∀w∈a,w.length<=big)(r:Int):∀(g:List Bs)(i:Nat)(x:AV),a.drop i=g->r=(if g.all jY then 0 else 2)->cY G [5] Mc.a0_L0 0 [.blk 0,.seq (.seq (.reg [Kc 2 0]) .ret)] (aD Rs.a0 (.n r)) [(0,.str s),(2,.n 0),(3,.sl (a.map lH)),(5,x),(14,.sl (a.map lH)),(15,.n a.length),(16,.n i)] []
 |[],i,x,j,b=>by
  have y:=drop_nil j;have e:ltB (i:Int) (a.length:Int)=false:=bC.2 (by omega);simp only[List.all_nil,bD]at b;subst b;refine aJ (Mc.a0_L0.eq_1) ?_;simp[e,lT (n:=0) (h:=[]) rfl,aD,Rs.a0]|w::g,i,x,j,b=>by
  obtain⟨z,m,u⟩:=eT j;have e:ltB (i:Int) (a.length:Int)=true:=aO.2 (by omega);have q:=dT (i:=i) (by unfold big;omega);have o:=xm9 m;have n:∀c h,opV G c h (.iadr 1) (some [.sl (a.map lH),.n i])=some (.fptr [.str w] 0,h):=fun c h=>by rw[eV rfl];simp[dH,bA,o]
  have d:∀c h,opV G c h (.call Fn.ba) (some [.str w])=some (.bool (jY w),h):=fun c h=>bF k (us:=[.str w]) rfl (nB (A:=eStr) (R:=eBool) (x:=w) (by simp[l w (fB m)])) (.inl rfl);refine aJ (Mc.a0_L0.eq_1) ?_;cases f:jY w with
  |false=>
   rw[f]at d;simp only[qJ,f,eW,dE,bY]at b;subst b;simp[e,lT (n:=0) (h:=[]) rfl,n,d,aD,Rs.a0]|true=>
   rw[f]at d;simp only[qJ,f,eF]at b;have v:=zF3 G k s p a t l r g (i+1) (.str w) u b;simp[e,lT (n:=0) (h:=[]) rfl,n,d,q];simpa using v
theorem yb9{G:Gam}(k:G Fn.ba=some (.pure MT))(l:G Fn.bv=some (.pure zH)):PW G Mc.a0 Rs.a0 Ks.a0 uQ:=mK fun s r h=>by
 split at h
 ·rename_i u;injection h with h;subst h;rw[aM];by_cases n:128<s.length
  ·have q:ltB 128 (s.length:Int)=true:=aO.2 (by omega);have e:eY s=false:=by simp[eY,q]
   rw[e];simp[Mc.a0,aC,Ks.a0,aI,q,aD,Rs.a0]
  ·have q:ltB 128 (s.length:Int)=false:=bC.2 (by omega);have g:∀j h,opV G j h (.call Fn.bv) (some [.str s,.int .u8 47])=some (.sl ((dG 47 s).map lH),h):=fun j h=>bF l (us:=[.str s,.int .u8 47]) rfl (by simp only[zH];rw[if_pos ⟨by omega,by omega,by omega⟩];rfl) (.inr rfl);by_cases o:8<(dG 47 s).length
   ·have f:ltB 8 ((dG 47 s).length:Int)=true:=aO.2 (by omega);have e:eY s=false:=by simp[eY,q,f]
    rw[e];simp[Mc.a0,aC,Ks.a0,aI,q,f,g,aD,Rs.a0]
   ·have f:ltB 8 ((dG 47 s).length:Int)=false:=bC.2 (by omega);have e:eY s=(dG 47 s).all jY:=by simp[eY,q,f]
    rw[e];have m:∀(c:UInt8)(s w:Bs),w∈dG c s->w.length<=s.length:=by
     intro c s;induction s with
     |nil=>intro w a;simp[dG]at a;subst a;simp|cons b t d=>
      intro w a;simp only[dG]at a;split at a
      ·rcases fE.1 a with rfl|a;·simp
       ·have:=d w a;simp;omega
      ·split at a
       ·rename_i p v i;rcases fE.1 a with rfl|a;·have:=d p (by rw[i];exact qK);simp;omega
        ·have:=d w (by rw[i];exact rO _ a);simp;omega
       ·simp at a;subst a;simp
    have d:=zF3 G k s (by omega) (dG 47 s) (by omega) (fun w a=>by have:=m 47 s w a;unfold big;omega) _ (dG 47 s) 0 .junk rfl rfl;simp[Mc.a0,aC,Ks.a0,aI,q,f,g];simpa using d
 ·cases h
end Go.Proofs.YtdebajodkallbaaGreatDoor
