/- slices -/
import Derived.Test.YtpefhfiehfkocaaGreatDoorOD
namespace Go.Proofs.YtpefhfiehfkocaaGreatDoor
open Go.RowKit Go.IntWalk
def eI(n:Int):List AV:=[.n n]
def JW:List AV->Option Int
 |[.n n]=>some n|_=>none
@[simp]theorem yC2(n:Int):JW (eI n)=some n:=rfl
theorem yC1{r:List AV}{n:Int}(h:JW r=some n):r=eI n:=by
 unfold JW at h;split at h;·injection h with h;subst h;rfl
 ·cases h
def NV:List AV->Option AV
 |[.n _]=>some (.F)|_=>none
theorem yV2{G:Gam}:PW G Mc.c2 Rs.c2 Ks.c2 NV:=by
 intro c r a;unfold NV at a;split at a
 ·rename_i n;injection a with a;subst a;have q:eqB n n=true:=kQ.2 rfl;rw[aT];simp[Mc.c2,Ks.c2,aC,aJ,Rs.c2]
 ·cases a
def CE:List AV->Option AV
 |[.n x,.n y]=>some (.n (Lib.compareInt x y))|_=>none
theorem yx3{G:Gam}(j:G Fn.c2=some (.pure NV)):PW G Mc.cb Rs.cb Ks.cb CE:=by
 intro k r a;unfold CE at a;split at a
 ·rename_i x y;injection a with a;subst a;have d:∀n i H,opV G i H (.call Fn.c2) (some [.n n])=some (.F,H):=fun n i H=>cU j (us:=[.n n]) rfl rfl (.inl rfl);rw[aT];by_cases c:x<y
  ·have q:ltB x y=true:=cH.2 c;have e:Lib.compareInt x y=-1:=by simp[Lib.compareInt,c]
   rw[e];simp[Mc.cb,Ks.cb,aC,d,q,aJ,Rs.cb]
  ·have q:ltB x y=false:=dQ.2 (by omega);by_cases f:y<x
   ·have g:ltB y x=true:=cH.2 f;have e:Lib.compareInt x y=1:=by simp[Lib.compareInt,c,f]
    rw[e];simp[Mc.cb,Ks.cb,aC,d,q,g,aJ,Rs.cb]
   ·have g:ltB y x=false:=dQ.2 (by omega);have e:Lib.compareInt x y=0:=by simp[Lib.compareInt,c,f]
    rw[e];simp[Mc.cb,Ks.cb,aC,d,q,g,aJ,Rs.cb]
 ·cases a
theorem ye9{G:Gam}(h:G Fn.cb=some (.pure CE))(x y:Int)(a:Bool)(H:aA):opV G a H (.call Fn.cb) (some [.n x,.n y])=some (.n (Lib.compareInt x y),H):=cU h (us:=[.n x,.n y]) rfl rfl (.inl rfl)
def orI:List Int->Int
 |[]=>0|a::r=>if a=0 then orI r else a
def yX:List AV->Option AV
 |[.sl rows]=>match dW JW rows with
  |some l=>if l.length<=1000 then some (.n (orI l))else none|none=>none
 |_=>none
theorem zQ7{G:Gam}(l:List Int)(s:l.length<=1000):∀(c:List Int)(i:Nat),l.drop i=c->i<=l.length->cY G [5] Mc.ca_L0 0 [.blk 0,.seq (.seq (.reg [zm 17 3,zM 2 17]) .ret)] (aJ Rs.ca (.n (orI c))) [(0,.sl (l.map eI)),(2,.n 0),(3,.n 0),(5,.junk),(6,.sl (l.map eI)),(7,.n l.length),(8,.n i)] []
 |[],i,g,r=>by
  have A:=drop_nil g;have f:ltB (i:Int) (l.length:Int)=false:=dQ.2 (by omega);refine bQ (Mc.ca_L0.eq_1) ?_;simp[f,orI,fJ (n:=0) (h:=[]) rfl,aJ,Rs.ca]|a::c,i,g,r=>by
  obtain⟨B,v,w⟩:=lG g;have f:ltB (i:Int) (l.length:Int)=true:=cH.2 (by omega);have u:=iJ (i:=i) (by unfold big;omega);have o:(l.map eI)[i]?=some (eI a):=by simp[v]
  have j:∀H,bN 1 H (.sl (l.map eI)) (.n (i:Int))=some (.fptr (eI a) 0):=fun H=>by
   have:(eI a).length=1:=rfl;generalize l.map eI=z at o⊢;simp[bN,o,this]
  have k:∀H,aB 1 false H (.fptr (eI a) 0)=some (.n a):=fun H=>by simp[aB,cut,aD,eI]
  have y:=zQ7 (G:=G) l s c (i+1) w (by omega);refine bQ (Mc.ca_L0.eq_1) ?_;rw[fJ (n:=0) (h:=[]) rfl];by_cases d:a=0
  ·have q:eqB a 0=true:=kQ.2 d;have e:orI (a::c)=orI c:=by simp[orI,d]
   rw[e];generalize l.map eI=p at*;simp[f,j,k,q,u,-aB];refine dT ?_;rw[fJ (n:=0) rfl];simpa[aY,Rs.ca]using y
  ·have q:eqB a 0=false:=gM.2 d;have e:orI (a::c)=a:=by simp[orI,d]
   rw[e];generalize l.map eI=p at*;simp[f,j,k,q,aJ,Rs.ca,-aB]
theorem xg9{G:Gam}:PW G Mc.ca Rs.ca Ks.ca yX:=by
 intro f r a;unfold yX at a;split at a
 ·split at a
  ·rename_i l c;split at a
   ·rename_i d;injection a with a;subst a;obtain rfl:=rC (enc:=eI) (fun r x=>yC1) c;have e:=zQ7 (G:=G) l d l 0 rfl (by omega);rw[aT];simp[Mc.ca,Ks.ca,aC,aW];simpa using e
   ·cases a
  ·cases a
 ·cases a
theorem yf0{G:Gam}(h:G Fn.ca=some (.pure yX)){l:List Int}(a:l.length<=1000)(c:Bool)(H:aA):opV G c H (.call Fn.ca) (some [.tsl (l.map eI)])=some (.n (orI l),H):=cU h (us:=[.sl (l.map eI)]) rfl (by
 have:dW JW (l.map eI)=some l:=mQ yC2 l;simp only[yX,this];rw[if_pos a]) (.inl rfl)
structure Seg where
 p:Bs
 m:Bs
 k:Int
 i:Int deriving DecidableEq
structure Fl where
 to_:Seg
 fr:Seg
 rt:Int deriving DecidableEq
def Seg.row(s:Seg):List AV:=[.str s.p,.str s.m,.n s.k,.n s.i]
def Fl.row(f:Fl):List AV:=[.str f.to_.p,.str f.to_.m,.n f.to_.k,.n f.to_.i,.str f.fr.p,.str f.fr.m,.n f.fr.k,.n f.fr.i,.n f.rt]
def rE:List AV->Option Seg
 |[.str p,.str m,.n k,.n i]=>some ⟨p,m,k,i⟩|_=>none
def sX:List AV->Option Fl
 |[.str p,.str m,.n k,.n i,.str e,.str d,.n c,.n a,.n r]=>some ⟨⟨p,m,k,i⟩,⟨e,d,c,a⟩,r⟩|_=>none
@[simp]theorem zt3(s:Seg):rE s.row=some s:=rfl
@[simp]theorem zs9(s:Fl):sX s.row=some s:=rfl
theorem wW{r:List AV}{s:Seg}(h:rE r=some s):r=s.row:=by
 unfold rE at h;split at h;·injection h with h;subst h;rfl
 ·cases h
theorem PJ{r:List AV}{s:Fl}(h:sX r=some s):r=s.row:=by
 unfold sX at h;split at h;·injection h with h;subst h;rfl
 ·cases h
def eP(l:List Fl):List (List AV):=l.map Fl.row
@[simp]theorem xN8{l:List Fl}:(eP l).length=l.length:=by simp[eP]
theorem XV{l:List Fl}{i:Nat}{s:Fl}(h:l[i]?=some s):(eP l)[i]?=some s.row:=by simp[eP,h]
@[simp]theorem yD6(l:List Fl):dW sX (eP l)=some l:=mQ zs9 l
theorem zw9{a:List (List AV)}{l:List Fl}(h:dW sX a=some l):a=eP l:=rC (enc:=Fl.row) (fun _ _=>PJ) h
def pP(a b:Seg):Int:=if a=b then 0 else orI [Lib.compareBytes a.p b.p,Lib.compareBytes a.m b.m,Lib.compareInt a.k b.k,Lib.compareInt a.i b.i]
def HS:List AV->Option AV
 |[.agg c,.agg d]=>match rE c,rE d with
  |some a,some b=>some (.n (pP a b))|_,_=>none
 |_=>none
theorem xr4{G:Gam}(x y:Seg)(i:Bool)(H:aA):opV G i H (.eqA false [.s,.s,.i,.i]) (some [.agg x.row,.agg y.row])=some (.bool (decide (x=y)),H):=by
 rw[bW rfl];obtain⟨p,f,t,u⟩:=x;obtain⟨g,e,j,k⟩:=y;simp only[bV,Seg.row,jA,kN,and_self,aM,eV,Seg.mk.injEq];by_cases a:p=g
 ·by_cases c:f=e
  ·by_cases d:t=j
   ·by_cases h4:u=k;·simp[a,c,d,h4]
    ·simp[a,c,d,h4]
   ·simp[a,c,d]
  ·simp[a,c]
 ·simp[a]
theorem yy5{G:Gam}(E:G Fn.dh=some (.pure HE))(C:G Fn.cb=some (.pure CE))(D:G Fn.ca=some (.pure yX)):PW G Mc.cu Rs.cu Ks.cu HS:=by
 intro T r i;unfold HS at i;split at i
 ·split at i
  ·rename_i U V a b F I;injection i with i;subst i;obtain rfl:=wW F;obtain rfl:=wW I;have p:∀g,opV G g [] .box (some [.agg a.row])=some (.ptr 0 0,[.cells a.row]):=fun g=>jN (h:=[]) (v:=.agg a.row) (by simp[AV.cells,Seg.row]);have u:∀g,opV G g [.cells a.row] .box (some [.agg b.row])=some (.ptr 1 0,[.cells a.row,.cells b.row]):=fun g=>jN (h:=[.cells a.row]) (v:=.agg b.row) (by simp[AV.cells,Seg.row]);have k:aB 4 true [.cells a.row,.cells b.row] (.ptr 0 0)=some (.agg a.row):=EP (l:=0) (vs:=a.row) rfl rfl;have o:aB 4 true [.cells a.row,.cells b.row] (.ptr 1 0)=some (.agg b.row):=EP (l:=1) (vs:=b.row) rfl rfl;have J:aB 1 false [.cells a.row,.cells b.row] (.ptr 0 0)=some (.str a.p):=bT (l:=0) rfl rfl;have K:aB 1 false [.cells a.row,.cells b.row] (.ptr 0 1)=some (.str a.m):=bT (l:=0) rfl rfl;have L:aB 1 false [.cells a.row,.cells b.row] (.ptr 0 2)=some (.n a.k):=bT (l:=0) rfl rfl;have M:aB 1 false [.cells a.row,.cells b.row] (.ptr 0 3)=some (.n a.i):=bT (l:=0) rfl rfl;have N:aB 1 false [.cells a.row,.cells b.row] (.ptr 1 0)=some (.str b.p):=bT (l:=1) rfl rfl;have O:aB 1 false [.cells a.row,.cells b.row] (.ptr 1 1)=some (.str b.m):=bT (l:=1) rfl rfl;have P:aB 1 false [.cells a.row,.cells b.row] (.ptr 1 2)=some (.n b.k):=bT (l:=1) rfl rfl;have Q:aB 1 false [.cells a.row,.cells b.row] (.ptr 1 3)=some (.n b.i):=bT (l:=1) rfl rfl;have B:∀(s t:Bs)g H,opV G g H (.call Fn.dh) (some [.str s,.str t])=some (.n (Lib.compareBytes s t),H):=fun s t g H=>cU E (us:=[.str s,.str t]) rfl rfl (.inl rfl);have z:=ye9 C;have j:=xr4 (G:=G) a b;have y:∀(c d e f:Int)g h,opV G g h (.bsl false 1) (some [.n c,.n d,.n e,.n f])=some (.tsl ([c,d,e,f].map eI),h):=fun c d e f g h=>by rw[gF rfl];rfl
   have A:=fun(c d e f:Int)g H=>yf0 (G:=G) D (l:=[c,d,e,f]) (by simp) g H;rw[aT];unfold pP;by_cases h:a=b
   ·rw[decide_eq_true h]at j;rw[if_pos h];generalize a.row=v at*;generalize b.row=w at*;simp[Mc.cu,Ks.cu,aC,p,u,k,o,j,aJ,Rs.cu,-aB]
   ·rw[decide_eq_false h]at j;rw[if_neg h];generalize a.row=v at*;generalize b.row=w at*;simp[Mc.cu,Ks.cu,aC,p,u,k,o,j,J,K,L,M,N,O,P,Q,B,z,y,-List.map_cons,-List.map_nil,A,aJ,Rs.cu,-aB,-gF]
  ·cases i
 ·cases i
def plc(es:List (AV×AV))(s:Seg):Option Int:=match iY [.s,.s,.i,.i] s.row es with
 |some none=>some 0|some (some (.n n))=>some n|_=>none
def JJ(c d:Int)(a b:Fl):Int:=orI [Lib.compareInt c d,pP a.fr b.fr,Lib.compareInt a.rt b.rt]
def wD:List AV->aA->Option AV
 |[.agg e,.agg f,.ptr q 0],h=>match sX e,sX f,h[q]? with
  |some a,some b,some (.cellsT _ [.map m])=>match h[m]? with
   |some (.map es)=>match plc es a.to_,plc es b.to_ with
    |some c,some d=>some (.n (JJ c d a b))|_,_=>none
   |_=>none
  |_,_,_=>none
 |_,_=>none
theorem zQ1{G:Gam}{h:aA}{m:Nat}{es:List (AV×AV)}{s:Seg}{n:Int}(d:h[m]?=some (.map es))(a:plc es s=some n)(f:Bool):opV G f h (.lookA [.s,.s,.i,.i] false (.n 0)) (some [.map m,.agg s.row])=some (.n n,h):=by
 rw[bW rfl];have c:s.row.length=[EK.s,.s,.i,.i].length:=rfl;simp only[bV,c,aM,d];unfold plc at a;split at a;·rename_i e;injection a with a;subst a;rw[e];rfl
 ·rename_i e;injection a with a;subst a;rw[e];rfl
 ·cases a
theorem yJ6{G:Gam}(L:G Fn.cu=some (.pure HS))(J:G Fn.cb=some (.pure CE))(K:G Fn.ca=some (.pure yX)):LW G Mc.ap Rs.ap Ks.ap wD:=by
 intro X h r g;unfold wD at g;split at g
 ·rename_i ra rb q;split at g
  ·rename_i a b tg m M N p;split at g
   ·rename_i es o;split at g
    ·rename_i Y Z F I;injection g with g;subst g;obtain rfl:=PJ M;obtain rfl:=PJ N;have T:∀f,opV G f h .box (some [.agg a.row])=some (.ptr h.length 0,h++[.cells a.row]):=fun f=>jN (h:=h) (v:=.agg a.row) (by simp[AV.cells,Fl.row]);have U:∀f,opV G f (h++[.cells a.row]) .box (some [.agg b.row])=some (.ptr (h.length+1) 0,h++[.cells a.row,.cells b.row]):=fun f=>by
      have:=jN (G:=G) (s:=f) (h:=h++[.cells a.row]) (v:=.agg b.row) (by simp[AV.cells,Fl.row]);simpa using this
     have P:q<h.length:=(aF.1 p).1;have O:m<h.length:=(aF.1 o).1;have E:(h++[Blk.cells a.row,.cells b.row])[q]?=some (.cellsT tg [.map m]):=by rw[aX P];exact p
     have k:(h++[Blk.cells a.row,.cells b.row])[m]?=some (.map es):=by rw[aX O];exact o
     have i:(h++[Blk.cells a.row,.cells b.row])[h.length]?=some (.cells a.row):=by simp
     have j:(h++[Blk.cells a.row,.cells b.row])[h.length+1]?=some (.cells b.row):=by rw[dY (by simp)];simp
     have Q:aB 1 false (h++[.cells a.row,.cells b.row]) (.ptr q 0)=some (.map m):=by simp[aB,E,cut,aD]
     have v:aB 4 true (h++[.cells a.row,.cells b.row]) (.ptr h.length 0)=some (.agg a.to_.row):=by simp only[aB,i];rfl
     have A:aB 4 true (h++[.cells a.row,.cells b.row]) (.ptr (h.length+1) 0)=some (.agg b.to_.row):=by simp only[aB,j];rfl
     have s:aB 4 true (h++[.cells a.row,.cells b.row]) (.ptr h.length 4)=some (.agg a.fr.row):=by simp only[aB,i];rfl
     have w:aB 4 true (h++[.cells a.row,.cells b.row]) (.ptr (h.length+1) 4)=some (.agg b.fr.row):=by simp only[aB,j];rfl
     have u:aB 1 false (h++[.cells a.row,.cells b.row]) (.ptr h.length 8)=some (.n a.rt):=bT i rfl;have y:aB 1 false (h++[.cells a.row,.cells b.row]) (.ptr (h.length+1) 8)=some (.n b.rt):=bT j rfl;have k1:=zQ1 (G:=G) k F;have k2:=zQ1 (G:=G) k I;have C:=ye9 J;have B:∀f H,opV G f H (.call Fn.cu) (some [.agg a.fr.row,.agg b.fr.row])=some (.n (pP a.fr b.fr),H):=fun f H=>cU L (us:=[.agg a.fr.row,.agg b.fr.row]) (by simp[Seg.row,cV,view]) (by simp[HS]) (.inl rfl);have z:∀(c d e:Int)f h,opV G f h (.bsl false 1) (some [.n c,.n d,.n e])=some (.tsl ([c,d,e].map eI),h):=fun c d e f h=>by rw[gF rfl];rfl
     have D:=fun(c d e:Int)f H=>yf0 (G:=G) K (l:=[c,d,e]) (by simp) f H;rw[aT];unfold JJ;generalize a.row=V at*;generalize b.row=W at*;simp[Mc.ap,Ks.ap,aC,T,U,Q,v,A,s,w,u,y,k1,k2,C,B,z,-List.map_cons,-List.map_nil,D,eQ,Rs.ap,owns,dC,-aB,-gF]
    ·cases g
   ·cases g
  ·cases g
 ·cases g
section
variable(cf:Fl->Fl->Int)
def kI(e:Fl):List Fl->List Fl
 |[]=>[e]|y::r=>if cf e y<0 then y::kI e r else e::y::r
def vB:List Fl->List Fl->List Fl
 |a,[]=>a.reverse|a,e::c=>vB (kI cf e a) c
end
structure FlEnv(h:aA)(l q m:Nat)(es:List (AV×AV))(tg:Option TypeId):Prop where
 hq:h[q]?=some (.cellsT tg [.map m])hm:h[m]?=some (.map es)nq:q≠l
 nm:m≠l
def Hs(h:aA)(l ver:Nat)(rows:List Fl):aA:=h.set l (.arr 9 ver (eP rows) true)
def plN(es:List (AV×AV))(s:Seg):Int:=(plc es s).getD 0
def cfE(es:List (AV×AV))(a b:Fl):Int:=JJ (plN es a.to_) (plN es b.to_) a b
def oR(es:List (AV×AV))(f:Fl):Prop:=plc es f.to_=some (plN es f.to_)
section
variable{h:aA}{l q m ver:Nat}{es:List (AV×AV)}{tg:Option TypeId}{rows:List Fl}
theorem zA:(Hs h l ver rows).length=h.length:=by simp[Hs]
theorem VH(a:l<h.length):(Hs h l ver rows)[l]?=some (.arr 9 ver (eP rows) true):=by simp[Hs,a]
theorem yk7{a:List Fl}:(Hs h l ver rows).set l (.arr 9 ver (eP a) true)=Hs h l ver a:=by simp[Hs]
theorem yJ9{G:Gam}(j:G Fn.ap=some (.gen (bO wD)))(c:FlEnv h l q m es tg){a b:Fl}(k:oR es a)(o:oR es b)(d:Bool):opV G d (Hs h l ver rows) .callv (some [.fn Fn.ap [.ptr q 0],.agg a.row,.agg b.row])=some (.n (cfE es a b),Hs h l ver rows):=by
 have f:opV G d (Hs h l ver rows) .callv (some [.fn Fn.ap [.ptr q 0],.agg a.row,.agg b.row])=dE G Fn.ap [.agg a.row,.agg b.row,.ptr q 0] (Hs h l ver rows):=by cases d<;>rfl
 have g:(Hs h l ver rows)[q]?=some (.cellsT tg [.map m]):=by unfold Hs;rw[eY (fun e=>c.nq e.symm)];exact c.hq
 have i:(Hs h l ver rows)[m]?=some (.map es):=by unfold Hs;rw[eY (fun e=>c.nm e.symm)];exact c.hm
 rw[f,mA j];simp only[bO,wD,zs9,g,i];rw[k,o];rfl
theorem XY(c:l<h.length){i:Nat}{f:Fl}(a:rows[i]?=some f):bN 9 (Hs h l ver rows) (.own l ver rows.length) (.n (i:Int))=some (.eptr l ver i 0):=KO (VH c) (by simp) (XV a) rfl
theorem zx1(c:l<h.length){i:Nat}{f:Fl}(a:rows[i]?=some f):aB 9 true (Hs h l ver rows) (.eptr l ver i 0)=some (.agg f.row):=by rw[KS (VH c) (XV a)];simp[cut,aD,Fl.row]
theorem zx2{G:Gam}(d:l<h.length){i:Nat}{f:Fl}(c:rows[i]?=some f)(g:Fl)(j:Bool):opV G j (Hs h l ver rows) (.st 9) (some [.eptr l ver i 0,.agg g.row])=some (.junk,Hs h l ver (rows.set i g)):=by
 rw[SL (n:=9) (VH d) (XV c) rfl (by omega) rfl (by simp[Fl.row]) (by simp[view,cV,Fl.row]) (by simp[owns,eZ,Fl.row])];have e:(eP rows).set i (bF f.row 0 (AV.agg g.row).cells)=eP (rows.set i g):=by
  have a:bF f.row 0 (AV.agg g.row).cells=g.row:=rfl;rw[a,eP,eP,List.map_set]
 rw[e,yk7]
end
theorem zI0{G:Gam}(H:G Fn.ap=some (.gen (bO wD))){h:aA}{l q m ver n:Nat}{es:List (AV×AV)}{tg:Option TypeId}(d:l<h.length)(I:FlEnv h l q m es tg){e:Fl}(M:oR es e)(Y:n<=1000){ks:List MK}{Q:aS}{i:Int}(R:List Fl)(v:∀V a1,exM G .normal ks Q V [(0,.own l ver n),(1,.n 0),(2,.n n),(3,.fn Fn.ap [.ptr q 0]),(8,.n i),(9,.n a1)] (Hs h l ver R)):∀(a c:List Fl),(∀f∈a,oR es f)->(a.reverse++e::c).length=n->R=(kI (cfE es) e a).reverse++c->cY G [] Mc.b6_L1 h.length (.blk 2::ks) Q [(0,.own l ver n),(1,.n 0),(2,.n n),(3,.fn Fn.ap [.ptr q 0]),(8,.n i),(9,.n a.length)] (Hs h l ver (a.reverse++e::c))
 |[],c,w,j,g=>by
  have o:ltB 0 0=false:=rfl;have s:R=e::c:=by rw[g];rfl
  subst s;refine bQ (Mc.b6_L1.eq_1) ?_;rw[fJ zA];simp only[List.reverse_nil,jU];generalize Hs h l ver (e::c)=B at*;simp;exact v _ _|y::a,c,w,j,g=>by
  have o:ltB 0 ((a.length:Int)+1)=true:=cH.2 (by omega);have T:IntKind.i64.wrap ((a.length:Int)+1-1)=(a.length:Int):=by rw[i64_in _ ⟨by omega,by simp at j;omega⟩];omega
  have U:IntKind.i64.wrap (a.length:Int)=(a.length:Int):=i64_in _ ⟨by omega,by simp at j;omega⟩;have E:(y::a).reverse++e::c=a.reverse++y::e::c:=by simp
  have J:(a.reverse++y::e::c).length=n:=by rw[<-E];exact j
  have r:(a.reverse++y::e::c)[a.length]?=some y:=by rw[dY (by simp)];simp
  have p:(a.reverse++y::e::c)[a.length+1]?=some e:=by rw[dY (by simp)];simp
  have z:=XY (ver:=ver) d r;have k:=XY (ver:=ver) d p;have O:=zx1 (ver:=ver) d r;have N:=zx1 (ver:=ver) d p;rw[J]at z k;have D:=yJ9 (ver:=ver) (rows:=a.reverse++y::e::c) H I M (w y (by simp));have C:((a.length+1:Nat):Int)=(a.length:Int)+1:=by omega
  rw[C]at k;refine bQ (Mc.b6_L1.eq_1) ?_;rw[fJ zA,E];simp only[jA,C];by_cases u:cfE es e y<0
  ·have A:ltB (cfE es e y) 0=true:=cH.2 u;have s1:=zx2 (G:=G) (ver:=ver) d p y;have F:((a.reverse++y::e::c).set (a.length+1) y)[a.length]?=some y:=by rw[eY (by omega)];exact r
   have P:=zx2 (G:=G) (ver:=ver) d F e;have L:=XY (ver:=ver) d F;rw[gT,J]at L;have sw:((a.reverse++y::e::c).set (a.length+1) y).set a.length e=a.reverse++e::y::c:=by simp
   rw[sw]at P;have Z:=zI0 H d I M Y R v a (y::c) (fun f W=>w f (lC _ W)) (by simp at j⊢;omega) (by rw[g,kI,if_pos u];simp);have X:(Hs h l ver (a.reverse++e::y::c)).length=h.length:=zA;have a2:(Hs h l ver (a.reverse++y::e::c)).length=h.length:=zA;generalize Hs h l ver (a.reverse++y::e::c)=B at*;generalize Hs h l ver ((a.reverse++y::e::c).set (a.length+1) y)=H1 at*;generalize Hs h l ver (a.reverse++e::y::c)=H2 at*;generalize(a.length:Int)=K at*;simp[o,U,k,z,L,N,O,D,A,s1,P,-aB,-xN];refine dT ?_;rw[fJ X];simpa using Z
  ·have A:ltB (cfE es e y) 0=false:=dQ.2 (by omega);have s:R=a.reverse++y::e::c:=by rw[g,kI,if_neg u];simp
   clear g;subst s;generalize Hs h l ver (a.reverse++y::e::c)=B at*;generalize(a.length:Int)=K at*;simp[o,U,k,z,N,O,D,A,-aB];exact v _ _
theorem QT(cf:Fl->Fl->Int)(e:Fl):∀a x,x∈kI cf e a↔x=e\/x∈a
 |[],x=>by simp[kI]|y::r,x=>by
  unfold kI;split
  ·rw[dD,QT cf e r x,dD];constructor
   ·rintro(h|h|h);·exact .inr (.inl h)
    ·exact .inl h
    ·exact .inr (.inr h)
   ·rintro(h|h|h);·exact .inr (.inl h)
    ·exact .inl h
    ·exact .inr (.inr h)
  ·simp
theorem YL(cf:Fl->Fl->Int)(e:Fl):∀a,(kI cf e a).length=a.length+1
 |[]=>rfl|y::r=>by unfold kI;split<;>simp[YL cf e r]
theorem zH9{G:Gam}(r:G Fn.ap=some (.gen (bO wD))){h:aA}{l q m ver n:Nat}{es:List (AV×AV)}{tg:Option TypeId}(u:l<h.length)(s:FlEnv h l q m es tg)(w:n<=1000)(R:List Fl):∀(c a:List Fl),(∀f∈a,oR es f)->(∀f∈c,oR es f)->a.length+c.length=n->R=vB (cfE es) a c->cY G [9] Mc.b6_L0 h.length [.blk 0] (eF Rs.b6 (.tup []) (Hs h l ver R)) [(0,.own l ver n),(1,.n 0),(2,.n n),(3,.fn Fn.ap [.ptr q 0]),(8,.n a.length),(9,.junk)] (Hs h l ver (a.reverse++c))
 |[],a,o,k,d,i=>by
  have p:ltB (a.length:Int) (n:Int)=false:=dQ.2 (by simp at d;omega);have C:R=a.reverse:=i;subst C;refine bQ (Mc.b6_L0.eq_1) ?_;rw[fJ zA,iR];generalize Hs h l ver a.reverse=A at*;simp[p,eF,Rs.b6]|e::c,a,o,k,d,i=>by
  have p:ltB (a.length:Int) (n:Int)=true:=cH.2 (by simp at d;omega);have I:IntKind.i64.wrap ((a.length:Int)+1)=(a.length:Int)+1:=i64_in _ ⟨by omega,by simp at d;omega⟩;have y:=k e (by simp);have F:∀f∈kI (cfE es) e a,oR es f:=fun f g=>by
   rcases(QT _ _ _ _).1 g with rfl|g;·exact y
   ·exact o f g
  have z:=zH9 (ver:=ver) r u s w R c (kI (cfE es) e a) F (fun f g=>k f (lC _ g)) (by rw[YL];simp at d;omega) i;rw[YL]at z;have B:=fun H Q D=>zI0 (G:=G) r (ver:=ver) (n:=n) u s y w (ks:=H) (Q:=Q) (i:=(a.length:Int)) ((kI (cfE es) e a).reverse++c) D a c o (by simp at d⊢;omega) rfl;have E:(Hs h l ver ((kI (cfE es) e a).reverse++c)).length=h.length:=zA;have v:(Hs h l ver (a.reverse++e::c)).length=h.length:=zA;refine bQ (Mc.b6_L0.eq_1) ?_;rw[fJ v];generalize Hs h l ver (a.reverse++e::c)=A at*;generalize Hs h l ver ((kI (cfE es) e a).reverse++c)=J at*;simp[p,v];refine B _ _ (fun K j=>?_);simp[I];refine dT ?_;rw[fJ E];simpa[aY,Rs.b6]using z
def EF(h:aA)(q l:Nat):Option (List (AV×AV)):=match h[q]? with
 |some (.cellsT _ [.map m])=>if q=l\/m=l then none else(match h[m]? with
  |some (.map es)=>some es|_=>none)|_=>none
theorem zw8{h:aA}{q l:Nat}{es:List (AV×AV)}(a:EF h q l=some es):∃m tg,FlEnv h l q m es tg:=by
 unfold EF at a;split at a
 ·rename_i tg m f;split at a;·cases a
  ·rename_i c;split at a
   ·rename_i g d;injection a with a;subst a;exact⟨m,tg,f,d,fun e=>c (.inl e),fun e=>c (.inr e)⟩
   ·cases a
 ·cases a
def lI(es:List (AV×AV)):List Fl->List Fl
 |[]=>[]|e::a=>vB (cfE es) [e] a
def xM(es:List (AV×AV))(f:Fl):Bool:=(plc es f.to_).isSome
theorem zP5{es:List (AV×AV)}{f:Fl}(h:xM es f=true):oR es f:=by
 unfold xM at h;unfold oR plN;cases a:plc es f.to_ with
 |none=>rw[a]at h;cases h|some n=>rfl
def KG(l ver n q:Nat)(h:aA):Option (AV×aA):=match h[l]? with
 |some (.arrX false none 9 c rows true)=>match dW sX rows,EF h q l with
  |some a,some es=>if ver=c/\n=a.length/\0<n/\n<=12/\a.all (xM es)=true then some (.tup [],Hs h l ver (lI es a))else none|_,_=>none
 |_=>none
def HL:List AV->aA->Option (AV×aA)
 |[.own l ver n,.n 0,.n b,.fn g [.ptr q 0]],h=>if g=Fn.ap/\b=n then KG l ver n q h else none|_,_=>none
def HO:List AV->aA->Option (AV×aA)
 |[.own l ver n,.n 0,.n b,.n _,.fn g [.ptr q 0]],h=>if g=Fn.ap/\b=n then KG l ver n q h else none|_,_=>none
def HU:List AV->aA->Option (AV×aA)
 |[.own l ver n,.fn g [.ptr q 0]],h=>if g=Fn.ap then KG l ver n q h else none|_,_=>none
theorem XX{l ver n q:Nat}{h:aA}{r:AV}{e:aA}(a:KG l ver n q h=some (r,e)):∃c es m tg,h[l]?=some (.arr 9 ver (eP c) true)/\FlEnv h l q m es tg/\n=c.length/\0<n/\n<=12/\(∀f∈c,oR es f)/\r=.tup []/\e=Hs h l ver (lI es c):=by
 unfold KG at a;split at a
 ·rename_i v rows u;split at a
  ·rename_i c es p d;split at a
   ·rename_i o;obtain⟨rfl,g,i,j,k⟩:=o;simp only[aE,aR]at a;obtain⟨rfl,rfl⟩:=a;obtain⟨m,tg,s⟩:=zw8 d;exact⟨c,es,m,tg,by rw[u,zw9 p],s,g,i,j,fun f d=>zP5 (fK.1 k f d),rfl,rfl⟩
   ·cases a
  ·cases a
 ·cases a
theorem yU6{G:Gam}(v:G Fn.ap=some (.gen (bO wD))):GW G Mc.b6 Rs.b6 Ks.b6 HL:=by
 intro E h r F c;unfold HL at c;split at c
 ·rename_i l ver n b g q;split at c
  ·rename_i z;obtain⟨rfl,rfl⟩:=z;obtain⟨o,es,m,tg,i,y,rfl,p,s,j,rfl,rfl⟩:=XX c;have B:l<h.length:=(aF.1 i).1;cases o with
   |nil=>simp at p|cons e a=>
    have A:h=Hs h l ver ([e].reverse++a):=by
     obtain⟨w,u⟩:=aF.1 i;have:[e].reverse++a=e::a:=rfl;unfold Hs;rw[this,<-u];exact(List.set_getElem_self w).symm
    have k:=zH9 v (ver:=ver) (n:=(e::a).length) B y (by simp at s⊢;omega) (lI es (e::a)) a [e] (fun f d=>by simp at d;subst d;exact j f (by simp)) (fun f d=>j f (by simp[d])) (by simp;omega) rfl;have C:IntKind.i64.wrap 1=1:=rfl;rw[<-A]at k;rw[aT];generalize(e::a).length=N at*;generalize Hs h l ver (lI es (e::a))=D at*;simp[Mc.b6,Ks.b6,aC,C];simpa using k
  ·cases c
 ·cases c
theorem xi5{G:Gam}(f:G Fn.b6=some (.gen HL)):GW G Mc.cs Rs.cs Ks.cs HO:=by
 intro p h r s c;unfold HO at c;split at c
 ·rename_i l ver n b A g q;split at c
  ·rename_i i;obtain⟨rfl,rfl⟩:=i;have e:=c;obtain⟨a,es,m,tg,y,w,rfl,u,v,z,rfl,rfl⟩:=XX c;have d:opV G false h (.call Fn.b6) (some [.own l ver a.length,.n 0,.n (a.length:Int),.fn Fn.ap [.ptr q 0]])=some (.tup [],Hs h l ver (lI es a)):=by rw[dV f];simp only[HL,and_self,aM];exact e
   have k:IntKind.i64.wrap (a.length:Int)=(a.length:Int):=i64_in _ ⟨by omega,by omega⟩;have j:ltB 12 (a.length:Int)=false:=dQ.2 (by omega);rw[aT];generalize Hs h l ver (lI es a)=o at*;simp[Mc.cs,Ks.cs,aC];refine bQ (Mc.cs_L0.eq_1) ?_;rw[fJ (n:=h.length) rfl];simp[k,j,d,eF,Rs.cs,aY]
  ·cases c
 ·cases c
def CD:List AV->Option AV
 |[.u x]=>if 0<=x/\x<=18446744073709551615 then some (.n (Lib.bitLen x.toNat))else none|_=>none
theorem yq7{P:Program}{g:Gv}{f:Nat}(i:∀(x:Int)(w:World),0<=x->x<=18446744073709551615->Calls P f #[.int .u64 x] w fun e d=>e=.returned (.int .i64 (Lib.bitLen x.toNat))/\d=w):dP P g f CD:=by
 refine xR fun I w p r v s u k a=>?_;unfold CD at a;split at a
 ·rename_i x;split at a
  ·rename_i c;injection a with a;subst a;obtain⟨y,rfl,o⟩:=zP7 k;have:=dK o;subst this;refine(i x w c.1 c.2).mono fun e d j=>?_;obtain⟨rfl,rfl⟩:=j;exact⟨⟨_,rfl,.int _ _⟩,Below.refl _ _⟩
  ·cases a
 ·cases a
theorem xt9{G:Gam}(o:G Fn.cs=some (.gen HO))(i:G Fn.dq=some (.pure CD)):GW G Mc.cr Rs.cr Ks.cr HU:=by
 intro v h r w c;unfold HU at c;split at c
 ·rename_i l ver n g q;split at c
  ·rename_i p;subst p;have j:=c;obtain⟨a,es,m,tg,B,A,rfl,y,z,C,rfl,rfl⟩:=XX c;have f:∀k:Int,opV G false h (.call Fn.cs) (some [.own l ver a.length,.n 0,.n (a.length:Int),.n k,.fn Fn.ap [.ptr q 0]])=some (.tup [],Hs h l ver (lI es a)):=fun k=>by rw[dV o];simp only[HO,and_self,aM];exact j
   have s:IntKind.u64.wrap (a.length:Int)=(a.length:Int):=by simp only[IntKind.wrap,IntKind.signed,IntKind.bits,iB,bM,bH];omega
   have e:∀d,opV G d h (.call Fn.dq) (some [.u (a.length:Int)])=some (.n (Lib.bitLen a.length),h):=fun d=>cU i (us:=[.u (a.length:Int)]) rfl (by simp only[CD];rw[if_pos (by omega)];rfl) (.inl rfl);rw[aT];generalize Hs h l ver (lI es a)=u at*;simp[Mc.cr,Ks.cr,aC,aW,s,e,f,eF,Rs.cr]
  ·cases c
 ·cases c
def mW(cf:Fl->Fl->Int)(S:List Fl):Bool:=S.zipIdx.all fun a=>S.zipIdx.all fun b=>decide (cf a.1 b.1<0)==decide (a.2<b.2)
section
variable{cf:Fl->Fl->Int}{S:List Fl}
theorem tJ(h:mW cf S=true){i j:Nat}{a b:Fl}(e:S[i]?=some a)(f:S[j]?=some b):cf a b<0↔i<j:=by
 have d:=fK.1 h (a,i) (List.mem_zipIdx_iff_getElem?.2 e);have c:=fK.1 d (b,j) (List.mem_zipIdx_iff_getElem?.2 f);simp only[beq_iff_eq,decide_eq_decide]at c;exact c
theorem SN(h:mW cf S=true){a:Fl}(d:a∈S):¬cf a a<0:=by
 obtain⟨i,c⟩:=lM.1 d;rw[tJ h c c];omega
theorem SO(h:mW cf S=true){a b c:Fl}(p:a∈S)(r:b∈S)(s:c∈S)(g:cf a b<0)(o:cf b c<0):cf a c<0:=by
 obtain⟨i,d⟩:=lM.1 p;obtain⟨j,e⟩:=lM.1 r;obtain⟨k,f⟩:=lM.1 s;rw[tJ h d e]at g;rw[tJ h e f]at o;rw[tJ h d f];omega
theorem zQ9(h:mW cf S=true){a b:Fl}(f:a∈S)(g:b∈S)(k:a≠b):cf a b<0\/cf b a<0:=by
 obtain⟨i,c⟩:=lM.1 f;obtain⟨j,d⟩:=lM.1 g;rw[tJ h c d,tJ h d c];have:i≠j:=fun e=>k (by rw[e,d]at c;injection c with c;exact c.symm);omega
theorem za6(h:mW cf S=true):S.Pairwise fun a b=>cf a b<0:=by
 rw[List.pairwise_iff_getElem];intro i j c e d;exact(tJ h (gI c) (gI e)).2 d
theorem za5(h:mW cf S=true):S.Nodup:=List.Pairwise.imp_of_mem (fun{a b}c _ d=>fun e=>by subst e;exact SN h c d) (za6 h)
theorem YM(e:Fl):∀a,(kI cf e a).Perm (e::a)
 |[]=>.refl _|y::r=>by
  unfold kI;split;·exact((YM e r).cons y).trans (.swap _ _ _)
  ·exact .refl _
theorem zI5:∀c a,(vB cf a c).Perm (a++c)
 |[],a=>by unfold vB;rw[iR];exact List.reverse_perm a|e::c,a=>by
  unfold vB;refine(zI5 c _).trans ?_;refine((YM e a).append_right c).trans ?_;exact(List.perm_middle (a:=e) (l₁:=a) (l₂:=c)).symm
theorem zH8(h:mW cf S=true){e:Fl}(g:e∈S):∀c,(∀x∈c,x∈S)->e∉c->c.Pairwise (fun x y=>cf y x<0)->(kI cf e c).Pairwise (fun x y=>cf y x<0)
 |[],_,_,_=>by simp[kI]|y::r,i,k,o=>by
  obtain⟨u,w⟩:=iC.1 o;have p:=i y (by simp);unfold kI;split
  ·rename_i f;refine iC.2 ⟨fun z a=>?_,zH8 h g r (fun x j=>i x (by simp[j])) (fun j=>k (by simp[j])) w⟩;rcases(QT _ _ _ _).1 a with rfl|a;·exact f
   ·exact u z a
  ·rename_i f;have s:cf y e<0:=by
    rcases zQ9 h p g (fun v=>k (by simp[v]))with d|d;·exact d
    ·exact absurd d f
   refine iC.2 ⟨fun z a=>?_,o⟩;rcases dD.1 a with rfl|a;·exact s
   ·exact SO h (i z (by simp[a])) p g (u z a) s
theorem zI6(h:mW cf S=true):∀d a,(∀x∈a,x∈S)->(∀x∈d,x∈S)->(a++d).Nodup->a.Pairwise (fun x y=>cf y x<0)->(vB cf a d).Pairwise (fun x y=>cf x y<0)
 |[],a,_,_,_,f=>by unfold vB;exact List.pairwise_reverse.2 f|e::d,a,i,k,j,f=>by
  unfold vB;have g:=k e (by simp);have o:e∉a:=fun c=>by
   have:=(List.nodup_append.1 j).2.2 e c e (by simp);exact this rfl
  refine zI6 h d _ (fun x c=>?_) (fun x c=>k x (by simp[c])) ?_ (zH8 h g a i o f)
  ·rcases(QT _ _ _ _).1 c with rfl|c;·exact g
   ·exact i x c
  ·refine(List.Perm.nodup_iff ?_).1 j;exact(List.perm_middle (a:=e) (l₁:=a) (l₂:=d)).trans ((YM e a).append_right d).symm
end
theorem ya6{es:List (AV×AV)}:∀l,(lI es l).Perm l
 |[]=>.refl _|e::r=>zI5 r [e]
def KI:MC:=.s [zm 97 10,iz 98 (.mkfn Fn.ap) [.t 7],zg 99 Fn.cr [.t 97,.t 98]] (.r [zm 100 10,zM 4 100])
def uU:List (AV×AV)->Option (List Fl)
 |[]=>some []|(.agg r,_)::t=>match sX r,uU t with
  |some f,some l=>some (f::l)|_,_=>none
 |_=>none
theorem XE:∀{es:List (AV×AV)}{a:List Fl},uU es=some a->es.length=a.length/\∀(i:Nat)(f:Fl),a[i]?=some f->∃v:AV,es[i]?=some (AV.agg f.row,v)
 |[],a,h=>by injection h with h;subst h;exact⟨rfl,fun i f c=>by simp at c⟩|(k,v)::t,a,h=>by
  unfold uU at h;split at h;·rename_i e;cases e
  ·rename_i r w u e;obtain⟨⟨rfl,rfl⟩,rfl⟩:(k=.agg r/\v=w)/\t=u:=by simpa using e
   split at h
   ·rename_i f l c p;injection h with h;subst h;obtain⟨j,o⟩:=XE p;obtain rfl:=PJ c;refine⟨by simp[j],fun i g d=>?_⟩;cases i with
    |zero=>simp at d;subst d;exact⟨v,by simp⟩|succ i=>obtain⟨v,s⟩:=o i g (by simpa using d);exact⟨v,by simpa using s⟩
   ·cases h
  ·cases h
def FH(P:aA)(m n:Nat)(ts:List Fl)(seen:List Nat)(x:aA):aA:=P++(.arr 9 ts.length (eP ts) true::.mit (some m) n seen n::x)
def FD(P:aA)(ver:Nat)(ts:List Fl):aA:=P++[.arr 9 ver (eP ts) true,.dead]
section
variable{h x:aA}{m n l:Nat}{ts:List Fl}{seen:List Nat}{t:Fl}{b:Blk}{es:List (AV×AV)}
theorem yk1:(FH h m n ts seen x).length=h.length+2+x.length:=by simp[FH];omega
theorem zi5(a:h[l]?=some b):(FH h m n ts seen x)[l]?=some b:=jY a
theorem yj8:(FH h m n ts seen x)[h.length]?=some (.arr 9 ts.length (eP ts) true):=by unfold FH;rw[dY (by simp)];simp
theorem zi6:(FH h m n ts seen x)[h.length+1]?=some (.mit (some m) n seen n):=by unfold FH;rw[dY (by simp)];simp
theorem yk2{a:List Nat}:(FH h m n ts seen x).set (h.length+1) (.mit (some m) n a n)=FH h m n ts a x:=by unfold FH;rw[gK _ _ (by simp)];simp
theorem yj9:(FH h m n ts seen []).set (h.length+1) .dead=FD h ts.length ts:=by unfold FH FD;rw[gK _ _ (by simp)];simp
theorem VB{a:List (Nat×AV)}(d:bG h.length h=true)(f:m<h.length)(c:cQ (h.length+2) a=true):trunc (h.length+2) a (FH h m n ts seen x)=FH h m n ts seen []:=by
 have e:FH h m n ts seen x=FH h m n ts seen []++x:=by simp[FH]
 rw[e];refine yE (by simp[FH]) c ?_;unfold FH;refine xH (AJ (by omega) d) ?_;simp[bG,gR];omega
theorem zi7(c:h[m]?=some (.map es))(d:es.length=n):iG (FH h m n ts seen x) (h.length+1)=(match left n seen with
  |[]=>some [(.tup [.F],(FH h m n ts seen x).set (h.length+1) .dead)]|i::e=>some ((i::e).map fun i=>(.tup [.T,(es[i]?.getD (.junk,.junk)).1,(es[i]?.getD (.junk,.junk)).2],FH h m n ts (seen++[i]) x))):=by
 unfold iG;rw[zi6];simp only[zi5 c,d,and_self,aM,left];split<;>rename_i a;·rw[a]
 ·rw[a];simp only[yk2]
theorem yk0{i:Nat}{a b:AV}(d:h[m]?=some (.map es))(e:es.length=n)(c:es[i]?=some (a,b)):rG (FH h m n ts (seen++[i]) x) (h.length+1)=some (.tup [a,b]):=by
 unfold rG;rw[zi6];simp[zi5 d,e,c]
end
def FQ(a:List Fl)(seen:List Nat):List Fl:=seen.filterMap fun i=>a[i]?
theorem xk2(a:List Fl):(List.range a.length).filterMap (fun i=>a[i]?)=a:=by induction a with
 |nil=>rfl|cons x r c=>
  rw[jA,List.range_succ_eq_map,List.filterMap_cons];simp only[wL,List.filterMap_map];congr 1
theorem xi8{c:List Fl}{seen:List Nat}(e:seen.Nodup)(g:∀i∈seen,i<c.length)(d:∀i,i<c.length->i∈seen):(FQ c seen).Perm c:=by
 have f:seen.Perm (List.range c.length):=(List.perm_ext_iff_of_nodup e List.nodup_range).2 fun a=>⟨fun h=>jF.2 (g a h),fun h=>d a (jF.1 h)⟩;have:=f.filterMap fun i=>c[i]?;rw[xk2]at this;exact this
def vs0:List AV:=[.str [],.str [],.n 0,.n 0,.str [],.str [],.n 0,.n 0,.n 0]
theorem yK0{G:Gam}{H:aA}{f:Fl}(i:Bool):opV G i (H++[.cells vs0]) (.st 9) (some [.ptr H.length 0,.agg f.row])=some (.junk,H++[.cells f.row]):=by
 have e:(H++[Blk.cells vs0])[H.length]?=some (.cells vs0):=by simp
 have a:bF vs0 0 (AV.agg f.row).cells=f.row:=rfl;have c:(AV.agg f.row).cells.length=9:=rfl;have d:(AV.agg f.row).cells.all bE=true:=rfl;have g:vs0.length=9:=rfl;rw[xN];simp only[bB,c,d,e,g,a];simp
end Go.Proofs.YtpefhfiehfkocaaGreatDoor
