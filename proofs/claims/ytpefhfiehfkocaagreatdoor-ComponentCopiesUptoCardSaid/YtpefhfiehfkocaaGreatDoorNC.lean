/- Words of an image -/
import Derived.Test.YtpefhfiehfkocaaGreatDoorNA
import Derived.Test.YtpefhfiehfkocaaGreatDoorNB
namespace Go.Proofs.YtpefhfiehfkocaaGreatDoor
open Go.RowKit Go.IntWalk
def vU(s:Bs)(i:Nat):Nat:=16777216*(s.getD (i+3) 0).toNat+(65536*(s.getD (i+2) 0).toNat+(256*(s.getD (i+1) 0).toNat+(s.getD i 0).toNat))
theorem za3{x c i:Nat}(f:x<2^i)(g:2^i*c+x<4294967296):bY .or (.n (x:Int)) (.n ((2^i*c:Nat):Int))=some (.n ((2^i*c+x:Nat):Int)):=by
 have e:(BitVec.ofInt 64 (x:Int)|||BitVec.ofInt 64 ((2^i*c:Nat):Int)).toNat=2^i*c+x:=by
  rw[BitVec.toNat_or,Nat.or_comm,Nat.two_pow_add_eq_or_of_lt f];have a:(BitVec.ofInt 64 ((2^i*c:Nat):Int)).toNat=2^i*c:=by rw[BitVec.toNat_ofInt];omega
  have b:(BitVec.ofInt 64 (x:Int)).toNat=x:=by rw[BitVec.toNat_ofInt];omega
  rw[a,b]
 have d:jJ .or .i64 (x:Int) ((2^i*c:Nat):Int)=some (.n (IntKind.i64.wrap ((BitVec.ofInt 64 (x:Int)|||BitVec.ofInt 64 ((2^i*c:Nat):Int)).toNat:Int))):=rfl;simp only[bY,reduceCtorEq,or_self,bH,aM];rw[d,e,i64_in _ ⟨by omega,by omega⟩]
theorem ze0{b i:Nat}(g:b<256)(e:i<=24):bY .shl (.n (b:Int)) (.u (i:Int))=some (.n ((2^i*b:Nat):Int)):=by
 have f:2^i<=2^24:=Nat.pow_le_pow_right (by omega) e;have h:2^i*b<=2^24*255:=Nat.mul_le_mul f (by omega);have a:Nat.min (i:Int).toNat IntKind.i64.bits=i:=by rw[qV];exact wN (show i<=64 by omega)
 have c:(b:Int)*2^i=((2^i*b:Nat):Int):=by rw[Nat.mul_comm];simp
 have d:IntKind.i64.wrap ((b:Int)*2^i)=((2^i*b:Nat):Int):=by rw[c,i64_in _ ⟨by omega,by omega⟩]
 simp only[bY,reduceCtorEq,true_or,aM,a];simp[d]
theorem upE{n:Int}(a:0<=n)(b:n<4000000000000000000):IntKind.i64.wrap (4*((n+3).tdiv 4))=4*((n+3)/4):=by rw[IJ (by omega),i64_in _ ⟨by omega,by omega⟩]
def wF:List AV->Option AV
 |[.str s,.n i]=>if 0<=i/\i+3<s.length/\s.length<big then some (.n (vU s i.toNat))else none|_=>none
theorem QO{s:Bs}{i:Nat}(h:i<s.length):s[i]?=some (s.getD i 0):=by rw[zF,gI h];rfl
theorem xF9{G:Gam}:PW G Mc.b0 Rs.b0 Ks.b0 wF:=by
 intro O r b;unfold wF at b;split at b
 ·rename_i s i;split at b
  ·rename_i A;obtain⟨U,V,x⟩:=A;injection b with b;subst b;obtain⟨n,rfl⟩:∃n:Nat,i=n:=⟨i.toNat,by omega⟩;unfold big at x;have t:∀a h,opV G a h .istr (some [.str s,.n (n:Int)])=some (.int .u8 ((s.getD n 0).toNat:Int),h):=fun a h=>vH (QO (by omega));have u:∀a h,opV G a h .istr (some [.str s,.n ((n+1:Nat):Int)])=some (.int .u8 ((s.getD (n+1) 0).toNat:Int),h):=fun a h=>vH (QO (by omega));have v:∀a h,opV G a h .istr (some [.str s,.n ((n+2:Nat):Int)])=some (.int .u8 ((s.getD (n+2) 0).toNat:Int),h):=fun a h=>vH (QO (by omega));have w:∀a h,opV G a h .istr (some [.str s,.n ((n+3:Nat):Int)])=some (.int .u8 ((s.getD (n+3) 0).toNat:Int),h):=fun a h=>vH (QO (by omega));have L:IntKind.i64.wrap ((n:Int)+1)=((n+1:Nat):Int):=by rw[i64_in _ ⟨by omega,by omega⟩];omega
   have M:IntKind.i64.wrap ((n:Int)+2)=((n+2:Nat):Int):=by rw[i64_in _ ⟨by omega,by omega⟩];omega
   have N:IntKind.i64.wrap ((n:Int)+3)=((n+3:Nat):Int):=by rw[i64_in _ ⟨by omega,by omega⟩];omega
   have P:=(s.getD n 0).toNat_lt;have Q:=(s.getD (n+1) 0).toNat_lt;have S:=(s.getD (n+2) 0).toNat_lt;have T:=(s.getD (n+3) 0).toNat_lt;rw[aT];unfold vU;rw[qV];generalize n+1=D at*;generalize n+2=E at*;generalize n+3=F at*;generalize(s.getD n 0).toNat=f at*;generalize(s.getD D 0).toNat=c at*;generalize(s.getD E 0).toNat=d at*;generalize(s.getD F 0).toNat=e at*;have H:IntKind.i64.wrap (f:Int)=f:=i64_in _ ⟨by omega,by omega⟩;have I:IntKind.i64.wrap (c:Int)=c:=i64_in _ ⟨by omega,by omega⟩;have J:IntKind.i64.wrap (d:Int)=d:=i64_in _ ⟨by omega,by omega⟩;have K:IntKind.i64.wrap (e:Int)=e:=i64_in _ ⟨by omega,by omega⟩;have o:bY .shl (.n (c:Int)) (.u 8)=some (.n ((256*c:Nat):Int)):=ze0 (i:=8) (by omega) (by omega);have p:bY .shl (.n (d:Int)) (.u 16)=some (.n ((65536*d:Nat):Int)):=ze0 (i:=16) (by omega) (by omega);have q:bY .shl (.n (e:Int)) (.u 24)=some (.n ((16777216*e:Nat):Int)):=ze0 (i:=24) (by omega) (by omega);have g:bY .or (.n (f:Int)) (.n ((256*c:Nat):Int))=some (.n ((256*c+f:Nat):Int)):=za3 (i:=8) (by omega) (by omega);obtain⟨l,B⟩:∃y,y=256*c+f:=⟨_,rfl⟩;have j:bY .or (.n (l:Int)) (.n ((65536*d:Nat):Int))=some (.n ((65536*d+l:Nat):Int)):=za3 (i:=16) (by omega) (by omega);obtain⟨m,C⟩:∃y,y=65536*d+l:=⟨_,rfl⟩;have k:bY .or (.n (m:Int)) (.n ((16777216*e:Nat):Int))=some (.n ((16777216*e+m:Nat):Int)):=za3 (i:=24) (by omega) (by omega);rw[<-B]at g⊢;rw[<-C]at j⊢;generalize 16777216*e+m=z at k⊢;generalize 256*c=W at o g;generalize 65536*d=X at p j;generalize 16777216*e=Y at q k;simp[Mc.b0,Ks.b0,aC,t,u,v,w,L,M,N,H,I,J,K,o,p,q,g,j,k,aJ,Rs.b0]
  ·cases b
 ·cases b
theorem OR(b:Bin)(n:Nat):bA n b.cells=true:=by simp[Bin.cells,bA,low]
theorem yb4{h:aA}{p d:Bs}:bB 2 (h++[.cells [.str [],.str []]]) (.ptr h.length 0) (.agg [.str p,.str d])=some (h++[.cells [.str p,.str d]]):=by
 have:=qM (h:=h++[Blk.cells [.str [],.str []]]) (l:=h.length) (n:=2) (vs:=[.str [],.str []]) (us:=[.str p,.str d]) (by simp) rfl rfl (by omega) rfl;simpa[-aQ]using this
def AS(p:Plc):Bool:=decide (-1000000000000<=p.pos)&&decide (p.pos<=1000000000000)&&decide (-1000000000000<=p.siz)&&decide (p.siz<=1000000000000)
theorem ZY{p:Plc}(h:AS p=true):(-1000000000000<=p.pos/\p.pos<=1000000000000)/\(-1000000000000<=p.siz/\p.siz<=1000000000000):=by simpa[AS,and_assoc]using h
def EY(b:Bin):Bool:=decide (b.pl.length<1000000)&&b.pl.all AS
theorem LN{b:Bin}(h:EY b=true):b.pl.length<1000000/\∀p∈b.pl,AS p=true:=by simpa[EY]using h
theorem xv6{h:aA}{p:Plc}:bB 5 (h++[.cells [.str [],.str [],.n 0,.n 0,.n 0]]) (.ptr h.length 0) (.agg p.row)=some (h++[.cells p.row]):=by
 have:=qM (h:=h++[Blk.cells [.str [],.str [],.n 0,.n 0,.n 0]]) (l:=h.length) (n:=5) (vs:=[.str [],.str [],.n 0,.n 0,.n 0]) (us:=p.row) (by simp) rfl rfl (by omega) rfl;simpa[-aQ]using this
theorem JD{G:Gam}(b:Bin)(a:Bool):opV G a [] .box (some [.agg b.cells])=some (.ptr 0 0,[.cells b.cells]):=jN (h:=[]) (v:=.agg b.cells) (by simp[AV.cells,Bin.cells])
def atE(a:Int)(p:Plc):Bool:=decide (p.pos<=a)&&decide (0<p.siz)&&decide (a<p.pos+p.siz)
def lT(a:Int):Bool:=decide (-1000000000000<=a)&&decide (a<=1000000000000)
theorem ya5{a:Int}(h:lT a=true):-1000000000000<=a/\a<=1000000000000:=by simpa[lT]using h
def HH:List AV->aA->Option AV
 |[.agg b,.ptr l 0],h=>match wV b with
  |some p=>match h[l]? with
   |some (.cellsT _ [.n a])=>if AS p=true/\lT a=true then some (.bool (atE a p))else none|_=>none
  |none=>none
 |_,_=>none
theorem xB4{a p:Int}(b:-1000000000000<=a/\a<=1000000000000)(c:-1000000000000<=p/\p<=1000000000000)(h:p<=a):IntKind.u64.wrap (IntKind.u64.wrap a-IntKind.u64.wrap p)=a-p:=by
 simp only[IntKind.wrap,IntKind.signed,IntKind.bits];simp;omega
theorem xB5{a:Int}(b:0<=a)(c:a<=1000000000000):IntKind.u64.wrap a=a:=by
 simp only[IntKind.wrap,IntKind.signed,IntKind.bits];simp;omega
theorem WJ{G:Gam}(p:Plc)(a:Bool)(h:aA):opV G a h .box (some [.agg p.row])=some (.ptr h.length 0,h++[.cells p.row]):=jN (h:=h) (v:=.agg p.row) (by simp[AV.cells,Plc.row])
theorem MA{h:aA}{p:Plc}{o:Nat}{v:AV}(a:p.row[o]?=some v):aB 1 false (h++[.cells p.row]) (.ptr h.length o)=some v:=bT (l:=h.length) (by simp) a
theorem yp3{G:Gam}:LW G Mc.a5 Rs.a5 Ks.a5 HH:=by
 intro y h r b;unfold HH at b;split at b
 ·rename_i z l;split at b
  ·rename_i p w;split at b
   ·rename_i tg a q;split at b
    ·rename_i o;injection b with b;subst b;obtain rfl:=PN w;obtain⟨k1,k2⟩:=ZY o.1;have k3:=ya5 o.2;have v:l<h.length:=(aF.1 q).1;have u:(h++[Blk.cells p.row])[l]?=some (.cellsT tg [.n a]):=by rw[aX v];exact q
     have e:aB 1 false (h++[.cells p.row]) (.ptr l 0)=some (.n a):=by simp[aB,u,cut,aD]
     have f:=fun x=>WJ (G:=G) p x h;have g:aB 1 false (h++[.cells p.row]) (.ptr h.length 3)=some (.n p.pos):=MA rfl;have k:aB 1 false (h++[.cells p.row]) (.ptr h.length 4)=some (.n p.siz):=MA rfl;rw[aT];unfold atE;by_cases c:p.pos<=a
     ·have d:ltB a p.pos=false:=dQ.2 (by omega);by_cases j:0<p.siz
      ·have i:ltB 0 p.siz=true:=cH.2 (by omega);have s:=xB4 k3 k1 c;have t:=xB5 (a:=p.siz) (by omega) (by omega);by_cases n:a<p.pos+p.siz
       ·have m:ltB (a-p.pos) p.siz=true:=cH.2 (by omega);simp[Mc.a5,aC,Ks.a5,f,e,g,k,d,i,m,s,t,c,j,n,eQ,Rs.a5,owns,dC,-aB]
       ·have m:ltB (a-p.pos) p.siz=false:=dQ.2 (by omega);simp[Mc.a5,aC,Ks.a5,f,e,g,k,d,i,m,s,t,c,j,n,eQ,Rs.a5,owns,dC,-aB]
      ·have i:ltB 0 p.siz=false:=dQ.2 (by omega);simp[Mc.a5,aC,Ks.a5,f,e,g,k,d,i,c,j,eQ,Rs.a5,owns,dC,-aB]
     ·have d:ltB a p.pos=true:=cH.2 (by omega);simp[Mc.a5,aC,Ks.a5,f,e,g,d,c,eQ,Rs.a5,owns,dC,-aB]
    ·cases b
   ·cases b
  ·cases b
 ·cases b
def CW:List AV->aA->Option AV
 |[.agg b,.ptr l 0],h=>match wV b with
  |some p=>match h[l]? with
   |some (.cellsT _ [.n a])=>some (.bool (p.pos==a))|_=>none
  |none=>none
 |_,_=>none
theorem xG0{G:Gam}:LW G Mc.b1 Rs.b1 Ks.b1 CW:=by
 intro o h r b;unfold CW at b;split at b
 ·rename_i q l;split at b
  ·rename_i p m;split at b
   ·rename_i tg a e;injection b with b;subst b;obtain rfl:=PN m;have k:l<h.length:=(aF.1 e).1;have j:(h++[Blk.cells p.row])[l]?=some (.cellsT tg [.n a]):=by rw[aX k];exact e
    have f:aB 1 false (h++[.cells p.row]) (.ptr l 0)=some (.n a):=by simp[aB,j,cut,aD]
    have g:=fun n=>WJ (G:=G) p n h;have i:aB 1 false (h++[.cells p.row]) (.ptr h.length 3)=some (.n p.pos):=MA rfl;rw[aT];cases d:(p.pos==a)with
    |true=>
     have c:eqB p.pos a=true:=kQ.2 (by simpa using d);simp[Mc.b1,aC,Ks.b1,g,f,i,c,eQ,Rs.b1,owns,dC,-aB]|false=>
     have c:eqB p.pos a=false:=gM.2 (by simpa using d);simp[Mc.b1,aC,Ks.b1,g,f,i,c,eQ,Rs.b1,owns,dC,-aB]
   ·cases b
  ·cases b
 ·cases b
def CL:List AV->aA->Option AV
 |[.agg b,.ptr l 0],h=>match wV b with
  |some p=>match h[l]? with
   |some (.cellsT _ [.str y,.n a])=>some (.bool (p.sym==y&&p.pos==a))|_=>none
  |none=>none
 |_,_=>none
theorem yI9{G:Gam}:LW G Mc.bh Rs.bh Ks.bh CL:=by
 intro t h r b;unfold CL at b;split at b
 ·rename_i u l;split at b
  ·rename_i p q;split at b
   ·rename_i tg y a j;injection b with b;subst b;obtain rfl:=PN q;have o:l<h.length:=(aF.1 j).1;have k:(h++[Blk.cells p.row])[l]?=some (.cellsT tg [.str y,.n a]):=by rw[aX o];exact j
    have d:aB 1 false (h++[.cells p.row]) (.ptr l 0)=some (.str y):=by simp[aB,k,cut,aD]
    have m:aB 1 false (h++[.cells p.row]) (.ptr l 1)=some (.n a):=by simp[aB,k,cut,aD]
    have e:=fun s=>WJ (G:=G) p s h;have f:aB 1 false (h++[.cells p.row]) (.ptr h.length 1)=some (.str p.sym):=MA rfl;have n:aB 1 false (h++[.cells p.row]) (.ptr h.length 3)=some (.n p.pos):=MA rfl;rw[aT];cases c:(p.sym==y)with
    |false=>simp[Mc.bh,aC,Ks.bh,e,d,f,c,eC,eQ,Rs.bh,owns,dC,-aB]|true=>cases i:(p.pos==a)with
     |true=>
      have g:eqB p.pos a=true:=kQ.2 (by simpa using i);simp[Mc.bh,aC,Ks.bh,e,d,m,f,n,c,g,eC,eQ,Rs.bh,owns,dC,-aB]|false=>
      have g:eqB p.pos a=false:=gM.2 (by simpa using i);simp[Mc.bh,aC,Ks.bh,e,d,m,f,n,c,g,eC,eQ,Rs.bh,owns,dC,-aB]
   ·cases b
  ·cases b
 ·cases b
def Ow.__strings_Builder__WriteString:List Nat:=[14]
def Ks.bx:List Nat:=[0,1,4]
def Rs.bx:List RV:=[.tmp 4]
def Dl.bx:List (List Nat):=[]
def Mc.bx:MC:=.s [Kb 4 false] (.r [zm 5 0,zm 6 1,zg 7 Fn.a4 [.t 5,.t 6],zc 8 .geq 7 0,zM 4 8])
def Ks.ck:List Nat:=[0,1,4]
def Rs.ck:List RV:=[.tmp 4]
def Dl.ck:List (List Nat):=[]
def Mc.ck:MC:=.s [Kb 4 false] (.r [zm 5 0,zm 6 1,zg 7 Fn.bj [.t 5,.t 6],zc 8 .geq 7 0,zM 4 8])
def Ks.bj:List Nat:=[0,1,4,5,7,8]
def Rs.bj:List RV:=[.tmp 4]
def Dl.bj:List (List Nat):=[[5]]
def Mc.bj_L0:MC:=.s [zb 9 .lss 8 7] (.seq (.ite (.t 9) .skip (.exit 0)) (.b 1 (.s [zm 10 8,zM 5 10] (.s [zm 11 1,zm 12 0,zm 13 5,zi 14 1 12 13,zl 15 14,iz 16 (.eqB false) [.t 11,.t 15]] (.ite (.t 16) (.r [zm 17 5,zM 4 17]) .skip))) (.reg [zc 18 .add 8 1,zM 8 18])))
def Mc.bj:MC:=.s [Kc 4 0] (.seq (.s [zm 6 0,Kn 7 1 6,Kc 8 0] (.blk 0 (.loop [5] Mc.bj_L0))) (.r [Kc 4 (-1)]))
def Ks.a4:List Nat:=[0,1,4,5,7,8]
def Rs.a4:List RV:=[.tmp 4]
def Dl.a4:List (List Nat):=[[5]]
def Mc.a4_L0:MC:=.s [zb 9 .lss 8 7] (.seq (.ite (.t 9) .skip (.exit 0)) (.b 1 (.s [zm 10 8,zM 5 10] (.s [zm 11 1,zm 12 0,zm 13 5,zi 14 5 12 13,zL 15 5 14,Zv 16 [.t 11,.t 15]] (.ite (.t 16) (.r [zm 17 5,zM 4 17]) .skip))) (.reg [zc 18 .add 8 1,zM 8 18])))
def Mc.a4:MC:=.s [Kc 4 0] (.seq (.s [zm 6 0,Kn 7 1 6,Kc 8 0] (.blk 0 (.loop [5] Mc.a4_L0))) (.r [Kc 4 (-1)]))
def Ks.ba:List Nat:=[0,1,3]
def Rs.ba:List RV:=[.tmp 3]
def Dl.ba:List (List Nat):=[]
def Mc.ba:MC:=.s [Kb 3 false] (.r [zm 4 0,zg 5 Fn.ce [.t 4],Zu 6 5,zm 7 6,Gl 7 true 8 1,Gm 7 true 9 8,Gm 9 true 10 0,Gg 9 true 11 Fn.b5 [.t 10],gz 7 true 12 .pick [.t 9,.t 11,.c (.F)],Gu 7 true 13 12,Zq 14 7 13,zM 3 14])
theorem zG6(G:Gam)(h:aA)(d:List (List AV))(f:FuncId)(g:List AV)(s:d.length<=big):∀(k:List (List AV))(i:Nat)(v:Int),d.drop i=k->mT (fun r=>if r.length=5 then(aD true 5 r).bind (ask G h f g)else none) i k=some v->cY G [5] Mc.a4_L0 h.length [.blk 0,.seq (.seq (.reg [Kc 4 (-1)]) .ret)] (eQ Rs.a4 (.n v) h) [(0,.sl d),(1,.fn f g),(4,.n 0),(5,.junk),(7,.n d.length),(8,.n i)] h
 |[],i,v,m,c=>by
  have t:=drop_nil m;have j:¬(i:Int)<d.length:=by omega
  simp only[mT,aE]at c;subst c;refine bQ (Mc.a4_L0.eq_1) ?_;simp[ltB,j,eQ,Rs.a4,owns,dC]|x::k,i,v,m,c=>by
  obtain⟨t,q,w⟩:=lG m;have j:(i:Int)<d.length:=by omega
  have u:=iJ (i:=i) (by omega);by_cases e:x.length=5
  ·simp only[mT,e,aM]at c;cases n:aD true 5 x with
   |none=>simp[n]at c|some a=>
    simp only[n,wO]at c;have p:aD true 5 (cut x 0 5)=some a:=by rw[PH e];exact n
    cases l:ask G h f g a with
    |none=>simp[l]at c|some b=>
     have o:=VW l;simp only[l]at c;refine bQ (Mc.a4_L0.eq_1) ?_;cases b with
     |true=>
      simp only[aE]at c;subst c;simp[ltB,j,EO q e,p,o,eQ,Rs.a4,owns,dC]|false=>
      simp[ltB,j,EO q e,p,o,u];refine dT ?_;have y:=zG6 G h d f g s k (i+1) v w c;simpa using y
  ·simp[mT,e]at c
theorem yS8(G:Gam):LW G Mc.a4 Rs.a4 Ks.a4 (nY true 5 G):=by
 intro i h r c;obtain⟨a,f,b,v,rfl,d,e,rfl⟩:=zj5 c;rw[aT];have g:=zG6 G h a f b d a 0 v rfl e;simpa[Mc.a4,aC,Ks.a4]using g
theorem yz5(G b:Gam)(g:G Fn.a4=some (.gen (bO (nY true 5 b)))):LW G Mc.bx Rs.bx Ks.bx (nX true 5 b):=by
 intro m h r d;obtain⟨l,f,c,v,rfl,i,k,rfl⟩:=zj4 d;rw[aT];have j:∀a:aA,a=h->opV G false a (.call Fn.a4) (some [.sl l,.fn f c])=some (.n v,a):=fun a e=>by subst e;rw[dV g];simp[bO,nY,i,k]
 simp[Mc.bx,aC,Ks.bx,j,eQ,Rs.bx,owns,dC]
theorem ZQ(x:Plc):aD true 5 x.row=some (.agg x.row)/\x.row.length=5:=⟨by simp[aD,Plc.row],rfl⟩
theorem zQ0{G:Gam}{b:Bool}{h:aA}{x:Int}:opV G b h .max (some [.n x,.n 0])=some (.n (if 0<=x then x else 0),h):=by
 rw[bW rfl];simp only[bV,LC];by_cases a:0<=x;·rw[if_pos a];simp;omega
 ·rw[if_neg a];simp;omega
def atI(a:Int)(l:List Plc):Int:=jI (atE a) 0 l
def HD:List AV->Option AV
 |[.agg c,.n a]=>match sW c with
  |some b=>if EY b=true/\lT a=true then some (.tup [.n (if 0<=atI a b.pl then atI a b.pl else 0),.bool (decide (0<=atI a b.pl))])else none|none=>none
 |_=>none
theorem yh3{G G0:Gam}(o:G Fn.a4=some (.gen (bO (nY true 5 G0))))(n:G0 Fn.a5=some (.gen (bO HH))):PW G Mc.b9 Rs.b9 Ks.b9 HD:=by
 intro v r c;unfold HD at c;split at c
 ·rename_i j a;split at c
  ·rename_i b p;split at c
   ·rename_i k;injection c with c;subst c;obtain rfl:j=b.cells:=DS p;obtain⟨w,m⟩:=LN k.1;have d:opV G false [.cells b.cells,.cells [.n a]] (.call Fn.a4) (some [.sl (dM b.pl),.fn Fn.a5 [.ptr 1 0]])=some (.n (atI a b.pl),[.cells b.cells,.cells [.n a]]):=yT5 (G0:=G0) (xs:=b.pl) (e:=Plc.row) (val:=fun f=>.agg f.row) (agg:=true) (n:=5) o (by unfold big;omega) ZQ fun g s=>by
     refine DI ?_;have t:=m g s;simp only[dE,n,bO,HH,PO,wL,oG];rw[if_pos ⟨t,k.2⟩];rfl
    have h:∀l:aA,aB 1 false (.cells b.cells::l) (.ptr 0 3)=some (.sl (dM b.pl)):=fun l=>bT (l:=0) rfl rfl;have i:=fun u=>JD (G:=G) b u;rw[aT];generalize atI a b.pl=x at d⊢;generalize b.cells=j at d h i⊢;generalize dM b.pl=R at d h;by_cases e:0<=x
    ·have q:ltB x 0=false:=dQ.2 (by omega);rw[if_pos e];simp[Mc.b9,Ks.b9,aC,i,h,d,q,e,zQ0,aJ,Rs.b9,-aB]
    ·have q:ltB x 0=true:=cH.2 (by omega);rw[if_neg e];simp[Mc.b9,Ks.b9,aC,i,h,d,q,e,zQ0,aJ,Rs.b9,-aB]
   ·cases c
  ·cases c
 ·cases c
def sE:List AV->Option AV
 |[.str s]=>if s.length<=1000000 then some (.bool (eH s))else none|_=>none
theorem yr7{G:Gam}(e:G Fn.cl=some (.pure yH)):PW G Mc.a1 Rs.a1 Ks.a1 sE:=by
 intro f r a;unfold sE at a;split at a
 ·rename_i s;split at a
  ·rename_i g;injection a with a;subst a;have b:∀d h,opV G d h (.call Fn.cl) (some [.str s])=some (.n (if eH s then 0 else 2),h):=fun d h=>cU e (us:=[.str s]) rfl (tZ (A:=eStr) (R:=eInt) (f:=fun s=>if s.length<4294967281 then some (if eH s then 0 else 2)else none) (x:=s) (r:=if eH s then 0 else 2) (if_pos (by omega))) (.inl rfl);rw[aT];cases c:eH s with
   |true=>
    rw[c]at b;have q:eqB 0 0=true:=rfl;simp[Mc.a1,Ks.a1,aC,b,aJ,Rs.a1]|false=>
    rw[c]at b;have q:eqB 2 0=false:=rfl;simp[Mc.a1,Ks.a1,aC,b,q,aJ,Rs.a1]
  ·cases a
 ·cases a
def AP(s:Bs):Bool:=eH (Lib.cut s [33]).1&&(!(Lib.cut s [33]).2.2||eH (Lib.cut s [33]).2.1)
def yS:List AV->Option AV
 |[.str s]=>if s.length<=1000000/\(Lib.cut s [33]).1.length<=1000000/\(Lib.cut s [33]).2.1.length<=1000000 then some (.bool (AP s))else none|_=>none
theorem xa6{G:Gam}(k:G Fn.dx=some (.pure BV))(f:G Fn.a1=some (.pure sE)):PW G Mc.bc Rs.bc Ks.bc yS:=by
 intro m r a;unfold yS at a;split at a
 ·rename_i s;split at a
  ·rename_i l;obtain⟨n,i,j⟩:=l;injection a with a;subst a;have c:∀b h,opV G b h (.call Fn.dx) (some [.str s,.str [33]])=some (.tup [.str (Lib.cut s [33]).1,.str (Lib.cut s [33]).2.1,.bool (Lib.cut s [33]).2.2],h):=fun b h=>cU k (us:=[.str s,.str [33]]) rfl (by simp only[BV];rw[if_pos (by omega)]) (.inl rfl);have d:∀b h,opV G b h (.call Fn.a1) (some [.str (Lib.cut s [33]).1])=some (.bool (eH (Lib.cut s [33]).1),h):=fun b h=>cU f (us:=[.str (Lib.cut s [33]).1]) rfl (by simp only[sE];rw[if_pos i]) (.inl rfl);have g:∀b h,opV G b h (.call Fn.a1) (some [.str (Lib.cut s [33]).2.1])=some (.bool (eH (Lib.cut s [33]).2.1),h):=fun b h=>cU f (us:=[.str (Lib.cut s [33]).2.1]) rfl (by simp only[sE];rw[if_pos j]) (.inl rfl);rw[aT];unfold AP;generalize(Lib.cut s [33]).1=x at c d⊢;generalize(Lib.cut s [33]).2.1=y at c g⊢;generalize(Lib.cut s [33]).2.2=w at c⊢;cases e:eH x with
   |false=>
    rw[e]at d;simp[Mc.bc,Ks.bc,aC,c,d,aJ,Rs.bc]|true=>
    rw[e]at d;cases w with
    |false=>simp[Mc.bc,Ks.bc,aC,c,d,aJ,Rs.bc]|true=>simp[Mc.bc,Ks.bc,aC,c,d,g,aJ,Rs.bc]
  ·cases a
 ·cases a
def nV(n:Nat):Nat:=4*((n+3)/4)
theorem ye7(n:Nat):n<=nV n/\nV n<=n+3:=by unfold nV;omega
def FR(p:Plc):Bool:=AP p.obj&&nK p.sym&&((eqB p.kd 1&&!ltB p.siz 2)||(eqB p.kd 2&&!ltB p.siz 0&&eqB (p.siz.tmod 4) 0))&&!ltB 8192 p.siz
def yg6(c:Bs)(a b:Nat):Bool:=((c.take b).drop a).all (·==0)
def xQ(a:Bs):List Plc->Nat->List Plc->Bool
 |_,e,[]=>e==a.length|b,e,p::r=>!b.any (fun q=>q.obj==p.obj&&q.sym==p.sym)&&FR p&&eqB p.pos (nV e)&&!ltB a.length (nV e+p.siz)&&yg6 a e (nV e)&&xQ a (b++[p]) (nV e+p.siz.toNat) r
def nP(b:Bin):Bool:=!ltB b.pl.length 1&&!ltB 128 b.pl.length&&!ltB 65536 b.img.length&&xQ b.img [] 0 b.pl
theorem zS6{p:Plc}(h:FR p=true):0<=p.siz/\p.siz<=8192/\(p.kd=1\/p.kd=2)/\nK p.sym=true/\AP p.obj=true:=by
 unfold FR at h;simp only[bR,zD,mM,dQ,kQ]at h;obtain⟨⟨⟨b,c⟩,a⟩,h4⟩:=h;refine⟨?_,h4,?_,c,b⟩;·rcases a with a|a<;>omega
 ·rcases a with a|a;·exact .inl a.1
  ·exact .inr a.1.1
theorem zb2{d:Bs}:∀{l f:List Plc}{e:Nat},xQ d f e l=true->∀p∈l,FR p=true/\(e:Int)<=p.pos/\p.pos+p.siz<=d.length
 |[],_,_,_,p,a=>by cases a|q::r,f,e,h,p,a=>by
  rw[xQ]at h;simp only[bR,mM,dQ,kQ]at h;obtain⟨⟨⟨⟨⟨i,b⟩,j⟩,h4⟩,h5⟩,g⟩:=h;have k:=zS6 b;have m:=ye7 e;rcases dD.1 a with rfl|a;·exact⟨b,by omega,by omega⟩
  ·have c:=zb2 g p a;exact⟨c.1,by omega,c.2.2⟩
theorem zb4{b:Bin}(h:nP b=true):(1<=b.pl.length/\b.pl.length<=128)/\b.img.length<=65536/\xQ b.img [] 0 b.pl=true:=by
 unfold nP at h;simp only[bR,mM,dQ]at h;obtain⟨⟨⟨a,c⟩,d⟩,h4⟩:=h;exact⟨⟨by omega,by omega⟩,by omega,h4⟩
def tL(a:Int):List Plc->Option Plc
 |[]=>none|p::r=>if atE a p=true then some p else tL a r
theorem zo5{a:Int}{p:Plc}:atE a p=true↔p.pos<=a/\0<p.siz/\a<p.pos+p.siz:=by unfold atE;simp[and_assoc]
theorem zS0{a:Int}:∀(l:List Plc)(i:Nat),(tL a l=none/\jI (atE a) i l=-1)\/∃(k:Nat)(p:Plc),tL a l=some p/\l[k]?=some p/\jI (atE a) i l=((i+k:Nat):Int)
 |[],i=>.inl ⟨rfl,rfl⟩|p::r,i=>by
  rw[tL,jI];cases h:atE a p with
  |true=>exact .inr ⟨0,p,by simp,rfl,by simp⟩|false=>
   rcases zS0 r (i+1)with⟨b,c⟩|⟨k,q,b,c,d⟩;·exact .inl ⟨by simpa using b,by simpa using c⟩
   ·refine .inr ⟨k+1,q,by simpa using b,by simpa using c,?_⟩;simp only[bM,bH];rw[d];congr 1;omega
def QH(S:List Int)(a:Int):Bool:=S.all fun b=>!(ltB (b-4) a&&ltB a (b+4))
def inE(b:List Plc)(a:Int):Bool:=(tL a b).any fun p=>!ltB (p.pos+p.siz) (a+4)
def mG(b:List Plc)(S:List Int)(a:Int):Bool:=inE b a&&QH S a
def fxP(b:Bin):List Int->List Int->Bool
 |_,[]=>true|S,a::r=>!(S.getLast?.any fun l=>!ltB l a)&&mG b.pl S a&&b.pl.any (fun p=>p.pos==(vU b.img a.toNat:Int))&&fxP b (S++[a]) r
def imP(b:Bin):List Int->List Imp->Bool
 |_,[]=>true|S,x::r=>!(S.getLast?.any fun l=>!ltB l x.pos)&&mG b.pl (b.fx++S) x.pos&&eqB (vU b.img x.pos.toNat:Int) 0&&eH x.lib&&nK x.sym&&imP b (S++[x.pos]) r
def GU(b:Bin):Bool:=fxP b [] b.fx&&imP b [] b.im
theorem yJ3{S:List Int}{a:Int}:QH S a=true↔∀b∈S,a<=b-4\/b+4<=a:=by
 unfold QH;rw[fK];refine forall_congr' fun b=>forall_congr' fun _=>?_;simp only[mM,Bool.and_eq_false_iff,dQ]
def exP(a:List Plc):Option Bs->List Expo->Bool
 |_,[]=>true|l,x::r=>!(l.any fun y=>!Op.bytesLess y x.sym)&&a.any (fun p=>p.sym==x.sym&&p.pos==x.pos)&&exP a (some x.sym) r
def vE:List Bs->List (Bs×Bs)->Bool
 |_,[]=>true|seen,n::r=>!seen.contains n.1&&nK n.1&&!ltB 65536 n.2.length&&vE (seen++[n.1]) r
def zq8(b:Bin):Bool:=nP b&&GU b&&vE [] b.nt&&!ltB 64 b.nt.length&&((eqB b.kind 1&&eqB b.entry 0&&(b.pl.head?.any fun p=>eqB p.kd 1)&&b.ex.isEmpty)||(eqB b.kind 2&&eqB b.entry (-1)&&b.im.isEmpty&&exP b.pl none b.ex))
def oM(b:Bin):Int:=if zq8 b then 0 else 1
def dR(a:List Bool):List (List AV):=a.map fun b=>[.bool b]
def sY:List (List AV)->Option (List Bool)
 |[]=>some []|[.bool b]::r=>(sY r).map (b::·)|_=>none
theorem PU:∀c:List Bool,sY (dR c)=some c
 |[]=>rfl|b::r=>by
  have a:=PU r;simp only[dR]at a;simp[dR,sY,a]
theorem PT:∀{d:List (List AV)}{a:List Bool},sY d=some a->d=dR a
 |[],a,h=>by simp[sY]at h;subst h;rfl|r::f,a,h=>by
  unfold sY at h;split at h;·rename_i e;cases e
  ·rename_i b g e;cases e;cases c:sY f with
   |none=>simp[c]at h|some i=>
    simp only[c,dI,aE]at h;subst h;rw[PT c];rfl
  ·cases h
@[simp]theorem zg4{a:List Bool}:(dR a).length=a.length:=by simp[dR]
theorem xB7{us:List Bool}{i:Nat}(h:i<us.length):∃b,(dR us)[i]?=some [.bool b]:=⟨us[i],by simp[dR,h]⟩
theorem xB8(a:List Bool)(i:Nat)(b:Bool):(dR a).set i [.bool b]=dR (a.set i b):=by simp[dR,List.map_set]
theorem xB9(b:List Bool)(a n:Nat):((dR b).drop a).take n=dR ((b.drop a).take n):=by simp[dR,List.map_take,List.map_drop]
def iX(b:List Bool)(a:Nat):Nat->List Bool
 |0=>b|k+1=>(iX b a k).set (a+k) true
theorem TN(b:List Bool)(a:Nat):∀k,(iX b a k).length=b.length
 |0=>rfl|k+1=>by rw[iX,gT,TN b a k]
theorem zZ4(b:List Bool)(a:Nat):∀k i,(iX b a k)[i]?=if a<=i/\i<a+k/\i<b.length then some true else b[i]?
 |0,i=>by rw[iX,if_neg (by omega)]|k+1,i=>by
  rw[iX,iZ,TN,zZ4 b a k i];by_cases e:a+k=i
  ·subst e;rw[if_pos rfl];by_cases h:a+k<b.length;·rw[if_pos h,if_pos ⟨by omega,by omega,h⟩]
   ·rw[if_neg h,if_neg (by omega),lX (by omega)]
  ·rw[if_neg e];by_cases h:a<=i/\i<a+k/\i<b.length;·rw[if_pos h,if_pos ⟨h.1,by omega,h.2.2⟩]
   ·rw[if_neg h,if_neg (by omega)]
def bmB(S:List Int)(i:Nat):Bool:=S.any fun b=>decide (b<=i)&&decide ((i:Int)<b+4)
def bmU(n:Nat)(S:List Int):List Bool:=(List.range n).map (bmB S)
@[simp]theorem yr3{n:Nat}{S:List Int}:(bmU n S).length=n:=by simp[bmU]
theorem JC{n:Nat}{S:List Int}(i:Nat):(bmU n S)[i]?=if i<n then some (bmB S i)else none:=by
 unfold bmU;rw[pM];by_cases h:i<n;·rw[IP h,if_pos h];rfl
 ·rw[if_neg h,lX (by simpa using h)];rfl
theorem yr4(n:Nat):bmU n []=List.replicate n false:=by
 apply kL;intro i;rw[JC,List.getElem?_replicate];rfl
theorem yr5{n:Nat}{S:List Int}{a:Nat}:iX (bmU n S) a 4=bmU n (S++[(a:Int)]):=by
 apply kL;intro i;rw[zZ4,JC,JC,yr3];have e:bmB (S++[(a:Int)]) i=(bmB S i||(decide ((a:Int)<=i)&&decide ((i:Int)<a+4))):=by simp[bmB,List.any_append]
 rw[e];by_cases h:i<n
 ·rw[if_pos h,if_pos h];by_cases b:a<=i/\i<a+4
  ·rw[if_pos ⟨b.1,b.2,h⟩];have:(decide ((a:Int)<=i)&&decide ((i:Int)<a+4))=true:=by simp;omega
   rw[this];simp
  ·rw[if_neg (by omega)];have:(decide ((a:Int)<=i)&&decide ((i:Int)<a+4))=false:=by rw[wJ];intro c;simp at c;omega
   rw[this];simp
 ·rw[if_neg h,if_neg h,if_neg (by omega)]
theorem yr6{n:Nat}{S:List Int}{a:Nat}(h:a+4<=n):(((bmU n S).drop a).take 4).contains true=!QH S a:=by
 rw[Bool.eq_iff_iff];simp only[List.contains_iff_mem,mM,wJ,ne_eq,yJ3];constructor
 ·intro j e;obtain⟨k,c⟩:=lM.1 j;rw[fS]at c;split at c
  ·rename_i p;rw[oH,JC,if_pos (by omega)]at c;simp only[aE]at c;unfold bmB at c;obtain⟨b,d,g⟩:=List.any_eq_true.1 c;simp only[bR,fD]at g;have:=e b d;omega
  ·cases c
 ·intro e;have:∃b∈S,¬((a:Int)<=b-4\/b+4<=(a:Int)):=Classical.byContradiction fun l=>e fun b d=>Classical.byContradiction fun f=>l ⟨b,d,f⟩;obtain⟨b,d,g⟩:=this;have i:∀k,k<4->b<=((a+k:Nat):Int)->((a+k:Nat):Int)<b+4->true∈((bmU n S).drop a).take 4:=fun k c m f=>by
   refine lM.2 ⟨k,?_⟩;rw[fS,if_pos c,oH,JC,if_pos (by omega)];have:bmB S (a+k)=true:=by
    unfold bmB;exact List.any_eq_true.2 ⟨b,d,by simp;omega⟩
   rw[this]
  by_cases o:(a:Int)<=b
  ·obtain⟨k,c⟩:∃k:Nat,(k:Int)=b-a:=⟨(b-a).toNat,by omega⟩;exact i k (by omega) (by omega) (by omega)
  ·exact i 0 (by omega) (by omega) (by omega)
def HX:List AV->Option AV:=F1 (gV .i32) eBool fun n=>some (ltI n)
theorem xy2(G:Gam):PW G Mc.b5 Rs.b5 Ks.b5 HX:=vY fun x r h=>by
 injection h with h;subst h;rw[aT];simp+contextual[Mc.b5,aC,Ks.b5,Rs.b5,gV,eBool,ltI]
def HW:List AV->Option AV:=F1 (gV .i32) eBool fun n=>some (dgI n)
theorem xx2(G:Gam):PW G Mc.ce Rs.ce Ks.ce HW:=vY fun x r h=>by
 injection h with h;subst h;rw[aT];simp+contextual[Mc.ce,aC,Ks.ce,Rs.ce,gV,eBool,dgI]
theorem zg0{G:Gam}(a:G Fn.b5=some (.pure HX))(n:Int)(b:Bool)(h:aA):opV G b h (.call Fn.b5) (some [.int .i32 n])=some (.bool (ltI n),h):=cU a (us:=[.int .i32 n]) rfl (tZ (A:=gV .i32) (R:=eBool) (x:=n) rfl) (.inl rfl)
theorem yd1{G:Gam}(a:G Fn.ce=some (.pure HW))(n:Int)(b:Bool)(h:aA):opV G b h (.call Fn.ce) (some [.int .i32 n])=some (.bool (dgI n),h):=cU a (us:=[.int .i32 n]) rfl (tZ (A:=gV .i32) (R:=eBool) (x:=n) rfl) (.inl rfl)
def CQ:List AV->aA->Option AV
 |[.int .i32 c,.ptr l 0],h=>match h[l]? with
  |some (.cellsT _ [.bool nm])=>some (.bool (!nmI nm c))|_=>none
 |_,_=>none
theorem xo4{G:Gam}(k:G Fn.b5=some (.pure HX))(i:G Fn.ce=some (.pure HW)):LW G Mc.ba Rs.ba Ks.ba CQ:=by
 intro m h r a;unfold CQ at a;split at a
 ·rename_i c l;split at a
  ·rename_i tg nm j;injection a with a;subst a;have f:aB 1 false h (.ptr l 0)=some (.bool nm):=by simp[aB,j,cut,aD]
   have g:=fun e=>zg0 (G:=G) k c e h;have d:=fun e=>yd1 (G:=G) i c e h;rw[aT];cases b:dgI c with
   |true=>
    rw[b]at d;simp[Mc.ba,aC,Ks.ba,d,nmI,b,eQ,Rs.ba,owns,dC]|false=>
    rw[b]at d;cases nm with
    |false=>simp[Mc.ba,aC,Ks.ba,d,f,nmI,b,eQ,Rs.ba,owns,dC,-aB]|true=>simp[Mc.ba,aC,Ks.ba,d,g,f,nmI,b,eQ,Rs.ba,owns,dC,-aB]
  ·cases a
 ·cases a
theorem zX9{G:Gam}(g:G Fn.ba=some (.gen (bO CQ)))(nm:Bool)(s:Bs):∀(n a:Nat),s.length-a<n->a<=s.length->rT G [.cells [.bool nm]] Fn.ba [.ptr 0 0] true s n a=some (if eO nm (s.drop a)=(s.drop a).length then-1 else((a+eO nm (s.drop a):Nat):Int))
 |0,a,p,_=>by omega|n+1,a,p,r=>by
  have k:∀(b:Blk)(x:Int),ask G ([.cells [.bool nm]]++[b]) Fn.ba [.ptr 0 0] (.int .i32 x)=some (!nmI nm x):=fun b x=>DI (by rw[mA g];simp[bO,CQ]);simp only[rT,k];by_cases f:a<s.length
  ·obtain⟨b,h,l⟩:=zu2 f;simp only[f,aM,l];rcases lY b.toNat 128 with o|m
   ·rw[XI h o];cases c:nmI nm b.toNat with
    |true=>
     have d:bI nm b=true:=c;have q:=zX9 g nm s n (a+1) (by omega) (by omega);simp only[uK,bM,bH];rw[q,eO,if_pos d];simp only[jA];by_cases e:eO nm (s.drop (a+1))=(s.drop (a+1)).length;·rw[if_pos e,if_pos (by omega)]
     ·rw[if_neg e,if_neg (by omega)];congr 2;omega|false=>
     have d:¬bI nm b=true:=by rw[bI,c];simp
     simp only[lA,aM];rw[eO,if_neg d,if_neg (by simp)];rfl
   ·have i:=zO7 (names:=nm) (n:=(Utf8.decode ⟨s.toArray⟩ a).1) (by have:=zt8 h m;omega);have j:¬bI nm b=true:=by rw[bI,zO7 (by omega)];simp
    simp only[i,lA,aM];rw[eO,if_neg j,if_neg (by simp)];rfl
  ·have e:s.drop a=[]:=by rw[List.drop_eq_nil_iff];omega
   simp[f,e,eO]
def CU:List AV->Option AV
 |[.str s,.bool nm]=>some (.n (eO nm s))|_=>none
theorem xz5{G G0:Gam}(h:G Fn.b8=some (.gen (bO (wE G0))))(g:G0 Fn.ba=some (.gen (bO CQ))):PW G Mc.bn Rs.bn Ks.bn CU:=by
 intro i r a;unfold CU at a;split at a
 ·rename_i s nm;injection a with a;subst a;have c:=zX9 g nm s (s.length+1) 0 (by omega) (by omega);rw[wK]at c;have b:opV G false [.cells [.bool nm]] (.call Fn.b8) (some [.str s,.fn Fn.ba [.ptr 0 0]])=some (.n (if eO nm s=s.length then-1 else((0+eO nm s:Nat):Int)),[.cells [.bool nm]]):=by rw[dV h];simp only[bO,wE,c,dI]
  have d:∀f,opV G f [] .box (some [.bool nm])=some (.ptr 0 0,[.cells [.bool nm]]):=fun f=>jN (h:=[]) (v:=.bool nm) (by simp[AV.cells]);rw[aT];by_cases e:eO nm s=s.length
  ·rw[if_pos e]at b;have q:ltB (-1) 0=true:=rfl;rw[e];simp[Mc.bn,aC,Ks.bn,d,b,q,aW,aJ,Rs.bn]
  ·rw[if_neg e,eT]at b;have q:ltB (eO nm s:Int) 0=false:=dQ.2 (by omega);simp[Mc.bn,aC,Ks.bn,d,b,q,aJ,Rs.bn]
 ·cases a
theorem yD9{c:UInt8}{n:Nat}(h:48<=c.toNat/\c.toNat<=57)(a:n<=4294967295):IntKind.u64.wrap (10*(n:Int))=((10*n:Nat):Int)/\IntKind.i32.wrap ((c.toNat:Int)-48)=((c.toNat-48:Nat):Int)/\IntKind.u64.wrap ((c.toNat-48:Nat):Int)=((c.toNat-48:Nat):Int)/\IntKind.u64.wrap (((10*n:Nat):Int)+((c.toNat-48:Nat):Int))=((10*n+(c.toNat-48):Nat):Int):=by refine⟨?_,?_,?_,?_⟩<;>simp only[IntKind.wrap,IntKind.signed,IntKind.bits]<;>simp<;>omega
theorem zg1{G:Gam}(s:Bs)(r:Nat×Int)(j:s.all (bI false)=true):∀(g:Bs)(a n:Nat),s.drop a=g->a<=s.length->n<=4294967295->LH g n=r->cY G [6,28] Mc.ao_L0 1 [.blk 0,.seq (.seq (.reg [zm 39 4,iz 40 (.conv .u32) [.t 39],zM 2 40,Kc 3 0]) .ret)] (aJ Rs.ao (.tup [.int .u32 r.1,.n r.2])) [(0,.str s),(2,.int .u32 0),(3,.n 0),(4,.u n),(6,.junk),(27,.ptr 0 0),(28,.junk)] [.iter s a]
 |[],a,n,h,A,o,b=>by
  have E:=drop_nil h;have e:¬a<s.length:=by omega
  simp only[LH,PV]at b;subst b;have f:=fun i=>za2 (G:=G) (s:=i) (h:=[.iter s a]) (str:=s) (l:=0) (pos:=a) rfl;have w:IntKind.u32.wrap (n:Int)=n:=u32_in _ ⟨by omega,by omega⟩;refine bQ (Mc.ao_L0.eq_1) ?_;rw[eJ (by simp)];simp[f,e,w,aJ,Rs.ao]|c::g,a,n,h,A,o,b=>by
  obtain⟨l,p,B⟩:=lG h;have z:=xb4 j c (gJ p);have f:=fun i=>za2 (G:=G) (s:=i) (h:=[.iter s a]) (str:=s) (l:=0) (pos:=a) rfl;rw[XI p (by omega)]at f;obtain⟨D,v,x,y⟩:=yD9 (n:=n) z o;have u:bY .mul (.u 10) (.u (n:Int))=some (.u ((10*n:Nat):Int)):=by
   have e:bY .mul (.u 10) (.u (n:Int))=some (.u (IntKind.u64.wrap (10*(n:Int)))):=rfl;rw[e,D]
  rw[LH,PV]at b;refine bQ (Mc.ao_L0.eq_1) ?_;rw[eJ (by simp)];generalize F:10*n+(c.toNat-48)=m at*;generalize 10*n=t at*;generalize c.toNat-48=d at*;by_cases k:4294967295<m
  ·rw[if_pos k]at b;subst b;have q:ltB 4294967295 (m:Int)=true:=cH.2 (by omega);simp[f,l,u,v,x,y,q,aJ,Rs.ao]
  ·rw[if_neg k]at b;have q:ltB 4294967295 (m:Int)=false:=dQ.2 (by omega);have C:=zg1 (G:=G) s r j g (a+1) m B (by omega) (by omega) (by rw[LH];exact b);simp[f,l,u,v,x,y,q];refine dT ?_;rw[eJ (by simp)];simpa using C
def HZ:List AV->Option AV
 |[.str s]=>if s.all (bI false)=true/\s≠[]then some (.tup [.int .u32 (xK s).1,.n (xK s).2])else none|_=>none
theorem xy4{G:Gam}(q:G Fn.bn=some (.pure CU)):PW G Mc.ao Rs.ao Ks.ao HZ:=by
 intro u r a;unfold HZ at a;split at a
 ·rename_i s;split at a
  ·rename_i d;obtain⟨k,o⟩:=d;injection a with a;subst a;have g:∀b h,opV G b h (.call Fn.bn) (some [.str s,.F])=some (.n s.length,h):=fun b h=>cU q (us:=[.str s,.F]) rfl (by simp only[CU];rw[(zd3 false s).2 k]) (.inl rfl);have i:(s==[])=false:=by cases s<;>first|exact absurd rfl o|rfl
   rw[aT];unfold xK;by_cases p:1<s.length
   ·have f:ltB 1 (s.length:Int)=true:=cH.2 (by omega);obtain⟨c,r,rfl⟩:∃c r,s=c::r:=by cases s with|nil=>exact absurd rfl o|cons c r=>exact⟨c,r,rfl⟩
    by_cases d:c=48
    ·subst d;rw[if_pos ⟨p,rfl⟩];generalize j:(48::r:Bs)=n at*;have l:∀b h,opV G b h .istr (some [.str n,.n 0])=some (.int .u8 48,h):=fun b h=>by rw[<-j];exact LU
     simp[Mc.ao,aC,Ks.ao,g,i,eC,aW,f,l,aJ,Rs.ao]
    ·rw[if_neg (by simp[d])];have t:eqB (c.toNat:Int) 48=false:=gM.2 fun e=>d (DG.1 (by simp;omega));have m:=zg1 (G:=G) (c::r) _ k (c::r) 0 0 rfl (by omega) (by omega) rfl;generalize j:(c::r:Bs)=n at*;have l:∀b h,opV G b h .istr (some [.str n,.n 0])=some (.int .u8 c.toNat,h):=fun b h=>by rw[<-j];exact LU
     simp[Mc.ao,aC,Ks.ao,g,i,eC,aW,f,l,t];simpa using m
   ·have f:ltB 1 (s.length:Int)=false:=dQ.2 (by omega);rw[if_neg (by omega)];have m:=zg1 (G:=G) s _ k s 0 0 rfl (by omega) (by omega) rfl;simp[Mc.ao,aC,Ks.ao,g,i,eC,aW,f];simpa using m
  ·cases a
 ·cases a
def NZ:List AV->Option AV
 |[.str s]=>some (.str (BM s))|_=>none
theorem xA0{G:Gam}(C:G Fn.dp=some (.pure BW)):PW G Mc.aa Rs.aa Ks.aa NZ:=by
 intro F r m;unfold NZ at m;split at m
 ·rename_i s;injection m with m;subst m;cases s with
  |nil=>
   have a:ltB 1 0=false:=rfl;rw[aT];simp[Mc.aa,aC,Ks.aa,aW,eC,a,BM,aJ,Rs.aa]|cons c t=>
   have o:∀d h,opV G d h (.call Fn.dp) (some [.str [124,94,38,60,62,43,45,42,47,37,126,33,40,41,44,61],.int .u8 c.toNat])=some (.n (Lib.indexByte NE c),h):=fun d h=>cU C (us:=[.str NE,.int .u8 c.toNat]) rfl (by simp[BW]) (.inl rfl);have B:∀d h,opV G d h (.slc none false true false) (some [.str (c::t),.n 1])=some (.str ((c::t).take 1),h):=fun d h=>TW (k:=1) (by simp);have w:((c::t)==([]:Bs))=false:=rfl;have A:BM (c::t)=if 1<(c::t).length/\symW.contains ((c::t).take 2)=true then(c::t).take 2 else if ltB (Lib.indexByte NE c) 0 then[]else(c::t).take 1:=rfl;rw[A,aT];clear A;generalize Lib.indexByte NE c=v at o⊢;generalize D:(c::t:Bs)=s at*;have y:∀d h,opV G d h .istr (some [.str s,.n 0])=some (.int .u8 c.toNat,h):=fun d h=>by rw[<-D];exact LU
   by_cases z:1<s.length
   ·have a:ltB 1 (s.length:Int)=true:=cH.2 (by omega);have f:∀d h,opV G d h (.slc none false true false) (some [.str s,.n 2])=some (.str (s.take 2),h):=fun d h=>TW (k:=2) (by omega);cases x:symW.contains (s.take 2)with
    |true=>
     rw[if_pos ⟨z,rfl⟩];have k:=x;clear x;unfold symW at k;simp only[pJ,List.contains_nil,Bool.or_false]at k;generalize s.take 2=u at*;cases b:(u==[124,124])with
     |true=>simp[Mc.aa,aC,Ks.aa,aW,a,f,eC,b,aJ,Rs.aa]|false=>cases e:(u==[38,38])with
     |true=>simp[Mc.aa,aC,Ks.aa,aW,a,f,eC,b,e,aJ,Rs.aa]|false=>cases g:(u==[61,61])with
     |true=>simp[Mc.aa,aC,Ks.aa,aW,a,f,eC,b,e,g,aJ,Rs.aa]|false=>cases i:(u==[33,61])with
     |true=>simp[Mc.aa,aC,Ks.aa,aW,a,f,eC,b,e,g,i,aJ,Rs.aa]|false=>cases j:(u==[60,61])with
     |true=>simp[Mc.aa,aC,Ks.aa,aW,a,f,eC,b,e,g,i,j,aJ,Rs.aa]|false=>cases l:(u==[62,61])with
     |true=>simp[Mc.aa,aC,Ks.aa,aW,a,f,eC,b,e,g,i,j,l,aJ,Rs.aa]|false=>cases n:(u==[60,60])with
     |true=>simp[Mc.aa,aC,Ks.aa,aW,a,f,eC,b,e,g,i,j,l,n,aJ,Rs.aa]|false=>cases p:(u==[62,62])with
     |true=>simp[Mc.aa,aC,Ks.aa,aW,a,f,eC,b,e,g,i,j,l,n,p,aJ,Rs.aa]|false=>simp[b,e,g,i,j,l,n,p]at k
    |false=>
     rw[if_neg (by simp)];have k:=x;clear x;unfold symW at k;simp only[pJ,List.contains_nil,Bool.or_false,DD]at k;obtain⟨b,e,g,i,j,l,n,p⟩:=k;generalize s.take 2=u at*;generalize s.take 1=E at*;cases q:ltB v 0 with
     |true=>simp[Mc.aa,aC,Ks.aa,aW,a,f,eC,b,e,g,i,j,l,n,p,w,y,o,q,aJ,Rs.aa]|false=>simp[Mc.aa,aC,Ks.aa,aW,a,f,eC,b,e,g,i,j,l,n,p,w,y,o,q,B,aJ,Rs.aa]
   ·have a:ltB 1 (s.length:Int)=false:=dQ.2 (by omega);rw[if_neg (fun h=>z h.1)];generalize s.take 1=E at*;cases q:ltB v 0 with
    |true=>simp[Mc.aa,aC,Ks.aa,aW,a,eC,w,y,o,q,aJ,Rs.aa]|false=>simp[Mc.aa,aC,Ks.aa,aW,a,eC,w,y,o,q,B,aJ,Rs.aa]
 ·cases m
def HY:List AV->Option AV
 |[.str s]=>if s≠[]/\s.length<=1000000 then some (.tup [.agg [.n (nL s).1.1,.str (nL s).1.2],.n (nL s).2])else none|_=>none
theorem zG2(c:UInt8):IntKind.i32.wrap (c.toNat:Int)=(c.toNat:Int):=by
 have:=c.toNat_lt;simp only[IntKind.wrap,IntKind.signed,IntKind.bits];simp;omega
theorem xy3{G:Gam}(I:G Fn.b5=some (.pure HX))(P:G Fn.ce=some (.pure HW))(M:G Fn.bn=some (.pure CU))(L:G Fn.ao=some (.pure HZ))(N:G Fn.aa=some (.pure NZ)):PW G Mc.ai Rs.ai Ks.ai HY:=by
 intro W a2 g;unfold HY at g;split at g
 ·rename_i s;split at g
  ·rename_i O;obtain⟨U,Y⟩:=O;injection g with g;subst g;obtain⟨c,t,rfl⟩:∃c t,s=c::t:=by cases s with|nil=>exact absurd rfl U|cons c t=>exact⟨c,t,rfl⟩
   have j:=zG2 c;have d:=fun a h=>zg0 (G:=G) I (c.toNat:Int) a h;have f:=fun a h=>yd1 (G:=G) P (c.toNat:Int) a h;have r:∀nm a h,opV G a h (.call Fn.bn) (some [.str (c::t),.bool nm])=some (.n (eO nm (c::t)),h):=fun nm a h=>cU M (us:=[.str (c::t),.bool nm]) rfl rfl (.inl rfl);have E:∀a h,opV G a h (.call Fn.aa) (some [.str (c::t)])=some (.str (BM (c::t)),h):=fun a h=>cU N (us:=[.str (c::t)]) rfl rfl (.inl rfl);have sl:∀nm a h,opV G a h (.slc none false true false) (some [.str (c::t),.n (eO nm (c::t))])=some (.str ((c::t).take (eO nm (c::t))),h):=fun nm a h=>TW (MN nm _);have z:dgI (c.toNat:Int)=true->∀a h,opV G a h (.call Fn.ao) (some [.str ((c::t).take (eO false (c::t)))])=some (.tup [.int .u32 (xK ((c::t).take (eO false (c::t)))).1,.n (xK ((c::t).take (eO false (c::t)))).2],h):=fun Q a h=>cU L (us:=[.str ((c::t).take (eO false (c::t)))]) rfl (by
     simp only[HZ];rw[if_pos ⟨zX5 false _,fun e=>by
      have Z:=xo6 (names:=false) (c:=c) (r:=t) (by simp[bI,nmI,Q]);have:=congrArg List.length e;simp only[sM,kN,jA]at this;omega⟩]) (.inl rfl);rw[aT];simp only[nL];have i:∀a h,opV G a h .istr (some [.str (c::t),.n 0])=some (.int .u8 c.toNat,h):=fun a h=>LU;have V:∀(k:Nat)(b:UInt8),(c::t)[k]?=some b->∀a h,opV G a h .istr (some [.str (c::t),.n (k:Int)])=some (.int .u8 b.toNat,h):=fun k b y a h=>vH y;have a1:=MN false (c::t);have H:∀k:Nat,(c::t)[k]?=none↔(c::t).length<=k:=fun k=>uM;cases D:ltI (c.toNat:Int)with
   |true=>
    rw[D]at d;simp only[aM];have l:=r true;have o:=sl true;clear r sl z;generalize(c::t).take (eO true (c::t))=u at*;generalize eO true (c::t)=n at*;generalize(c::t:Bs)=m at*;by_cases F:32<n
    ·have q:ltB 32 (n:Int)=true:=cH.2 (by omega);rw[if_pos F];simp[Mc.ai,aC,Ks.ai,i,j,d,l,q,eB,AV.cells,bF,bE,bB,aJ,Rs.ai,cZ,eR,fA,aB,cut,aD]
    ·have q:ltB 32 (n:Int)=false:=dQ.2 (by omega);rw[if_neg F];simp[Mc.ai,aC,Ks.ai,i,j,d,l,q,o,eB,AV.cells,bF,bE,bB,aJ,Rs.ai,cZ,eR,fA,aB,cut,aD]|false=>
    rw[D]at d;simp only[bM,bH];cases C:dgI (c.toNat:Int)with
    |true=>
     rw[C]at f;have w:=z C;simp only[aM];have l:=r false;have o:=sl false;clear r sl z;generalize xK ((c::t).take (eO false (c::t)))=v at*;generalize(c::t).take (eO false (c::t))=u at*;generalize eO false (c::t)=n at*;have X:(c::t).length=t.length+1:=rfl;generalize(c::t:Bs)=m at*;by_cases B:v.2=0
     ·rw[if_neg (by simp[B])];rw[B]at w;rcases lY n m.length with T|S
      ·obtain⟨b,y⟩:∃b,m[n]?=some b:=⟨_,gI T⟩;have J:=V n b y;have K:=zG2 b;have x:=fun a h=>zg0 (G:=G) I (b.toNat:Int) a h;have q:ltB (n:Int) (m.length:Int)=true:=cH.2 (by omega);rw[y];simp only[Option.any_some];rcases fQ (ltI (b.toNat:Int))with p|p
       ·rw[p]at x;simp only[p,aM];simp[Mc.ai,aC,Ks.ai,i,j,d,f,l,o,w,aW,q,J,K,x,eB,AV.cells,bF,bE,bB,aJ,Rs.ai,cZ,eR,fA,aB,cut,aD]
       ·rw[p]at x;simp only[p,bM,bH];simp[Mc.ai,aC,Ks.ai,i,j,d,f,l,o,w,aW,q,J,K,x,eB,AV.cells,bF,bE,bB,aJ,Rs.ai,cZ,eR,fA,aB,cut,aD]
      ·have q:ltB (n:Int) (m.length:Int)=false:=dQ.2 (by omega);rw[(H n).2 S];simp only[Option.any_none];simp[Mc.ai,aC,Ks.ai,i,j,d,f,l,o,w,aW,q,eB,AV.cells,bF,bE,bB,aJ,Rs.ai,cZ,eR,fA,aB,cut,aD]
     ·have q:eqB v.2 0=false:=gM.2 B;rw[if_pos (by simpa using B)];simp[Mc.ai,aC,Ks.ai,i,j,d,f,l,o,w,q,eB,AV.cells,bF,bE,bB,aJ,Rs.ai,cZ,eR,fA,aB,cut,aD]|false=>
     rw[C]at f;simp only[bM,bH];clear r sl z H;generalize BM (c::t)=u at*;generalize(c::t:Bs)=m at*;by_cases A:u=[]
     ·rw[if_neg (by simp[A])];subst A;simp[Mc.ai,aC,Ks.ai,i,j,d,f,E,eC,eB,AV.cells,bF,bE,bB,aJ,Rs.ai,cZ,eR,fA,aB,cut,aD]
     ·rw[if_pos A];have q:(u==[])=false:=by simpa using A
      simp[Mc.ai,aC,Ks.ai,i,j,d,f,E,eC,q,eB,AV.cells,bF,bE,bB,aJ,Rs.ai,cZ,eR,fA,aB,cut,aD]
  ·cases g
 ·cases g
def IC:List AV->Option AV
 |[.agg [.n k,.str s]]=>if s.length<=1000000 then some (.bool (GP k s))else none|_=>none
theorem xA1{G:Gam}(j:G Fn.ai=some (.pure HY)):PW G Mc.bz Rs.bz Ks.bz IC:=by
 intro o r a;unfold IC at a;split at a
 ·rename_i k s;split at a
  ·rename_i m;injection a with a;subst a;rw[aT];have f:∀i,opV G i [] .box (some [.agg [.n k,.str s]])=some (.ptr 0 0,[.cells [.n k,.str s]]):=fun i=>jN (h:=[]) (v:=.agg [.n k,.str s]) (by simp[AV.cells]);cases b:(s==[])with
   |true=>
    have:s=[]:=by simpa using b
    subst this;simp[Mc.bz,aC,Ks.bz,f,eC,GP,aJ,Rs.bz,aB,cut,aD]|false=>
    have n:s≠[]:=by simpa using b
    have g:∀h,opV G false h (.call Fn.ai) (some [.str s])=some (.tup [.agg [.n (nL s).1.1,.str (nL s).1.2],.n (nL s).2],h):=fun h=>cU j (us:=[.str s]) rfl (by simp only[HY];rw[if_pos ⟨n,m⟩]) (.inr rfl);unfold GP;rw[b];simp only[lA,gH];generalize(nL s).1.1=k2 at*;generalize(nL s).1.2=e at*;generalize(nL s).2=d at*;have l:eV [.i,.s] [.n k2,.str e] [.n k,.str s]=some (eqB k2 k&&e==s):=by
     simp only[eV,aM];by_cases c:k2=k
     ·by_cases d:e=s;·simp[c,d]
      ·simp[c,d]
     ·have q:eqB k2 k=false:=gM.2 c;simp[c,q]
    generalize(eqB k2 k&&e==s)=z at*;cases q:eqB d 0 with
    |true=>simp[Mc.bz,aC,Ks.bz,f,eC,b,g,q,AV.cells,bF,bE,bB,aB,cut,aD,l,aJ,Rs.bz]|false=>simp[Mc.bz,aC,Ks.bz,f,eC,b,g,q,AV.cells,bF,bE,bB,aB,cut,aD,aJ,Rs.bz]
  ·cases a
 ·cases a
def pB(c:UInt8)(s:Bs):Nat->Nat
 |0=>0|k+1=>if s[k]?=some c then pB c s k else k+1
def vQ(c:UInt8)(s:Bs):Bs:=s.take (pB c s s.length)
def yD(c:UInt8)(s:Bs):Bs:=(vQ c s).dropWhile (·==c)
theorem yd9(c:UInt8)(s:Bs):∀k,pB c s k<=k
 |0=>bP _|k+1=>by
  have:=yd9 c s k;rw[pB];split<;>omega
theorem ye1(c:UInt8)(s:Bs):∀k,pB c s k=0->∀j<k,s[j]?=some c
 |0,_,j,b=>by omega|k+1,h,j,b=>by
  rw[pB]at h;split at h
  ·rename_i a;by_cases e:j=k;·subst e;exact a
   ·exact ye1 c s k h j (by omega)
  ·cases h
theorem ye0(c:UInt8)(s:Bs):∀k n,pB c s k=n+1->s[n]?≠some c
 |0,n,h=>by cases h|k+1,n,h=>by
  rw[pB]at h;split at h;·exact ye0 c s k n h
  ·rename_i a;have:k=n:=by omega
   subst this;exact a
theorem zu1{c:UInt8}:∀{l:Bs},l.dropWhile (·==c)=[]↔l.all (·==c)=true
 |[]=>by simp|x::r=>by
  rw[List.dropWhile_cons];cases h:(x==c)with
  |true=>simp only[aM,sL,h,gH];exact zu1|false=>simp[h]
theorem xz2(c:UInt8)(s:Bs):(yD c s==[])=s.all (·==c):=by
 rw[Bool.eq_iff_iff,beq_iff_eq];unfold yD vQ;rw[zu1];constructor
 ·intro h;cases a:pB c s s.length with
  |zero=>
   rw[fK];intro x b;obtain⟨j,d,e⟩:=List.mem_iff_getElem.1 b;have:=ye1 c s _ a j d;rw[gI d]at this;simp only[aE]at this;rw[<-e,this];simp|succ n=>
   exfalso;have k:=yd9 c s s.length;have f:n<s.length:=by omega
   have g:=ye0 c s _ n a;rw[gI f]at g;apply g;have i:s[n]∈s.take (pB c s s.length):=gJ (i:=n) (by rw[a,fS,if_pos (by omega),gI f]);have:=fK.1 h _ i;simpa using this
 ·intro h;rw[fK]at h⊢;exact fun x b=>h x (sN b)
def IB:List AV->Option AV
 |[.str s,.int .u8 n]=>if 0<=n/\n<256/\s.length<=1000000 then some (.str (vQ (UInt8.ofNat n.toNat) s))else none|_=>none
theorem yd4(G:Gam)(c:UInt8)(s:Bs)(l:s.length<=1000000):∀k,k<=s.length->cY G [] Mc.bf_L0 0 [.blk 0,.seq (.seq (.reg [zm 22 0,zM 4 22]) .ret)] (aJ Rs.bf (.str (s.take (pB c s k)))) [(0,.str (s.take k)),(1,.int .u8 c.toNat),(4,.str [])] []
 |0,_=>by
  have q:ltB 0 0=false:=rfl;refine bQ (Mc.bf_L0.eq_1) ?_;simp[trunc,aW,pB,aJ,Rs.bf]|k+1,p=>by
  have d:(s.take (k+1)).length=k+1:=by rw[sM];omega
  have q:ltB 0 ((k:Int)+1)=true:=cH.2 (by omega);have w:IntKind.i64.wrap (k:Int)=(k:Int):=i64_in _ ⟨by omega,by omega⟩;have j:k<s.length:=by omega
  have f:s[k]?=some s[k]:=gI j;have i:(s.take (k+1))[k]?=some s[k]:=by rw[fS,if_pos (by omega),f]
  have g:∀a h,opV G a h .istr (some [.str (s.take (k+1)),.n (k:Int)])=some (.int .u8 (s[k]).toNat,h):=fun a h=>vH i;have sl:∀a h,opV G a h (.slc none false true false) (some [.str (s.take (k+1)),.n (k:Int)])=some (.str (s.take k),h):=fun a h=>by rw[TW (k:=k) (by omega),zK,wN (by omega)]
  have n:=yd4 G c s l k (by omega);rw[pB,f];refine bQ (Mc.bf_L0.eq_1) ?_;generalize m:s.take (k+1)=u at*;by_cases e:s[k]=c
  ·have b:eqB ((s[k]).toNat:Int) (c.toNat:Int)=true:=kQ.2 (by rw[e]);rw[if_pos (by rw[e])];generalize((s[k]).toNat:Int)=z at*;simp[trunc,aW,d,q,w,g,b,sl];refine dT ?_;simpa[trunc]using n
  ·have b:eqB ((s[k]).toNat:Int) (c.toNat:Int)=false:=gM.2 fun o=>e (DG.1 (by omega));rw[if_neg (by simpa using e)];generalize((s[k]).toNat:Int)=z at*;rw[m];simp[trunc,aW,d,q,w,g,b,aJ,Rs.bf]
theorem xy9{G:Gam}:PW G Mc.bf Rs.bf Ks.bf IB:=by
 intro f r a;unfold IB at a;split at a
 ·rename_i s n;split at a
  ·rename_i d;obtain⟨g,h,c⟩:=d;injection a with a;subst a;have e:((UInt8.ofNat n.toNat).toNat:Int)=n:=by simp;omega
   have b:=yd4 G (UInt8.ofNat n.toNat) s c s.length (by omega);rw[e,zJ]at b;unfold vQ;rw[aT];simpa[Mc.bf,aC,Ks.bf]using b
  ·cases a
 ·cases a
def IA:List AV->Option AV
 |[.str s,.int .u8 n]=>if 0<=n/\n<256/\s.length<=1000000 then some (.str (s.dropWhile (·==UInt8.ofNat n.toNat)))else none|_=>none
theorem yd3(G:Gam)(c:UInt8):∀s:Bs,s.length<=1000000->cY G [] Mc.bg_L0 0 [.blk 0,.seq (.seq (.reg [zm 16 0,zM 4 16]) .ret)] (aJ Rs.bg (.str (s.dropWhile (·==c)))) [(0,.str s),(1,.int .u8 c.toNat),(4,.str [])] []
 |[],_=>by
  refine bQ (Mc.bg_L0.eq_1) ?_;simp[trunc,aW,aJ,Rs.bg]|x::r,g=>by
  have i:=yd3 G c r (by simp at g;omega);have q:ltB 0 (((x::r:Bs).length:Nat):Int)=true:=cH.2 (by rw[jA];omega);have sl:∀a h,opV G a h (.slc none true false false) (some [.str (x::r),.n 1])=some (.str r,h):=fun a h=>ya3 (k:=1) rfl (by simp);rw[List.dropWhile_cons];refine bQ (Mc.bg_L0.eq_1) ?_;generalize f:(x::r:Bs)=u at*;have d:∀a h,opV G a h .istr (some [.str u,.n 0])=some (.int .u8 x.toNat,h):=fun a h=>by rw[<-f];exact LU
  by_cases e:x=c
  ·have b:eqB (x.toNat:Int) (c.toNat:Int)=true:=kQ.2 (by rw[e]);rw[if_pos (by rw[e];simp)];simp[trunc,aW,q,d,b,sl];refine dT ?_;simpa[trunc]using i
  ·have b:eqB (x.toNat:Int) (c.toNat:Int)=false:=gM.2 fun j=>e (DG.1 (by omega));rw[if_neg (by simpa using e)];simp[trunc,aW,q,d,b,aJ,Rs.bg]
theorem xy8{G:Gam}:PW G Mc.bg Rs.bg Ks.bg IA:=by
 intro f r a;unfold IA at a;split at a
 ·rename_i s n;split at a
  ·rename_i d;obtain⟨g,h,c⟩:=d;injection a with a;subst a;have e:((UInt8.ofNat n.toNat).toNat:Int)=n:=by simp;omega
   have b:=yd3 G (UInt8.ofNat n.toNat) s c;rw[e]at b;rw[aT];simpa[Mc.bg,aC,Ks.bg]using b
  ·cases a
 ·cases a
def yY:List AV->Option AV
 |[.str s,.str [0]]=>if s.length<=1000000 then some (.str (yD 0 s))else none|_=>none
theorem xz3{G:Gam}(k:G Fn.bf=some (.pure IB))(j:G Fn.bg=some (.pure IA)):PW G Mc.b4 Rs.b4 Ks.b4 yY:=by
 intro p r a;unfold yY at a;split at a
 ·rename_i s;split at a
  ·rename_i n;injection a with a;subst a;have i:∀b h,opV G b h (.call Fn.bf) (some [.str s,.int .u8 0])=some (.str (vQ 0 s),h):=fun b h=>cU k (us:=[.str s,.int .u8 0]) rfl (by simp only[IB];rw[if_pos ⟨by omega,by omega,n⟩];rfl) (.inl rfl);have l:(vQ 0 s).length<=1000000:=by unfold vQ;rw[sM];omega
   have g:∀b h,opV G b h (.call Fn.bg) (some [.str (vQ 0 s),.int .u8 0])=some (.str (yD 0 s),h):=fun b h=>cU j (us:=[.str (vQ 0 s),.int .u8 0]) rfl (by simp only[IA];rw[if_pos ⟨by omega,by omega,l⟩];rfl) (.inl rfl);have e:∀s:Bs,s=[]->yD 0 s=[]:=fun s h=>by subst h;rfl
   obtain⟨f,m⟩:∃f,Mc.b4=(.seq (.reg [Km 4 (.c (.str []))]) (.seq (.seq (.reg [zm 7 0,Ze 8 7 [],zm 9 8,Gm 9 false 10 1,gz 9 false 11 (.bin .eql) [.t 10,.c (.str [])],Zp 12 9 11]) (.ite (.t 12) (.seq (.reg [zm 13 0,zM 4 13]) .ret) .skip)) (.seq (.seq (.reg [zm 14 1,zn 15 0 14,zc 16 .eql 15 1,zm 17 16,Gm 17 true 18 1,gz 17 true 19 .istr [.t 18,.i 0],gz 17 true 20 (.bin .lss) [.t 19,.c (.int .u8 128)],Zq 21 17 20]) (.ite (.t 21) (.seq (.rgd [zm 22 0,zm 23 1,iz 24 .istr [.t 23,.i 0],zg 25 Fn.bf [.t 22,.t 24],zm 26 1,iz 27 .istr [.t 26,.i 0],zg 28 Fn.bg [.t 25,.t 27],zM 4 28]) .ret) .skip)) f))):=⟨_,rfl⟩;rw[m,aT];cases c:(s==[])with
   |true=>
    have d:s=[]:=by simpa using c
    rw[e s d];subst d;simp[aC,Ks.b4,eC,aJ,Rs.b4]|false=>
    have q:eqB 1 1=true:=rfl;have o:ltB 0 128=true:=rfl;simp[aC,Ks.b4,eC,c,aW,o,i,g,aJ,Rs.b4]
  ·cases a
 ·cases a
end Go.Proofs.YtpefhfiehfkocaaGreatDoor
