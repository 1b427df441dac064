/- build -/
import Derived.Test.YtdebajodkallbaaGreatDoorRmJ
namespace Go.Proofs.YtdebajodkallbaaGreatDoor
open Go.RowKit Go.IntWalk
def Ks.ay:List Nat:=[0,1,4,5,6,7,12]
def Rs.ay:List RV:=[.tmp 4]
def Dl.ay:List (List Nat):=[[6,7]]
def Mc.ay_L0:MC:=.seq (.rgn (.t 12) (some 13) false [ze 14 0 13]) (.seq (.ite (.t 14) .skip (.exit 0)) (.blk 1 (.s [iz 15 .ent [.t 12],ze 16 0 15,ze 17 1 15,zM 6 16,zM 7 17] (.s [zm 18 1,zm 19 6,Zv 20 [.t 18,.t 19]] (.ite (.t 20) (.reg [zm 21 5,zm 22 6,zm 23 7,iz 24 (.bld [.str [],.str []] [(0,1),(1,1)]) [.t 22,.t 23],Zb 25 2 [.t 24],Zs 26 2 32 21 25,zM 5 26]) .skip)))))
def Mc.ay:MC:=.s [kz 4 (.newnil 2) []] (.s [kz 5 (.newnil 2) []] (.seq (.s [zm 8 0,Zk 9 8,zf 10 1 9,zl 11 10,kz 12 .rngm [.t 11]] (.blk 0 (.loop [6,7] Mc.ay_L0))) (.s [zm 27 5,zg 28 Fn.ea [.t 27,.c (.fn Fn.ee [])]] (.r [zm 29 5,zM 4 29]))))
def Ks.bb:List Nat:=[0,1,4]
def Rs.bb:List RV:=[.tmp 4]
def Dl.bb:List (List Nat):=[]
def Mc.bb:MC:=.s [Kb 4 false] (.d [zm 5 1,zm 6 0,Zk 7 6,zf 8 0 7,zl 9 8,zm 10 0,Zk 11 10,zf 12 4 11,zl 13 12,zi 14 4 9 13,zf 15 0 14,zl 16 15,iz 17 (.bin .add) [.t 16,.c (.str [47])],zg 18 Fn.dm [.t 5,.t 17],zm 19 18,Gm 19 false 20 0,Gk 19 false 21 20,Gf 19 false 22 2 21,Gl 19 false 23 22,Gm 19 false 24 1,Gg 19 false 25 Fn.du [.t 23,.t 24],Zp 26 19 25,zM 4 26] .ret)
def Ks.bj:List Nat:=[2]
def Rs.bj:List RV:=[.tmp 2]
def Dl.bj:List (List Nat):=[]
def Mc.bj:MC:=.s [Kb 2 false] (.r [Kb 2 true])
theorem EJ{h t:aA}{l:Nat}{b:Blk}(a:h[l]?=some b):(h++t)[l]?=some b:=by rw[gC (aV.1 a).1];exact a
theorem JX{g:Nat}{e:Bool}{h t:aA}{a v:AV}(c:aB g e h a=some v):aB g e (h++t) a=some v:=by cases a with
 |ptr l f=>
  simp only[aB]at c⊢;split at c;·rename_i s d;rw[EJ d];exact c
  ·cases c|eptr l q i f=>
  simp only[aB]at c⊢;split at c;·rename_i j tg p r o wr d;rw[EJ d];exact c
  ·cases c|fptr k f=>exact c|_=>simp[aB]at c
theorem yR4{c:Nat}{h t:aA}{x i v:AV}(a:bA c h x i=some v):bA c (h++t) x i=some v:=by
 unfold bA at a⊢;split at a;·exact a
 ·exact a
 ·split at a;·rename_i d;rw[EJ d];exact a
  ·cases a
 ·cases a
theorem xk9{h t:aA}{x:AV}{c:List (List AV)}(a:rowsOf h x=some c):rowsOf (h++t) x=some c:=by
 unfold rowsOf at a⊢;split at a;·exact a
 ·exact a
 ·exact a
 ·split at a;·rename_i d;rw[EJ d];exact a
  ·cases a
 ·cases a
theorem zv3{d:Nat}{h:aA}{x i e:AV}(a:bA d h x i=some e):(∃c,e=.fptr c 0)\/∃l v j,e=.eptr l v j 0:=by
 unfold bA at a;split at a
 ·split at a
  ·split at a
   ·split at a;·injection a with a;exact .inl ⟨_,a.symm⟩
    ·cases a
   ·cases a
  ·cases a
 ·split at a
  ·split at a
   ·split at a;·injection a with a;exact .inl ⟨_,a.symm⟩
    ·cases a
   ·cases a
  ·cases a
 ·split at a
  ·split at a
   ·split at a
    ·split at a;·injection a with a;exact .inr ⟨_,_,_,a.symm⟩
     ·cases a
    ·cases a
   ·cases a
  ·cases a
 ·cases a
def BX(h:aA)(x:AV):Option (List (List AV)):=match x with
 |.sl a=>some a|.tsl a=>some a|.nils=>some []|.own l v n=>rowsOf h (.own l v n)|_=>none
theorem xo1{h:aA}{x:AV}{c:List (List AV)}(a:BX h x=some c):view h x=some (.sl c):=by
 unfold BX at a;split at a;·injection a with a;subst a;rfl
 ·injection a with a;subst a;rfl
 ·injection a with a;subst a;rfl
 ·simp[view,a]
 ·cases a
theorem xo0{h t:aA}{x:AV}{c:List (List AV)}(a:BX h x=some c):BX (h++t) x=some c:=by
 unfold BX at a⊢;split at a;·exact a
 ·exact a
 ·exact a
 ·exact xk9 a
 ·cases a
def oV:List AV->aA->Option AV
 |[.ptr l 0,.str s],h=>match aB 1 false h (.ptr l 0),aB 1 false h (.ptr l 4),aB 1 false h (.ptr l 2)with
  |some f,some (.n a),some d=>(match bA 4 h f (.n a),BX h d with
   |some e,some g=>(match aB 1 false h e,mL [.sl g,.str s]with
    |some (.str nm),some (.bool c)=>if nm.length+1<=dP then some (.bool (Lib.hasPrefix s (nm++[47])||c))else none|_,_=>none)|_,_=>none)|_,_,_=>none
 |_,_=>none
theorem zd1{j:List AV}{h:aA}{r:AV}(d:oV j h=some r):∃l s g a f e i nm c,j=[.ptr l 0,.str s]/\aB 1 false h (.ptr l 0)=some g/\aB 1 false h (.ptr l 4)=some (.n a)/\aB 1 false h (.ptr l 2)=some f/\bA 4 h g (.n a)=some e/\BX h f=some i/\aB 1 false h e=some (.str nm)/\mL [.sl i,.str s]=some (.bool c)/\nm.length+1<=dP/\r=.bool (Lib.hasPrefix s (nm++[47])||c):=by
 unfold oV at d;split at d
 ·rename_i l s;split at d
  ·rename_i g a f k o p;split at d
   ·rename_i e i h4 h5;split at d
    ·rename_i nm c q u;split at d
     ·rename_i v;injection d with d;exact⟨l,s,g,a,f,e,i,nm,c,rfl,k,o,p,h4,h5,q,u,v,d.symm⟩
     ·cases d
    ·cases d
   ·cases d
  ·cases d
 ·cases d
theorem zY4{d:List AV}{h t:aA}{r:AV}(p:oV d h=some r):oV d (h++t)=some r:=by
 obtain⟨l,s,u,a,q,e,v,nm,c,rfl,f,g,i,h4,h5,j,k,o,rfl⟩:=zd1 p;simp only[oV,JX f,JX g,JX i,yR4 h4,xo0 h5,JX j,k];rw[if_pos o]
@[simp]theorem xL2{G:Gam}{s:Bool}{h:aA}{l a:Nat}:opV G s h .nilck (some [.ptr l a])=some (.ptr l a,h):=by rw[eV rfl];rfl
theorem xw2{G:Gam}(B:G Fn.dm=some (.pure nS))(A:G Fn.du=some (.pure mL)):LW G Mc.bb Rs.bb Ks.bb oV:=by
 intro F h r z;obtain⟨l,s,I,a,C,e,E,nm,c,rfl,i,o,w,h4,h5,p,y,g,rfl⟩:=zd1 z;have f:∀d,opV G d h (.call Fn.dm) (some [.str s,.str (nm++[47])])=some (.bool (Lib.hasPrefix s (nm++[47])),h):=fun d=>bF B (us:=[.str s,.str (nm++[47])]) rfl rfl (.inl rfl);have u:∀d,opV G d h (.call Fn.du) (some [C,.str s])=some (.bool c,h):=fun d=>bF A (us:=[.sl E,.str s]) (by simp[bU,xo1 h5,view]) y (.inl rfl);have H:nm.length+[(47:UInt8)].length<=dP:=g;rw[aM];cases q:Lib.hasPrefix s (nm++[47])with
 |true=>
  rw[q]at f;rcases zv3 h4 with⟨D,rfl⟩|⟨k,v,j,rfl⟩<;>simp[Mc.bb,aC,Ks.bb,i,o,h4,p,g,f,fP,Rs.bb,-aB]|false=>
  rw[q]at f;rcases zv3 h4 with⟨D,rfl⟩|⟨k,v,j,rfl⟩<;>simp[Mc.bb,aC,Ks.bb,i,o,w,h4,p,g,f,u,fP,Rs.bb,-aB]
def lF(d c:FuncId)(h:aA)(a:AV)(s:Bs):Option Bool:=match a with
 |.fn f []=>if f=c then some true else none|.mth f x=>if f=d then(match oV [x,.str s] h with
  |some (.bool b)=>some b|_=>none)else none|_=>none
def xD:List AV->Option AV
 |[.str _]=>some (.T)|_=>none
def AH(h:aA)(m n:Nat)(ts:List PD)(seen:List Nat)(x:aA):aA:=h++(.arr 2 0 [] true::.arr 2 ts.length (ts.map jZ) true::.mit (some m) n seen n::x)
section
variable{h x:aA}{m n l:Nat}{ts:List PD}{seen:List Nat}{t:PD}{b:Blk}
theorem za1(a:h[l]?=some b):(AH h m n ts seen x)[l]?=some b:=EJ a
theorem zU4:(AH h m n ts seen x)[h.length+1]?=some (.arr 2 ts.length (ts.map jZ) true):=by unfold AH;rw[fT (by simp)];simp
theorem za2:(AH h m n ts seen x)[h.length+2]?=some (.mit (some m) n seen n):=by unfold AH;rw[fT (by simp)];simp
theorem zU6{a:List Nat}:(AH h m n ts seen x).set (h.length+2) (.mit (some m) n a n)=AH h m n ts a x:=by unfold AH;rw[lZ _ _ (by simp)];simp
theorem zU3:(AH h m n ts seen x).set (h.length+1) (.arr 2 (ts++[t]).length ((ts++[t]).map jZ) true)=AH h m n (ts++[t]) seen x:=by unfold AH;rw[lZ _ _ (by simp)];simp
theorem LQ{a:List (Nat×AV)}(d:cV h.length h=true)(f:m<h.length)(c:bW (h.length+3) a=true):trunc (h.length+3) a (AH h m n ts seen x)=AH h m n ts seen []:=by
 have e:AH h m n ts seen x=AH h m n ts seen []++x:=by simp[AH]
 rw[e];refine sP (by simp[AH]) c ?_;unfold AH;refine WC (WE (by omega) d) ?_;simp[cV,gD];omega
theorem za3{a:List (AV×AV)}(d:h[m]?=some (.map a))(e:a.length=n):mV (AH h m n ts seen x) (h.length+2)=(match left n seen with
  |[]=>some [(.tup [.F],(AH h m n ts seen x).set (h.length+2) .dead)]|i::f=>some ((i::f).map fun i=>(.tup [.T,(a[i]?.getD (.junk,.junk)).1,(a[i]?.getD (.junk,.junk)).2],AH h m n ts (seen++[i]) x))):=by
 unfold mV;rw[za2];simp only[za1 d,e,and_self,bD,left];split<;>rename_i c;·rw[c]
 ·rw[c];simp only[zU6]
end
def CU(e d:FuncId):List AV->aA->Option (AV×aA)
 |[.ptr l 0,c],h=>match aB 1 false h (.ptr l 1)with
  |some (.map m)=>(match h[m]? with
   |some (.map f)=>(match IX f with
    |some a=>if(a.all fun p=>(lF e d h c p.1).isSome)=true/\mF a=true/\a.length<=1000/\(a.filter fun p=>lF e d h c p.1==some true)≠[]then some (.sl ((lI (a.filter fun p=>lF e d h c p.1==some true)).map jZ),h)else none|none=>none)|_=>none)|_=>none
 |_,_=>none
theorem zz0{G:Gam}{g e:FuncId}(j:G g=some (.gen (cJ oV)))(i:G e=some (.pure xD)){h t:aA}{d:AV}{s:Bs}{b:Bool}(a:lF g e h d s=some b):opV G false (h++t) .callv (some [d,.str s])=some (.bool b,h++t):=by
 unfold lF at a;split at a
 ·rename_i f;split at a
  ·rename_i c;subst c;injection a with a;subst a;rw[xb8];exact TT i (us:=[.str s]) rfl rfl rfl
  ·cases a
 ·rename_i f x;split at a
  ·rename_i c;subst c;split at a
   ·rename_i o k;injection a with a;subst a;have:opV G false (h++t) .callv (some [.mth f x,.str s])=eD G f [x,.str s] (h++t):=by rw[eG rfl];rfl
    rw[this,lB j];simp only[cJ,zY4 k,fC]
   ·cases a
  ·cases a
 ·cases a
theorem xy3{G:Gam}:PW G Mc.bj Rs.bj Ks.bj xD:=by
 intro c r a;unfold xD at a;split at a
 ·injection a with a;subst a;rw[aM];simp[Mc.bj,Ks.bj,aC,aD,Rs.bj]
 ·cases a
def ZK:MC:=.s [zm 27 5,zg 28 Fn.ea [.t 27,.c (.fn Fn.ee [])]] (.r [zm 29 5,zM 4 29])
section
variable{G:Gam}{h:aA}{m n:Nat}{ts:List PD}{seen:List Nat}
def AD(h:aA)(ts:List PD):aA:=h++[.arr 2 0 [] true,.arr 2 ts.length (ts.map jZ) true,.dead]
theorem zU5:(AH h m n ts seen []).set (h.length+2) .dead=AD h ts:=by unfold AH AD;rw[lZ _ _ (by simp)];simp
theorem zU1:(AD h ts)[h.length+1]?=some (.arr 2 ts.length (ts.map jZ) true):=by unfold AD;rw[fT (by simp)];simp
theorem zU2{b:Blk}:(AD h ts).set (h.length+1) b=h++[.arr 2 0 [] true,b,.dead]:=by unfold AD;rw[lZ _ _ (by simp)];simp
theorem yx5{c:List (AV×AV)}{i:Nat}{a b:AV}(e:h[m]?=some (.map c))(f:c.length=n)(d:c[i]?=some (a,b)):AY (AH h m n ts (seen++[i]) []) (h.length+2)=some (.tup [a,b]):=by
 unfold AY;rw[za2];simp[za1 e,f,d]
end
@[simp]theorem xJ6{G:Gam}{s:Bool}{h:aA}{l:Nat}:opV G s h .ent (some [.ptr l 0])=(AY h l).map fun v=>(v,h):=by rw[eV rfl];rfl
theorem ye3{h:aA}{a c:Blk}{f:Nat}{d:List (List AV)}{n:Nat}(g:n=d.length):frz (h++[a,.arr 2 f d true,c]) (.own (h.length+1) f n)=some (.sl d,h++[a,.arr 2 f d false,c]):=by
 have e:(h++[a,Blk.arr 2 f d true,c])[h.length+1]?=some (.arr 2 f d true):=by rw[fT (by simp)];simp
 subst g;simp[frz,view,rowsOf,owns,eS,mI]
theorem zi2{G:Gam}{e:List FuncId}(s:G Fn.ea=some (.gen (sY e)))(z:e.contains Fn.ee=true){h:aA}{l m:Nat}{c:AV}{a:List PD}{q:Bs->Bool}{ts:List PD}{seen:List Nat}(k:cV h.length h=true)(B:m<h.length)(y:bW (h.length+3) [(0,AV.ptr l 0),(1,c),(4,.own h.length 0 0),(5,.own (h.length+1) ts.length ts.length),(6,.junk),(7,.junk),(12,.ptr (h.length+2) 0)]=true)(A:h[m]?=some (.map (a.map xZ)))(f:left a.length seen=[])(C:seen.Nodup)(E:∀i∈seen,i<a.length)(F:ts=pick a q seen)(v:mF a=true)(I:a.length<=1000)(_:(a.filter fun p=>q p.1)≠[]):cY G [6,7] Mc.ay_L0 (h.length+3) [.blk 0,.seq ZK] (EI h.length Rs.ay (.sl ((lI (a.filter fun p=>q p.1)).map jZ)) h) [(0,.ptr l 0),(1,c),(4,.own h.length 0 0),(5,.own (h.length+1) ts.length ts.length),(6,.junk),(7,.junk),(12,.ptr (h.length+2) 0)] (AH h m a.length ts seen []):=by
 have d:ts.Perm (a.filter fun p=>q p.1):=by rw[F];exact xe6 C E (yV7 f)
 have j:mF (a.filter fun p=>q p.1)=true:=yw2 v;have w:mF ts=true:=yw1 d.symm j;have o:lI ts=lI (a.filter fun p=>q p.1):=zO5 j ((LJ ts).trans d) (YT ts);have J:ts.length<=a.length:=by rw[d.length_eq];exact AC _ _
 have u:ts.length<=big:=by unfold big;omega
 have g:opV G false (AD h ts) (.call Fn.ea) (some [.own (h.length+1) ts.length ts.length,.fn Fn.ee []])=some (.tup [],h++[.arr 2 0 [] true,.arr 2 ts.length ((lI ts).map jZ) true,.dead]):=by
  rw[eX s];unfold sY;simp only[zU1,zo0,w];rw[if_pos ⟨z,trivial,trivial,u,trivial⟩,zU2]
 rw[o]at g;refine aJ (Mc.ay_L0.eq_1) ?_;rw[show bM [6,7] [(0,AV.ptr l 0),(1,c),(4,.own h.length 0 0),(5,.own (h.length+1) ts.length ts.length),(6,.junk),(7,.junk),(12,.ptr (h.length+2) 0)]=[(0,AV.ptr l 0),(1,c),(4,.own h.length 0 0),(5,.own (h.length+1) ts.length ts.length),(6,.junk),(7,.junk),(12,.ptr (h.length+2) 0)]from rfl,LQ k B y];rw[zu5,zu4];show IF G (some 13) false _ _ _ _ (mV (AH h m a.length ts seen []) (h.length+2));rw[za3 A (by simp),f];intro r D;rcases mN.1 D with rfl;rw[zU5];simp[ZK,g,EI,zg3,Rs.ay];refine⟨_,ye3 (by rw[<-o,kC,(LJ ts).length_eq]),yV3,k⟩
theorem ye2(G:Gam){g f:FuncId}{K:List FuncId}(P:G g=some (.gen (cJ oV)))(M:G f=some (.pure xD))(O:G Fn.ea=some (.gen (sY K)))(U:K.contains Fn.ee=true){h:aA}{l m:Nat}{e:AV}{d:List PD}(hl:l<h.length)(v:cV h.length h=true)(b2:low h.length e=true)(w:h[m]?=some (.map (d.map xZ)))(V:d.length<=1000)(S:mF d=true)(a2:∀p∈d,lF g f h e p.1=some (lF g f h e p.1==some true))(X:(d.filter fun p=>lF g f h e p.1==some true)≠[]):∀(N:Nat)(seen:List Nat)(ts:List PD),(left d.length seen).length<=N->seen.Nodup->(∀i∈seen,i<d.length)->ts=pick d (fun s=>lF g f h e s==some true) seen->cY G [6,7] Mc.ay_L0 (h.length+3) [.blk 0,.seq ZK] (EI h.length Rs.ay (.sl ((lI (d.filter fun p=>lF g f h e p.1==some true)).map jZ)) h) [(0,.ptr l 0),(1,e),(4,.own h.length 0 0),(5,.own (h.length+1) ts.length ts.length),(6,.junk),(7,.junk),(12,.ptr (h.length+2) 0)] (AH h m d.length ts seen []):=by
 intro N;have y:m<h.length:=(aV.1 w).1;have b3:low (h.length+3) e=true:=QN (by omega) b2;have u:∀ts:List PD,bW (h.length+3) [(0,AV.ptr l 0),(1,e),(4,.own h.length 0 0),(5,.own (h.length+1) ts.length ts.length),(6,.junk),(7,.junk),(12,.ptr (h.length+2) 0)]=true:=fun ts=>by simp[bW,low,b3];omega
 induction N with
 |zero=>
  intro seen ts hN z B D;have r:left d.length seen=[]:=vC (by omega);exact zi2 (q:=fun s=>lF g f h e s==some true) O U v y (u ts) w r z B D S V X|succ N Z=>
  intro seen ts hN z B D;cases r:left d.length seen with
  |nil=>exact zi2 (q:=fun s=>lF g f h e s==some true) O U v y (u ts) w r z B D S V X|cons i0 d1=>
   refine aJ (Mc.ay_L0.eq_1) ?_;rw[show bM [6,7] [(0,AV.ptr l 0),(1,e),(4,.own h.length 0 0),(5,.own (h.length+1) ts.length ts.length),(6,.junk),(7,.junk),(12,.ptr (h.length+2) 0)]=[(0,AV.ptr l 0),(1,e),(4,.own h.length 0 0),(5,.own (h.length+1) ts.length ts.length),(6,.junk),(7,.junk),(12,.ptr (h.length+2) 0)]from rfl,LQ v y (u ts)];rw[zu5,zu4];show IF G (some 13) false _ _ _ _ (mV (AH h m d.length ts seen []) (h.length+2));rw[za3 w (by simp),r];intro d2 hr;obtain⟨i,I,rfl⟩:=nY.1 hr;rw[<-r]at I;obtain⟨J,b1⟩:=yV6.1 I;have A:d[i]?=some d[i]:=jT J;generalize c1:d[i]=p at A;have c2:p∈d:=by rw[<-c1];exact HV J
   have a3:(d.map xZ)[i]?=some (.str p.1,.str p.2):=by simp[A,xZ]
   have T:AY (AH h m d.length ts (seen++[i]) []) (h.length+2)=some (.tup [.str p.1,.str p.2]):=yx5 w (by simp) a3;have L:(left d.length (seen++[i])).length<=N:=by have:=yV8 I;omega
   have W:(seen++[i]).Nodup:=by rw[List.nodup_append];exact⟨z,by simp,fun a k b o=>by simp at o;subst o;exact fun a1=>b1 (a1▸k)⟩
   have Y:∀j∈seen++[i],j<d.length:=fun j q=>by
    rcases kD.1 q with q|q;·exact B j q
    ·simp at q;subst q;exact J
   have C:=xe7 (b:=fun s=>lF g f h e s==some true) (seen:=seen) A;rw[<-D]at C;have c3:ts.length<big:=by
    have:ts.length<=d.length:=by
     rw[D];unfold pick;refine qL (AC _ _) ?_;refine qL (List.length_filterMap_le _ _) ?_;have A:seen.Perm ((List.range d.length).filter fun i=>seen.contains i):=(List.perm_ext_iff_of_nodup z (List.nodup_range.filter _)).2 fun a=>by
      simp only[nX,lM,List.contains_iff_mem];exact⟨fun k=>⟨B a k,k⟩,fun k=>k.2⟩
     rw[A.length_eq];exact qL (AC _ _) (by simp)
    unfold big;omega
   have E:=a2 p c2;cases o:(lF g f h e p.1==some true)with
   |true=>
    rw[o]at E;have H:opV G false (AH h m d.length ts (seen++[i]) []) .callv (some [e,.str p.1])=some (.T,AH h m d.length ts (seen++[i]) []):=zz0 P M E;have k:opV G false (AH h m d.length ts (seen++[i]) []) (.app false 2 32) (some [.own (h.length+1) ts.length ts.length,.tsl [[.str p.1,.str p.2]]])=some (.own (h.length+1) (ts++[p]).length (ts++[p]).length,AH h m d.length (ts++[p]) (seen++[i]) []):=by
     have:=vY (G:=G) (s:=false) (e:=jZ) (n:=2) (b:=32) (x:=p) (zU4 (h:=h) (m:=m) (n:=d.length) (ts:=ts) (seen:=seen++[i]) (x:=[])) rfl (by omega) c3;rw[zU3]at this;exact this
    rw[o,if_pos rfl]at C;have F:=Z (seen++[i]) (ts++[p]) L W Y C.symm;simp[T,H,k,bU,view,dB,fW,AV.cells,eO];refine cZ ?_;rw[show∀a b c:AV,bM [6,7] [(0,AV.ptr l 0),(1,e),(4,.own h.length 0 0),(5,a),(6,b),(7,c),(12,.ptr (h.length+2) 0)]=[(0,AV.ptr l 0),(1,e),(4,.own h.length 0 0),(5,a),(6,.junk),(7,.junk),(12,.ptr (h.length+2) 0)]from fun _ _ _=>rfl];have Q:=LQ (ts:=ts++[p]) (n:=d.length) (seen:=seen++[i]) (x:=[]) v y (u (ts++[p]));simp only[bX,hJ,gQ]at Q F;rw[Q];exact F|false=>
    rw[o]at E;have H:opV G false (AH h m d.length ts (seen++[i]) []) .callv (some [e,.str p.1])=some (.F,AH h m d.length ts (seen++[i]) []):=zz0 P M E;rw[o,if_neg (by simp),dY]at C;have F:=Z (seen++[i]) ts L W Y C.symm;simp[T,H];refine cZ ?_;rw[show∀a b c:AV,bM [6,7] [(0,AV.ptr l 0),(1,e),(4,.own h.length 0 0),(5,a),(6,b),(7,c),(12,.ptr (h.length+2) 0)]=[(0,AV.ptr l 0),(1,e),(4,.own h.length 0 0),(5,a),(6,.junk),(7,.junk),(12,.ptr (h.length+2) 0)]from fun _ _ _=>rfl];rw[LQ v y (u ts)];exact F
theorem xc3{G:Gam}{h:aA}{m:Nat}{a:List (AV×AV)}(c:h[m]?=some (.map a)):opV G false h .rngm (some [.map m])=some (.ptr h.length 0,h++[.mit (some m) a.length [] a.length]):=by rw[eG rfl];simp[cG,c]
theorem yV5(n:Nat)(seen:List Nat):(left n seen).length<=n:=by unfold left;exact qL (AC _ _) (by simp)
theorem zY2{f e:FuncId}{g:List AV}{h i:aA}{r:AV}(a:CU f e g h=some (r,i)):∃l c m d,g=[.ptr l 0,c]/\aB 1 false h (.ptr l 1)=some (.map m)/\h[m]?=some (.map (d.map xZ))/\(∀p∈d,lF f e h c p.1=some (lF f e h c p.1==some true))/\mF d=true/\d.length<=1000/\(d.filter fun p=>lF f e h c p.1==some true)≠[]/\r=.sl ((lI (d.filter fun p=>lF f e h c p.1==some true)).map jZ)/\h=i:=by
 unfold CU at a;split at a
 ·rename_i l c;split at a
  ·rename_i m v;split at a
   ·rename_i C w;split at a
    ·rename_i d y;split at a
     ·rename_i z;obtain⟨j,k,o,q⟩:=z;injection a with a;injection a with s u;refine⟨l,c,m,d,rfl,v,by rw[w,zn7 y],fun p A=>?_,k,o,q,s.symm,u⟩;have:=gV.1 j p A;cases B:lF f e h c p.1 with
      |none=>rw[B]at this;cases this|some b=>cases b<;>rfl
     ·cases a
    ·cases a
   ·cases a
  ·cases a
 ·cases a
theorem ye4(G:Gam){j i:FuncId}{f:List FuncId}(A:G j=some (.gen (cJ oV)))(y:G i=some (.pure xD))(z:G Fn.ea=some (.gen (sY f)))(B:f.contains Fn.ee=true):∀c h r d,bN h.length c=true->cV h.length h=true->CU j i c h=some (r,d)->wpM G Mc.ay (EI h.length Rs.ay r d) [] (aC Ks.ay c) h:=by
 intro c h r d e E v;obtain⟨l,F,m,a,rfl,q,g,s,h4,h5,u,rfl,rfl⟩:=zY2 v;simp only[bN,low,bS,fU,and_true]at e;rw[aM];have k:aB 1 false (h++[.arr 2 0 [] true,.arr 2 0 [] true]) (.ptr l 1)=some (.map m):=JX q;have D:(h++[Blk.arr 2 0 [] true,Blk.arr 2 0 [] true]++[Blk.mit (some m) (a.map xZ).length [] (a.map xZ).length])=AH h m a.length [] [] []:=by simp[AH]
 have o:opV G false (h++[.arr 2 0 [] true,.arr 2 0 [] true]) .rngm (some [.map m])=some (.ptr (h.length+2) 0,AH h m a.length [] [] []):=by rw[xc3 (EJ g),D];simp
 have p:(AH h m a.length [] [] []).length=h.length+3:=by simp[AH]
 have w:=ye2 G A y z B e.1 E e.2 g h5 h4 s u a.length [] [] (yV5 _ _) List.nodup_nil (fun _ C=>by cases C) rfl;simp[Mc.ay,aC,Ks.ay,k,o,p,-aB];exact w
end Go.Proofs.YtdebajodkallbaaGreatDoor
