/- binary -/
import Derived.Test.YtpefhfiehfkocaaGreatDoorND
namespace Go.Proofs.YtpefhfiehfkocaaGreatDoor
open Go.RowKit Go.IntWalk
def HK:List AV->Option AV
 |[.sl rows,.bool v]=>match sY rows with
  |some a=>if a.length<=big then some (.n (jI (fun u=>v==u) 0 a))else none|none=>none
 |_=>none
theorem zG5(G:Gam)(a:List Bool)(v:Bool)(k:a.length<=big):∀(d:List Bool)(i:Nat),a.drop i=d->i<=a.length->cY G [5] Mc.bj_L0 0 [.blk 0,.seq (.seq (.reg [Kc 4 (-1)]) .ret)] (aJ Rs.bj (.n (jI (fun u=>v==u) i d))) [(0,.sl (dR a)),(1,.bool v),(4,.n 0),(5,.junk),(7,.n a.length),(8,.n i)] []
 |[],i,e,m=>by
  have y:=drop_nil e;have j:i=a.length:=by omega
  subst j;refine bQ (Mc.bj_L0.eq_1) ?_;rw[eJ (n:=0) rfl];simp[jI,aJ,Rs.bj]|u::d,i,e,m=>by
  obtain⟨A,o,p⟩:=lG e;have q:ltB (i:Int) (a.length:Int)=true:=cH.2 (by omega);have n:=iJ (i:=i) (by omega);have w:(dR a)[i]?=some [.bool u]:=by simp[dR,o]
  have g:∀h,bN 1 h (.sl (dR a)) (.n (i:Int))=some (.fptr [.bool u] 0):=fun h=>by simp[bN,w]
  have s:=zG5 G a v k d (i+1) p (by omega);rw[jI];refine bQ (Mc.bj_L0.eq_1) ?_;rw[eJ (n:=0) rfl];generalize dR a=R at*;cases f:(v==u)with
  |true=>simp[q,g,f,cut,aD,aJ,Rs.bj]|false=>
   simp[q,g,f,cut,aD,n];refine dT ?_;rw[eJ (n:=0) rfl];simpa using s
theorem yS7{G:Gam}:PW G Mc.bj Rs.bj Ks.bj HK:=by
 intro j r a;unfold HK at a;split at a
 ·rename_i rows v;split at a
  ·rename_i d g;split at a
   ·rename_i e;injection a with a;subst a;have:=PT g;subst this;have i:=zG5 G d v e d 0 rfl (by omega);have f:(dR d).length=d.length:=by simp
    rw[aT];generalize dR d=R at*;simp[Mc.bj,Ks.bj,aC,aW,f];simpa using i
   ·cases a
  ·cases a
 ·cases a
def HI:List AV->Option AV
 |[.sl rows,.bool v]=>match sY rows with
  |some a=>if a.length<=big then some (.bool (a.contains v))else none|none=>none
 |_=>none
theorem yz2{G:Gam}(m:G Fn.bj=some (.pure HK)):PW G Mc.ck Rs.ck Ks.ck HI:=by
 intro p r d;unfold HI at d;split at d
 ·rename_i rows v;split at d
  ·rename_i a o;split at d
   ·rename_i n;injection d with d;subst d;have:=PT o;subst this;have j:∀i h,opV G i h (.call Fn.bj) (some [.sl (dR a),.bool v])=some (.n (jI (fun u=>v==u) 0 a),h):=fun i h=>cU m (us:=[.sl (dR a),.bool v]) rfl (by simp only[HK,PU];rw[if_pos n]) (.inl rfl);have e:a.contains v=!ltB (jI (fun u=>v==u) 0 a) 0:=by
     have f:=XT (p:=fun u=>v==u) a 0;have k:a.any (fun u=>v==u)=a.contains v:=by rw[List.contains_eq_any_beq]
     rw[k]at f;cases g:a.contains v with
     |true=>
      have:ltB (jI (fun u=>v==u) 0 a) 0=false:=dQ.2 (f.2 g);rw[this];rfl|false=>
      have:ltB (jI (fun u=>v==u) 0 a) 0=true:=by
       rw[cH];rcases Int.lt_or_le (jI (fun u=>v==u) 0 a) 0 with h|h;·exact h
       ·rw[f.1 h]at g;cases g
      rw[this];rfl
    rw[aT,e];generalize jI (fun u=>v==u) 0 a=x at*;generalize dR a=R at*;simp[Mc.ck,Ks.ck,aC,j,aJ,Rs.ck]
   ·cases d
  ·cases d
 ·cases d
theorem xg8{G:Gam}{k:Bool}{h:aA}{l n a:Nat}{rows:List (List AV)}{x y:Int}(f:h[l]?=some (.arr 1 0 rows true))(g:n<=rows.length)(i:x=a)(j:y=a+4)(m:a+4<=n):opV G k h (.slc (some 1) true true false) (some [.own l 0 n,.n x,.n y])=some (.win l 0 a 4,h):=by
 subst i j;rw[bW rfl];simp only[bV,qL,pA,aM,bM,bH,BG,f,Option.getD_some];rw[if_pos ⟨trivial,trivial,trivial,by omega,by omega,by omega,g⟩];have d:((a:Int)).toNat=a:=by omega
 have e:((a:Int)+4-a).toNat=4:=by omega
 rw[d,e];rfl
theorem xF3{h:aA}{l a:Nat}{d:List Bool}(f:h[l]?=some (.arr 1 0 (dR d) true))(e:a+4<=d.length)(v:Bool):cV h [.win l 0 a 4,.bool v]=some [.sl (dR ((d.drop a).take 4)),.bool v]:=by
 have:GT h l 0 a 4=some (dR ((d.drop a).take 4)):=by
  unfold GT;rw[f];simp only[zg4];rw[if_pos ⟨trivial,e⟩,xB9]
 simp[cV,view,this]
def BO(b:Bin)(d:List Bool)(a:Int):Bool:=inE b.pl a&&!((d.drop a.toNat).take 4).contains true
def uI:List AV->aA->Option (AV×aA)
 |[.n a,.ptr 0 0,.ptr 2 0],h=>match(h[0]?:Option Blk),(h[1]?:Option Blk),(h[2]?:Option Blk)with
  |some (.cellsT _ e),some (.arr 1 0 rows true),some (.cellsT _ [.own 1 0 n])=>match sW e,sY rows with
   |some b,some d=>if oQ b=true/\nP b=true/\lT a=true/\n=d.length/\d.length=b.img.length then some (.bool (BO b d a),if BO b d a then h.set 1 (.arr 1 0 (dR (iX d a.toNat 4)) true)else h)else none|_,_=>none
  |_,_,_=>none
 |_,_=>none
theorem zL1(G:Gam)(h:aA)(d:List Bool)(a n:Nat)(p u v:AV)(j:h[1]?=some (.arr 1 0 (dR d) true))(tg:Option TypeId)(k:h[2]?=some (.cellsT tg [.own 1 0 n]))(o:n=d.length)(B:a+4<=n)(C:n<=1000000)(y:aA):∀(f i:Nat),i+f=4->cY G [7] Mc.ah_L0 h.length [.blk 0,.seq (.seq (.reg [Kb 4 true]) .ret)] (eF Rs.ah (.T) (h.set 1 (.arr 1 0 (dR (iX d a 4)) true))) [(0,.n a),(1,.ptr 0 0),(2,.ptr 2 0),(4,p),(5,u),(6,v),(7,.junk),(42,.n i)] (h.set 1 (.arr 1 0 (dR (iX d a i)) true))
 |0,i,D=>by
  have w:i=4:=by omega
  subst w;have q:ltB 4 4=false:=rfl;refine bQ (Mc.ah_L0.eq_1) ?_;rw[eJ (by simp)];simp[eF,Rs.ah]|f+1,i,D=>by
  have q:ltB (i:Int) 4=true:=cH.2 (by omega);have I:=iJ (i:=i) (by unfold big;omega);have N:IntKind.i64.wrap ((a:Int)+i)=((a+i:Nat):Int):=by rw[i64_in _ ⟨by omega,by omega⟩];omega
  have F:1<h.length:=(aF.1 j).1;have g:(h.set 1 (.arr 1 0 (dR (iX d a i)) true))[1]?=some (.arr 1 0 (dR (iX d a i)) true):=fL F;have A:(h.set 1 (.arr 1 0 (dR (iX d a i)) true))[2]?=some (.cellsT tg [.own 1 0 n]):=by rw[eY (by omega)];exact k
  have L:aB 1 false (h.set 1 (.arr 1 0 (dR (iX d a i)) true)) (.ptr 2 0)=some (.own 1 0 n):=by simp[aB,A,cut,aD]
  obtain⟨b,m⟩:=xB7 (us:=iX d a i) (i:=a+i) (by rw[TN];omega);have J:bN 1 (h.set 1 (.arr 1 0 (dR (iX d a i)) true)) (.own 1 0 n) (.n ((a+i:Nat):Int))=some (.eptr 1 0 (a+i) 0):=KO g (by rw[zg4,TN];exact o) m rfl;have M:∀s,opV G s (h.set 1 (.arr 1 0 (dR (iX d a i)) true)) (.st 1) (some [.eptr 1 0 (a+i) 0,.T])=some (.junk,h.set 1 (.arr 1 0 (dR (iX d a (i+1))) true)):=fun s=>by
   rw[SL (n:=1) (x:=.T) g m rfl (by omega) rfl (by simp) rfl rfl,mN];have e:bF [AV.bool b] 0 (AV.bool true).cells=[.T]:=rfl;rw[e,xB8];rfl
  have K:=zL1 G h d a n p u v j tg k o B C y f (i+1) (by omega);refine bQ (Mc.ah_L0.eq_1) ?_;rw[eJ (by simp)];have E:(h.set 1 (.arr 1 0 (dR (iX d a (i+1))) true)).length=h.length:=by simp
  generalize h.set 1 (.arr 1 0 (dR (iX d a i)) true)=H at*;generalize h.set 1 (.arr 1 0 (dR (iX d a (i+1))) true)=O at*;simp[q,L,N,J,M,I,-aB,-Int.natCast_add];refine dT ?_;rw[eJ E];simpa using K
theorem xw8{G:Gam}(Q:G Fn.b9=some (.pure HD))(S:G Fn.ck=some (.pure HI)):GW G Mc.ah Rs.ah Ks.ah uI:=by
 intro c3 h r h' d;unfold uI at d;split at d
 ·rename_i a;split at d
  ·rename_i tg j rows b3 n E m F;split at d
   ·rename_i b i U hu;split at d
    ·rename_i V;obtain⟨Y,a1,J,X,d2⟩:=V;simp only[aE,aR]at d;obtain⟨rfl,rfl⟩:=d;obtain rfl:j=b.cells:=DS U;have:=PT hu;subst this;have w:=AR Y;obtain⟨⟨_,d3⟩,e3,b2⟩:=zb4 a1;have d1:=ya5 J;have q:aB 8 true h (.ptr 0 0)=some (.agg b.cells):=by simp[aB,E,cut,aD,Bin.cells]
     have A:aB 1 false h (.ptr 0 3)=some (.sl (dM b.pl)):=by simp[aB,E,Bin.cells,cut,aD]
     have M:aB 1 false h (.ptr 2 0)=some (.own 1 0 n):=by simp[aB,F,cut,aD]
     have e:∀f,opV G f h (.call Fn.b9) (some [.agg b.cells,.n a])=some (.tup [.n (if 0<=atI a b.pl then atI a b.pl else 0),.bool (decide (0<=atI a b.pl))],h):=fun f=>cU Q (us:=[.agg b.cells,.n a]) (by simp[cV,view,Bin.cells]) (by simp only[HD,DR];rw[if_pos ⟨w.p,J⟩]) (.inl rfl);have W:1<h.length:=(aF.1 m).1;rw[aT];unfold BO inE;rcases zS0 (a:=a) b.pl 0 with⟨k1,k2⟩|⟨k,p,k1,k2,k3⟩
     ·have k4:atI a b.pl=-1:=k2;rw[k4]at e;have s:decide (0<=(-1:Int))=false:=rfl;rw[s]at e;rw[k1];generalize b.cells=j at*;simp[Mc.ah,aC,Ks.ah,q,e,eF,Rs.ah,-aB]
     ·have k4:atI a b.pl=(k:Int):=by rw[show atI a b.pl=jI (atE a) 0 b.pl from rfl,k3];simp
      rw[k4]at e;have s:decide (0<=(k:Int))=true:=by simp
      have P:(if 0<=(k:Int)then(k:Int)else 0)=k:=if_pos (by omega);rw[s,P]at e;rw[k1];simp only[Option.any_some];have K:=gJ k2;have Z:=zb2 b2 p K;have hs:=zS6 Z.1;obtain⟨⟨o1,o2⟩,o3,o4⟩:=ZY ((LN w.p).2 p K);have T:atE a p=true:=by
       have:∀l:List Plc,tL a l=some p->atE a p=true:=by
        intro l;induction l with
        |nil=>intro h;cases h|cons x r ih=>
         intro h;rw[tL]at h;split at h;·rename_i hx;injection h with h;subst h;exact hx
         ·exact ih h
       exact this _ k1
      obtain⟨t1,t2,t3⟩:=zo5.1 T;have r1:=zS3 k2;have a2:p.row.length=5:=rfl;have y:bN 5 h (.sl (dM b.pl)) (.n (k:Int))=some (.fptr p.row 0):=by simp[bN,r1,a2]
      have u:aB 1 false h (.fptr p.row 3)=some (.n p.pos):=by simp[aB,cut,aD,Plc.row]
      have v:aB 1 false h (.fptr p.row 4)=some (.n p.siz):=by simp[aB,cut,aD,Plc.row]
      have B:IntKind.i64.wrap (a+4)=a+4:=i64_in _ ⟨by omega,by omega⟩;have C:IntKind.i64.wrap (p.pos+p.siz)=p.pos+p.siz:=i64_in _ ⟨by omega,by omega⟩;obtain⟨an,rfl⟩:∃an:Nat,a=an:=⟨a.toNat,by omega⟩;simp only[qV];rcases fQ (ltB (p.pos+p.siz) ((an:Int)+4))with g|g
      ·rw[g];generalize b.cells=j at*;generalize dM b.pl=R at*;simp[Mc.ah,aC,Ks.ah,q,A,e,y,u,v,B,C,g,eF,Rs.ah,-aB]
      ·have O:=g;rw[dQ]at O;have N:∀f,opV G f h (.slc (some 1) true true false) (some [.own 1 0 n,.n (an:Int),.n ((an:Int)+4)])=some (.win 1 0 an 4,h):=fun f=>xg8 m (by rw[zg4];omega) rfl rfl (by omega);have o:∀f,opV G f h (.call Fn.ck) (some [.win 1 0 an 4,.T])=some (.bool (((i.drop an).take 4).contains true),h):=fun f=>cU S (us:=[.sl (dR ((i.drop an).take 4)),.T]) (xF3 m (by omega) true) (by simp only[HI,PU];rw[if_pos (by rw[sM];unfold big;omega)]) (.inl rfl);have L:=zL1 G h i an n (.F) (.n k) (.T) m b3 F X (by omega) (by have:=w.img;omega) [] 4 0 rfl;have a3:h.set 1 (.arr 1 0 (dR (iX i an 0)) true)=h:=by
        rw[iX];apply kL;intro b1;rw[iZ];by_cases I:1=b1;·subst I;rw[if_pos rfl,if_pos W,m]
        ·rw[if_neg I]
       rw[a3]at L;rw[g];cases D:((i.drop an).take 4).contains true with
       |true=>
        rw[D]at o;generalize b.cells=j at*;generalize dM b.pl=R at*;simp[Mc.ah,aC,Ks.ah,q,A,M,e,y,u,v,B,C,g,N,o,eF,Rs.ah,-aB]|false=>
        rw[D]at o;simp only[lA,wI,aM];generalize b.cells=j at*;generalize dM b.pl=R at*;generalize h.set 1 (.arr 1 0 (dR (iX i an 4)) true)=H4 at*;simp[Mc.ah,aC,Ks.ah,q,A,M,e,y,u,v,B,C,g,N,o,-aB];simpa using L
    ·cases d
   ·cases d
  ·cases d
 ·cases d
abbrev WH(d:List AV)(a:List Bool):aA:=[.cells d,.arr 1 0 (dR a) true,.cells [.own 1 0 a.length]]
theorem zS1{a:Int}{p:Plc}:∀{l:List Plc},tL a l=some p->p∈l/\atE a p=true
 |[],h=>by cases h|x::r,h=>by
  rw[tL]at h;split at h;·rename_i d;injection h with h;subst h;exact⟨List.mem_cons_self,d⟩
  ·have:=zS1 h;exact⟨lC _ this.1,this.2⟩
theorem QS{b:Bin}(h:nP b=true){a:Int}(d:inE b.pl a=true):0<=a/\a+4<=b.img.length:=by
 unfold inE at d;cases e:tL a b.pl with
 |none=>rw[e]at d;cases d|some p=>
  rw[e]at d;simp only[Option.any_some,mM,dQ]at d;obtain⟨g,f⟩:=zS1 e;obtain⟨i,j,k⟩:=zo5.1 f;have:=zb2 (zb4 h).2.2 p g;omega
theorem xw7{b:Bin}(h:nP b=true)(S:List Int)(a:Int):BO b (bmU b.img.length S) a=mG b.pl S a:=by
 unfold BO mG;rcases fQ (inE b.pl a)with d|d
 ·obtain⟨e,f⟩:=QS h d;obtain⟨n,rfl⟩:∃n:Nat,a=n:=⟨a.toNat,by omega⟩;rw[d,qV,yr6 (by omega),Bool.not_not]
 ·rw[d];rfl
theorem yc9{G:Gam}(i:G Fn.ah=some (.gen uI)){b:Bin}(m:oQ b=true)(g:nP b=true)(S:List Int){a:Int}(j:lT a=true)(f:aA):dE G Fn.ah [.n a,.ptr 0 0,.ptr 2 0] (WH b.cells (bmU b.img.length S)++f)=some (.bool (mG b.pl S a),if mG b.pl S a then WH b.cells (bmU b.img.length (S++[a]))++f else WH b.cells (bmU b.img.length S)++f):=by
 rw[mA i];have e:uI [.n a,.ptr 0 0,.ptr 2 0] (WH b.cells (bmU b.img.length S)++f)=some (.bool (BO b (bmU b.img.length S) a),if BO b (bmU b.img.length S) a then(WH b.cells (bmU b.img.length S)++f).set 1 (.arr 1 0 (dR (iX (bmU b.img.length S) a.toNat 4)) true)else WH b.cells (bmU b.img.length S)++f):=by
  simp only[uI,WH,qW,wL,oG,DR,PU];rw[if_pos ⟨m,g,j,by simp,by simp⟩]
 rw[e,xw7 g];rcases fQ (mG b.pl S a)with d|d
 ·have k:inE b.pl a=true:=by unfold mG at d;rw[bR]at d;exact d.1
  obtain⟨o,p⟩:=QS g k;obtain⟨n,rfl⟩:∃n:Nat,a=n:=⟨a.toNat,by omega⟩;rw[d,qV,yr5];simp
 ·rw[d];simp
theorem UU{G:Gam}(e:G Fn.b0=some (.pure wF)){s:Bs}{a:Int}(d:0<=a)(g:a+4<=s.length)(i:s.length<=1000000)(f:Bool)(h:aA):opV G f h (.call Fn.b0) (some [.str s,.n a])=some (.n (vU s a.toNat),h):=cU e (us:=[.str s,.n a]) rfl (by simp only[wF];rw[if_pos ⟨d,by omega,by unfold big;omega⟩]) (.inl rfl)
theorem yg4{a:List AV}{d:List Bool}{e:List (Nat×AV)}{f:aA}(i:cQ 3 e=true)(g:∀n,bA n a=true):trunc 3 e (WH a d++f)=WH a d:=yE (a:=WH a d) (b:=f) rfl i (by simp[bG,gR,bA,low,g 3])
theorem zy5{G T:Gam}(hT:G Fn.ah=some (.gen uI))(Z:G Fn.b0=some (.pure wF))(hC:G Fn.bx=some (.gen (bO (nX true 5 T))))(h1:T Fn.b1=some (.gen (bO CW)))(b:Bin)(a2:oQ b=true)(a3:nP b=true)(R:Bool)(X:Bool){ks:List MK}(hk:R=X->∀d1,exM G .normal ks (aJ Rs.ae (.bool R)) d1 [(0,.agg b.cells),(1,.ptr 0 0),(2,.F),(3,.ptr 2 0),(4,.fn Fn.ah [.ptr 0 0,.ptr 2 0]),(5,.junk),(6,.junk),(7,.junk),(8,.junk),(9,.junk),(16,.sl (fW b.fx)),(17,.n b.fx.length),(18,.n b.fx.length),(52,.junk),(53,.junk),(54,.junk)] (WH b.cells (bmU b.img.length b.fx))):∀(P:List Int)(i:Nat),b.fx.drop i=P->i<=b.fx.length->R=(fxP b (b.fx.take i) P&&X)->cY G [5,6,7] Mc.ae_L0 3 (.blk 0::ks) (aJ Rs.ae (.bool R)) [(0,.agg b.cells),(1,.ptr 0 0),(2,.F),(3,.ptr 2 0),(4,.fn Fn.ah [.ptr 0 0,.ptr 2 0]),(5,.junk),(6,.junk),(7,.junk),(8,.junk),(9,.junk),(16,.sl (fW b.fx)),(17,.n b.fx.length),(18,.n i),(52,.junk),(53,.junk),(54,.junk)] (WH b.cells (bmU b.img.length (b.fx.take i)))
 |[],i,hd,hi,d=>by
  have f3:=drop_nil hd;have ei:i=b.fx.length:=by omega
  subst ei;rw[zJ]at d⊢;simp only[fxP,gH]at d;have e1:=hk d;refine bQ (Mc.ae_L0.eq_1) ?_;rw[eJ (n:=3) rfl];generalize WH b.cells (bmU b.img.length b.fx)=H at*;simp;exact e1 _|a::P,i,hd,hi,d=>by
  obtain⟨g1,hx,f1⟩:=lG hd;have E:=AR a2;have ha:=E.fx a (gJ hx);have hb:=E.fxl;have g2:=(LN E.p).1;have q:ltB (i:Int) (b.fx.length:Int)=true:=cH.2 (by omega);have hw:=iJ (i:=i) (by unfold big;omega);have r1:=zy4 hx;have s:∀h,bN 1 h (.sl (fW b.fx)) (.n (i:Int))=some (.fptr [.n a] 0):=fun h=>by simp[bN,r1,iE]
  have v:∀h x,aB 1 false h (.fptr [.n x] 0)=some (.n x):=fun h x=>by simp[aB,cut,aD]
  obtain⟨S,L⟩:∃S,S=b.fx.take i:=⟨_,rfl⟩;rw[<-L]at d⊢;have d3:b.fx.take (i+1)=S++[a]:=by rw[List.take_add_one,hx,L];rfl
  have ih:=zy5 hT Z hC h1 b a2 a3 R X hk P (i+1) f1 (by omega);rw[d3]at ih;have f:=yc9 (G:=G) hT a2 a3 S ha [];simp only[iR]at f;have ge:∀e(g:aA),aB 1 false (WH b.cells e++g) (.ptr 0 4)=some (.sl (fW b.fx)):=fun e g=>bT (l:=0) rfl rfl;have gi:∀e(g:aA),aB 1 false (WH b.cells e++g) (.ptr 0 2)=some (.str b.img):=fun e g=>bT (l:=0) rfl rfl;have gp:∀e(g:aA),aB 1 false (WH b.cells e++g) (.ptr 0 3)=some (.sl (dM b.pl)):=fun e g=>bT (l:=0) rfl rfl;rw[fxP]at d;have c1:=OR b;have fin:∀e(V:List (Nat×AV))(g:aA),cQ 3 V=true->trunc 3 V (WH b.cells e++g)=WH b.cells e:=fun e V g hf=>yg4 hf c1;have b2:∀(e:List Bool)(n:Int),opV G false (WH b.cells e++[.cells [.n n]]) (.call Fn.bx) (some [.sl (dM b.pl),.fn Fn.b1 [.ptr 3 0]])=some (.bool (b.pl.any (fun p=>p.pos==n)),WH b.cells e++[.cells [.n n]]):=fun e n=>XC (G0:=T) (xs:=b.pl) (e:=Plc.row) (val:=fun d2=>.agg d2.row) (agg:=true) (n:=5) hC (by unfold big;omega) ZQ fun f2 hg=>by
    refine DI ?_;simp only[dE,h1,bO,CW,PO,WH,qW,jU,wL,oG];rfl
  have c2:mG b.pl S a=true->0<=a/\a+4<=b.img.length:=fun k=>by unfold mG at k;rw[bR]at k;exact QS a3 k.1
  have b1:∀e m,opV G m (WH b.cells e) (.alloc [.n 0]) (some [])=some (.ptr 3 0,WH b.cells e++[.cells [.n 0]]):=fun e m=>by rw[fG rfl];rfl
  have c3:∀e n,bB 1 (WH b.cells e++[.cells [.n 0]]) (.ptr 3 0) (.n n)=some (WH b.cells e++[.cells [.n n]]):=fun e n=>by simp[bB,bF]
  have K:=fun e=>ge e [];have W:=fun e=>gi e [];simp only[iR]at K W;refine bQ (Mc.ae_L0.eq_1) ?_;rw[eJ (n:=3) rfl];have b3:=c1 3;have e2:(i=0/\S.getLast?.any (fun l=>!ltB l a)=false)\/∃j l,i=j+1/\b.fx[j]?=some l/\S.getLast?.any (fun l=>!ltB l a)=!ltB l a:=by cases i with
   |zero=>left;refine⟨rfl,?_⟩;rw[L];rfl|succ j=>
    right;have M:j<b.fx.length:=by omega
    refine⟨j,b.fx[j],rfl,gI M,?_⟩;rw[L,List.getLast?_take];simp[gI M]
  generalize hR:fW b.fx=RF at*;generalize dM b.pl=RP at*;rcases e2 with⟨rfl,hp⟩|⟨j,l,rfl,M,hp⟩
  ·rw[hp]at d;simp only[lA,gH]at d;simp only[Int.natCast_zero]at q s hw⊢;have w1:IntKind.i64.wrap 1=1:=rfl;rcases fQ (mG b.pl S a)with k|k
   ·obtain⟨Y,h4⟩:=c2 k;rw[k]at f d;simp only[gH,aM]at f d;have B:=fun m h=>UU (G:=G) Z Y h4 E.img m h;generalize e3:(vU b.img a.toNat:Int)=w at*;have a1:=fun e=>b2 e w;have C:=W (bmU b.img.length (S++[a]));have D:=fun g=>gp (bmU b.img.length (S++[a])) g;have A:=fun m=>b1 (bmU b.img.length (S++[a])) m;have F:=c3 (bmU b.img.length (S++[a])) w;have o:=a1 (bmU b.img.length (S++[a]));have U:=fin (bmU b.img.length (S++[a]));generalize WH b.cells (bmU b.img.length S)=I at*;generalize WH b.cells (bmU b.img.length (S++[a]))=H1 at*;generalize b.cells=J at*;rcases fQ (b.pl.any (fun p=>p.pos==w))with c|c
    ·rw[c]at o d;simp only[gH]at d;simp[q,s,v,f,C,B,A,F,D,o,w1,-aB,-aQ,-iH];refine dT ?_;rw[U _ _ (by simp[cQ,low,bA,b3])];simpa using ih d
    ·rw[c]at o d;simp only[iB]at d;subst d;simp[q,s,v,f,C,B,A,F,D,o,aJ,Rs.ae,-aB,-aQ,-iH]
   ·rw[k]at f d;simp only[iB]at d;simp only[bM,bH]at f;subst d;generalize WH b.cells (bmU b.img.length S)=I at*;generalize b.cells=J at*;simp[q,s,v,f,aJ,Rs.ae,-aB,-aQ,-iH]
  ·have O:ltB 0 ((j:Int)+1)=true:=cH.2 (by omega);have Q:IntKind.i64.wrap (j:Int)=j:=i64_in _ ⟨by omega,by omega⟩;have r2:=zy4 M;rw[hR]at r2;have N:∀h,bN 1 h (.sl RF) (.n (j:Int))=some (.fptr [.n l] 0):=fun h=>by simp[bN,r2,iE]
   simp only[Int.natCast_add,Int.natCast_one]at s q hw⊢;rw[hp]at d;rcases fQ (ltB l a)with u|u
   ·rw[u]at d;simp only[uK,lA,gH]at d;rcases fQ (mG b.pl S a)with k|k
    ·obtain⟨Y,h4⟩:=c2 k;rw[k]at f d;simp only[gH,aM]at f d;have B:=fun m h=>UU (G:=G) Z Y h4 E.img m h;generalize e3:(vU b.img a.toNat:Int)=w at*;have a1:=fun e=>b2 e w;have y:=K (bmU b.img.length S);have C:=W (bmU b.img.length (S++[a]));have D:=fun g=>gp (bmU b.img.length (S++[a])) g;have A:=fun m=>b1 (bmU b.img.length (S++[a])) m;have F:=c3 (bmU b.img.length (S++[a])) w;have o:=a1 (bmU b.img.length (S++[a]));have U:=fin (bmU b.img.length (S++[a]));generalize WH b.cells (bmU b.img.length S)=I at*;generalize WH b.cells (bmU b.img.length (S++[a]))=H1 at*;generalize b.cells=J at*;rcases fQ (b.pl.any (fun p=>p.pos==w))with c|c
     ·rw[c]at o d;simp only[gH]at d;simp[q,s,v,O,Q,y,N,u,f,C,B,A,F,D,o,hw,-aB,-aQ,-iH];refine dT ?_;rw[U _ _ (by simp[cQ,low,bA,b3])];simpa using ih d
     ·rw[c]at o d;simp only[iB]at d;subst d;simp[q,s,v,O,Q,y,N,u,f,C,B,A,F,D,o,aJ,Rs.ae,-aB,-aQ,-iH]
    ·rw[k]at f d;simp only[iB]at d;simp only[bM,bH]at f;subst d;have y:=K (bmU b.img.length S);generalize WH b.cells (bmU b.img.length S)=I at*;generalize b.cells=J at*;simp[q,s,v,O,Q,y,N,u,f,aJ,Rs.ae,-aB,-aQ,-iH]
   ·rw[u]at d;simp only[uK,lA,iB]at d;subst d;have y:=K (bmU b.img.length S);generalize WH b.cells (bmU b.img.length S)=I at*;generalize b.cells=J at*;simp[q,s,v,O,Q,y,N,u,aJ,Rs.ae,-aB,-aQ,-iH]
theorem kA{G:Gam}{s:Bool}{h:aA}{f:FuncId}{d a:List AV}:opV G s h .callv (some (.fn f d::a))=dE G f (a++d) h:=by cases s<;>rfl
theorem yr8{G:Gam}(a:G Fn.a1=some (.pure sE)){s:Bs}(e:s.length<=100000)(d:Bool)(h:aA):opV G d h (.call Fn.a1) (some [.str s])=some (.bool (eH s),h):=cU a (us:=[.str s]) rfl (by simp only[sE];rw[if_pos (by omega)]) (.inl rfl)
theorem zH1{G:Gam}(hT:G Fn.ah=some (.gen uI))(Z:G Fn.b0=some (.pure wF))(hP:G Fn.a1=some (.pure sE))(hN:G Fn.a0=some (.pure qU))(b:Bin)(b1:oQ b=true)(b2:nP b=true)(R:Bool)(b3 d1 d2:AV)(a1:low 3 b3=true)(a2:low 3 d1=true)(a3:low 3 d2=true):∀(W:List Imp)(i:Nat)(T:List Int),b.im.drop i=W->i<=b.im.length->T=(b.im.take i).map Imp.pos->R=imP b T W->cY G [8,9] Mc.ae_L1 3 [.blk 2,.seq (.seq (.reg [Kb 2 true]) .ret)] (aJ Rs.ae (.bool R)) [(0,.agg b.cells),(1,.ptr 0 0),(2,.F),(3,.ptr 2 0),(4,.fn Fn.ah [.ptr 0 0,.ptr 2 0]),(5,.junk),(6,.junk),(7,.junk),(8,.junk),(9,.junk),(16,b3),(17,d1),(18,d2),(52,.sl (gQ b.im)),(53,.n b.im.length),(54,.n i)] (WH b.cells (bmU b.img.length (b.fx++T)))
 |[],i,T,hd,hi,S,a=>by
  have i3:=drop_nil hd;have ei:i=b.im.length:=by omega
  subst ei;simp only[imP]at a;subst a;refine bQ (Mc.ae_L1.eq_1) ?_;rw[eJ (n:=3) rfl];generalize WH b.cells (bmU b.img.length (b.fx++T))=H at*;simp[aJ,Rs.ae]|x::W,i,T,hd,hi,S,a=>by
  obtain⟨j1,hx,i1⟩:=lG hd;have V:=AR b1;obtain⟨xl,xs,xp⟩:=V.im x (gJ hx);have hb:=V.iml;have q:ltB (i:Int) (b.im.length:Int)=true:=cH.2 (by omega);have hw:=iJ (i:=i) (by unfold big;omega);have r1:=zH0 hx;have h1:x.row.length=3:=rfl;have k:∀h,bN 3 h (.sl (gQ b.im)) (.n (i:Int))=some (.fptr x.row 0):=fun h=>by simp[bN,r1,h1]
  have p:∀h,aB 3 true h (.fptr x.row 0)=some (.agg x.row):=fun h=>by simp[aB,cut,aD,Imp.row]
  have f3:T++[x.pos]=(b.im.take (i+1)).map Imp.pos:=by rw[List.take_add_one,hx,S];simp
  have ih:=zH1 hT Z hP hN b b1 b2 R b3 d1 d2 a1 a2 a3 W (i+1) (T++[x.pos]) i1 (by omega) f3;have e:=yc9 (G:=G) hT b1 b2 (b.fx++T) xp [.cells x.row];rw[jT]at e;have ge:∀d(D:aA),aB 1 false (WH b.cells d++D) (.ptr 0 5)=some (.sl (gQ b.im)):=fun d D=>bT (l:=0) rfl rfl;have gi:∀d(D:aA),aB 1 false (WH b.cells d++D) (.ptr 0 2)=some (.str b.img):=fun d D=>bT (l:=0) rfl rfl;have g0:∀d,aB 1 false (WH b.cells d++[.cells x.row]) (.ptr 3 0)=some (.str x.lib):=fun d=>bT (l:=3) rfl rfl;have g1:∀d,aB 1 false (WH b.cells d++[.cells x.row]) (.ptr 3 1)=some (.str x.sym):=fun d=>bT (l:=3) rfl rfl;have g2:∀d,aB 1 false (WH b.cells d++[.cells x.row]) (.ptr 3 2)=some (.n x.pos):=fun d=>bT (l:=3) rfl rfl;rw[imP]at a;have e2:=OR b;have fin:∀d(X:List (Nat×AV))(D:aA),cQ 3 X=true->trunc 3 X (WH b.cells d++D)=WH b.cells d:=fun d X D hf=>yg4 hf e2;have e3:mG b.pl (b.fx++T) x.pos=true->0<=x.pos/\x.pos+4<=b.img.length:=fun g=>by unfold mG at g;rw[bR]at g;exact QS b2 g.1
  have f1:∀d m,opV G m (WH b.cells d) (.alloc [.str [],.str [],.n 0]) (some [])=some (.ptr 3 0,WH b.cells d++[.cells [.str [],.str [],.n 0]]):=fun d m=>by rw[fG rfl];rfl
  have i2:∀d,bB 3 (WH b.cells d++[.cells [.str [],.str [],.n 0]]) (.ptr 3 0) (.agg x.row)=some (WH b.cells d++[.cells x.row]):=fun d=>by simp[bB,bF,Imp.row]
  have u:=fun m h=>yr8 (G:=G) hP xl m h;have A:=fun m h=>zf6 (G:=G) hN xs m h;refine bQ (Mc.ae_L1.eq_1) ?_;rw[eJ (n:=3) rfl];have e1:=e2 3;have g3:(i=0/\T.getLast?.any (fun l=>!ltB l x.pos)=false)\/∃j y,i=j+1/\b.im[j]?=some y/\T.getLast?.any (fun l=>!ltB l x.pos)=!ltB y.pos x.pos:=by cases i with
   |zero=>left;refine⟨rfl,?_⟩;rw[S];rfl|succ j=>
    right;have U:j<b.im.length:=by omega
    refine⟨j,b.im[j],rfl,gI U,?_⟩;rw[S,List.getLast?_map,List.getLast?_take];simp[gI U]
  generalize hR:gQ b.im=RF at*;have n:=fun m=>f1 (bmU b.img.length (b.fx++T)) m;have s:=i2 (bmU b.img.length (b.fx++T));have o:=g2 (bmU b.img.length (b.fx++T));have I:=ge (bmU b.img.length (b.fx++T)) [.cells x.row];have C:=g2 (bmU b.img.length (b.fx++(T++[x.pos])));have Q:=g1 (bmU b.img.length (b.fx++(T++[x.pos])));have J:=g0 (bmU b.img.length (b.fx++(T++[x.pos])));have B:=gi (bmU b.img.length (b.fx++(T++[x.pos]))) [.cells x.row];have d3:=fin (bmU b.img.length (b.fx++(T++[x.pos])));rcases g3 with⟨rfl,hp⟩|⟨j,y,rfl,U,hp⟩
  ·rw[hp]at a;simp only[lA,gH]at a;simp only[Int.natCast_zero]at q k hw⊢;have w1:IntKind.i64.wrap 1=1:=rfl;rcases fQ (mG b.pl (b.fx++T) x.pos)with g|g
   ·obtain⟨Y,h4⟩:=e3 g;rw[g]at e a;simp only[gH,aM]at e a;have w:=fun m h=>UU (G:=G) Z Y h4 V.img m h;generalize h3:(vU b.img x.pos.toNat:Int)=wn at*;generalize f2:WH b.cells (bmU b.img.length (b.fx++(T++[x.pos])))=H1 at*;generalize WH b.cells (bmU b.img.length (b.fx++T))=O at*;generalize b.cells=P at*;rcases fQ (eqB wn 0)with f|f
    ·rw[f]at a;simp only[gH]at a;rcases fQ (eH x.lib)with E|E
     ·rw[E]at a u;simp only[gH]at a;rcases fQ (nK x.sym)with F|F
      ·rw[F]at a A;simp only[gH]at a;simp[q,k,p,n,s,o,kA,e,B,C,Q,J,w,f,u,A,w1,-aB,-aQ,-iH];refine dT ?_;rw[d3 _ _ (by simp[cQ,low,bA,e1,a1,a2,a3])];simpa using ih a
      ·rw[F]at a A;simp only[iB]at a;subst a;simp[q,k,p,n,s,o,kA,e,B,C,Q,J,w,f,u,A,aJ,Rs.ae,-aB,-aQ,-iH]
     ·rw[E]at a u;simp only[iB]at a;subst a;simp[q,k,p,n,s,o,kA,e,B,C,J,w,f,u,aJ,Rs.ae,-aB,-aQ,-iH]
    ·rw[f]at a;simp only[iB]at a;subst a;simp[q,k,p,n,s,o,kA,e,B,C,w,f,aJ,Rs.ae,-aB,-aQ,-iH]
   ·rw[g]at e a;simp only[iB]at a;simp only[bM,bH]at e;subst a;generalize WH b.cells (bmU b.img.length (b.fx++T))=O at*;generalize b.cells=P at*;simp[q,k,p,n,s,o,kA,e,aJ,Rs.ae,-aB,-aQ,-iH]
  ·have M:ltB 0 ((j:Int)+1)=true:=cH.2 (by omega);have N:IntKind.i64.wrap (j:Int)=j:=i64_in _ ⟨by omega,by omega⟩;have r2:=zH0 U;rw[hR]at r2;have h2:y.row.length=3:=rfl;have K:∀h,bN 3 h (.sl RF) (.n (j:Int))=some (.fptr y.row 0):=fun h=>by simp[bN,r2,h2]
   have L:∀h,aB 1 false h (.fptr y.row 2)=some (.n y.pos):=fun h=>by simp[aB,cut,aD,Imp.row]
   simp only[Int.natCast_add,Int.natCast_one]at k q hw⊢;rw[hp]at a;rcases fQ (ltB y.pos x.pos)with v|v
   ·rw[v]at a;simp only[uK,lA,gH]at a;rcases fQ (mG b.pl (b.fx++T) x.pos)with g|g
    ·obtain⟨Y,h4⟩:=e3 g;rw[g]at e a;simp only[gH,aM]at e a;have w:=fun m h=>UU (G:=G) Z Y h4 V.img m h;generalize h3:(vU b.img x.pos.toNat:Int)=wn at*;generalize f2:WH b.cells (bmU b.img.length (b.fx++(T++[x.pos])))=H1 at*;generalize WH b.cells (bmU b.img.length (b.fx++T))=O at*;generalize b.cells=P at*;rcases fQ (eqB wn 0)with f|f
     ·rw[f]at a;simp only[gH]at a;rcases fQ (eH x.lib)with E|E
      ·rw[E]at a u;simp only[gH]at a;rcases fQ (nK x.sym)with F|F
       ·rw[F]at a A;simp only[gH]at a;simp[q,k,p,n,s,o,I,M,N,K,L,v,kA,e,B,C,Q,J,w,f,u,A,hw,-aB,-aQ,-iH];refine dT ?_;rw[d3 _ _ (by simp[cQ,low,bA,e1,a1,a2,a3])];simpa using ih a
       ·rw[F]at a A;simp only[iB]at a;subst a;simp[q,k,p,n,s,o,I,M,N,K,L,v,kA,e,B,C,Q,J,w,f,u,A,aJ,Rs.ae,-aB,-aQ,-iH]
      ·rw[E]at a u;simp only[iB]at a;subst a;simp[q,k,p,n,s,o,I,M,N,K,L,v,kA,e,B,C,J,w,f,u,aJ,Rs.ae,-aB,-aQ,-iH]
     ·rw[f]at a;simp only[iB]at a;subst a;simp[q,k,p,n,s,o,I,M,N,K,L,v,kA,e,B,C,w,f,aJ,Rs.ae,-aB,-aQ,-iH]
    ·rw[g]at e a;simp only[iB]at a;simp only[bM,bH]at e;subst a;generalize WH b.cells (bmU b.img.length (b.fx++T))=O at*;generalize b.cells=P at*;simp[q,k,p,n,s,o,I,M,N,K,L,v,kA,e,aJ,Rs.ae,-aB,-aQ,-iH]
   ·rw[v]at a;simp only[uK,lA,iB]at a;subst a;generalize WH b.cells (bmU b.img.length (b.fx++T))=O at*;generalize b.cells=P at*;simp[q,k,p,n,s,o,I,M,N,K,L,v,aJ,Rs.ae,-aB,-aQ,-iH]
def ID:List AV->Option AV
 |[.agg a]=>match sW a with
  |some b=>if oQ b=true/\nP b=true then some (.bool (GU b))else none|none=>none
 |_=>none
theorem xG1{G G0:Gam}(j:G Fn.ah=some (.gen uI))(k:G Fn.b0=some (.pure wF))(B:G Fn.a1=some (.pure sE))(y:G Fn.a0=some (.pure qU))(w:G Fn.bx=some (.gen (bO (nX true 5 G0))))(v:G0 Fn.b1=some (.gen (bO CW))):PW G Mc.ae Rs.ae Ks.ae ID:=by
 intro X r a;unfold ID at a;split at a
 ·rename_i i;split at a
  ·rename_i b D;split at a
   ·rename_i J;injection a with a;subst a;obtain⟨g,m⟩:=J;obtain rfl:i=b.cells:=DS D;have M:=AR g;have a1:=M.img;have o:=zH1 (G:=G) j k B y b g m (GU b) (.sl (fW b.fx)) (.n b.fx.length) (.n b.fx.length) rfl rfl rfl b.im 0 [] rfl (by omega) rfl;have O:∀e(d:aA),aB 1 false (WH b.cells e++d) (.ptr 0 5)=some (.sl (gQ b.im)):=fun e d=>bT (l:=0) rfl rfl;have N:∀e(d:aA),aB 1 false (WH b.cells e++d) (.ptr 0 4)=some (.sl (fW b.fx)):=fun e d=>bT (l:=0) rfl rfl;have F:(gQ b.im).length=b.im.length:=by simp
    have E:(fW b.fx).length=b.fx.length:=by simp
    have q:=O (bmU b.img.length b.fx) [];have p:=N (bmU b.img.length []) [];have n:=fun I=>zy5 (G:=G) j k w v b g m (GU b) (imP b [] b.im) (ks:=[.seq (.seq (.seq (.reg [zf 51 5 1,Kl 52 51,Kn 53 1 52,Kc 54 0]) (.blk 2 (.loop [8,9] Mc.ae_L1))) (.seq (.reg [Kb 2 true]) .ret))]) I b.fx 0 rfl (by omega) rfl;have Q:=fun f=>JD (G:=G) b f;have u:∀d:aA,aB 1 false (.cells b.cells::d) (.ptr 0 2)=some (.str b.img):=fun d=>bT (l:=0) rfl rfl;have P:∀f,opV G f [.cells b.cells] (.mksl [.F] 1) (some [.n (b.img.length:Nat),.n (b.img.length:Nat)])=some (.own 1 0 b.img.length,[.cells b.cells,.arr 1 0 (dR (bmU b.img.length [])) true]):=fun f=>by
     rw[za1 (by unfold dJ;omega) (by unfold dJ;omega),yr4];simp[dR,List.map_replicate]
    have s:[Blk.cells b.cells,.arr 1 0 (dR (bmU b.img.length [])) true,.cells [.own 1 0 b.img.length]]=WH b.cells (bmU b.img.length []):=by simp[WH]
    have S:bB 1 [Blk.cells b.cells,.arr 1 0 (dR (bmU b.img.length [])) true,.cells [.nils]] (.ptr 2 0) (.own 1 0 b.img.length)=some (WH b.cells (bmU b.img.length [])):=by rw[<-s];simp[bB,bF]
    rw[aT];have K:(WH b.cells (bmU b.img.length [])).length=3:=rfl;have L:(WH b.cells (bmU b.img.length b.fx)).length=3:=rfl;simp only[iR]at q p o;rw[List.take_zero]at n;generalize Z:dR (bmU b.img.length [])=A at*;generalize WH b.cells (bmU b.img.length [])=T at*;generalize WH b.cells (bmU b.img.length b.fx)=U at*;generalize b.cells=i at*;generalize gQ b.im=W at*;generalize fW b.fx=V at*;simp[Mc.ae,Ks.ae,aC,Q,u,aW,P,S,p,E,K,-aB,-aQ];refine n fun C Y=>?_;simp[q,aW,F,L,-aB];simpa using o C
   ·cases a
  ·cases a
 ·cases a
theorem WD(b:Bin)(h:aA):cV h [.agg b.cells]=some [.agg b.cells]:=by simp[cV,view,Bin.cells]
theorem yq5{b:Bin}(a:aA):aB 8 true (.cells b.cells::a) (.ptr 0 0)=some (.agg b.cells):=by simp[aB,cut,aD,Bin.cells]
theorem zO6{α:Type}(l:List α):eqB (l.length:Int) 0=l.isEmpty:=by cases l with
 |nil=>rfl|cons _ r=>exact gM.2 (by simp;omega)
def BR:List AV->Option AV
 |[.agg a]=>match sW a with
  |some b=>if oQ b=true then some (.n (oM b))else none|none=>none
 |_=>none
theorem yh5{G:Gam}(O:G Fn.ak=some (.pure HP))(P:G Fn.ae=some (.pure ID))(N:G Fn.bi=some (.pure HM))(Q:G Fn.a6=some (.pure HJ)):PW G Mc.ab Rs.ab Ks.ab BR:=by
 intro a1 r m;unfold BR at m;split at m
 ·rename_i u;split at m
  ·rename_i b S;split at m
   ·rename_i v;injection m with m;subst m;obtain rfl:u=b.cells:=DS S;have J:=AR v;have j:=fun f=>JD (G:=G) b f;have i:=yq5 (b:=b) [];have d:∀f h,opV G f h (.call Fn.ak) (some [.agg b.cells])=some (.bool (nP b),h):=fun f h=>cU O (us:=[.agg b.cells]) (WD b h) (by simp only[HP,DR];rw[if_pos v]) (.inl rfl);have F:∀f h,opV G f h (.call Fn.a6) (some [.agg b.cells])=some (.bool (exP b.pl none b.ex),h):=fun f h=>cU Q (us:=[.agg b.cells]) (WD b h) (by simp only[HJ,DR];rw[if_pos v]) (.inl rfl);have g:∀f h,opV G f h (.call Fn.bi) (some [.sl (iU b.nt)])=some (.bool (vE [] b.nt&&!ltB 64 b.nt.length),h):=fun f h=>cU N (us:=[.sl (iU b.nt)]) rfl (by
     simp only[HM,yD7];rw[if_pos];unfold ntS;simp only[bR,fD,fK];exact⟨J.ntl,J.nt⟩) (.inl rfl);have n:∀a:aA,aB 1 false (.cells b.cells::a) (.ptr 0 0)=some (.n b.kind):=fun a=>bT (l:=0) rfl rfl;have o:∀a:aA,aB 1 false (.cells b.cells::a) (.ptr 0 1)=some (.n b.entry):=fun a=>bT (l:=0) rfl rfl;have A:∀a:aA,aB 1 false (.cells b.cells::a) (.ptr 0 3)=some (.sl (dM b.pl)):=fun a=>bT (l:=0) rfl rfl;have B:∀a:aA,aB 1 false (.cells b.cells::a) (.ptr 0 5)=some (.sl (gQ b.im)):=fun a=>bT (l:=0) rfl rfl;have I:∀a:aA,aB 1 false (.cells b.cells::a) (.ptr 0 6)=some (.sl (gZ b.ex)):=fun a=>bT (l:=0) rfl rfl;have k:∀a:aA,aB 1 false (.cells b.cells::a) (.ptr 0 7)=some (.sl (iU b.nt)):=fun a=>bT (l:=0) rfl rfl;rw[aT];unfold oM zq8;rcases fQ (nP b)with q|q
    ·have e:∀f h,opV G f h (.call Fn.ae) (some [.agg b.cells])=some (.bool (GU b),h):=fun f h=>cU P (us:=[.agg b.cells]) (WD b h) (by simp only[ID,DR];rw[if_pos ⟨v,q⟩]) (.inl rfl);rw[q]at d⊢;rcases fQ (GU b)with w|w
     ·rw[w]at e⊢;rcases fQ (vE [] b.nt&&!ltB 64 (b.nt.length:Nat))with s|s
      ·rw[s]at g;have y:=s;rw[bR]at y;rw[y.1,y.2];obtain⟨p,r,K⟩:∃p r,b.pl=p::r:=by
        have:=(zb4 q).1.1;cases h:b.pl with
        |nil=>rw[h]at this;simp at this|cons p r=>exact⟨p,r,rfl⟩
       have U:dM b.pl=p.row::dM r:=by rw[K];rfl
       have V:p.row.length=5:=rfl;have D:∀h,bN 5 h (.sl (dM b.pl)) (.n 0)=some (.fptr p.row 0):=fun h=>by rw[U];simp[bN,V]
       have C:∀h,aB 1 false h (.fptr p.row 2)=some (.n p.kd):=fun h=>by simp[aB,cut,aD,Plc.row]
       have T:(b.pl.head?.any fun p=>eqB p.kd 1)=eqB p.kd 1:=by rw[K];rfl
       rw[T,<-zO6,<-zO6];have L:((gZ b.ex).length:Int)=(b.ex.length:Int):=by simp
       have E:((gQ b.im).length:Int)=(b.im.length:Int):=by simp
       generalize dM b.pl=Z at*;generalize gQ b.im=Y at*;generalize gZ b.ex=RX at*;generalize iU b.nt=M at*;generalize b.cells=u at*;generalize exP b.pl none b.ex=X at*;generalize(b.ex.length:Int)=W at*;generalize(b.im.length:Int)=nm at*;rcases fQ (eqB b.kind 1)with k1|k1
       ·have k2:eqB b.kind 2=false:=by rw[kQ]at k1;exact gM.2 (by omega)
        rw[k1,k2];rcases fQ (eqB b.entry 0)with k3|k3
        ·rw[k3];rcases fQ (eqB p.kd 1)with k4|k4
         ·rw[k4];rcases fQ (eqB W 0)with k5|k5;·simp[Mc.ab,Ks.ab,aC,j,i,d,e,g,n,o,A,I,k,D,C,aW,L,k1,k3,k4,k5,aJ,Rs.ab,-aB]
          ·simp[Mc.ab,Ks.ab,aC,j,i,d,e,g,n,o,A,I,k,D,C,aW,L,k1,k2,k3,k4,k5,aJ,Rs.ab,-aB]
         ·rw[k4];simp[Mc.ab,Ks.ab,aC,j,i,d,e,g,n,o,A,k,D,C,k1,k2,k3,k4,aJ,Rs.ab,-aB]
        ·rw[k3];simp[Mc.ab,Ks.ab,aC,j,i,d,e,g,n,o,k,k1,k2,k3,aJ,Rs.ab,-aB]
       ·rw[k1];rcases fQ (eqB b.kind 2)with k2|k2
        ·rw[k2];rcases fQ (eqB b.entry (-1))with k3|k3
         ·rw[k3];rcases fQ (eqB nm 0)with k4|k4
          ·rw[k4];cases X with
           |true=>simp[Mc.ab,Ks.ab,aC,j,i,d,e,g,n,o,B,k,aW,E,F,k1,k2,k3,k4,aJ,Rs.ab,-aB]|false=>simp[Mc.ab,Ks.ab,aC,j,i,d,e,g,n,o,B,k,aW,E,F,k1,k2,k3,k4,aJ,Rs.ab,-aB]
          ·rw[k4];simp[Mc.ab,Ks.ab,aC,j,i,d,e,g,n,o,B,k,aW,E,k1,k2,k3,k4,aJ,Rs.ab,-aB]
         ·rw[k3];simp[Mc.ab,Ks.ab,aC,j,i,d,e,g,n,o,k,k1,k2,k3,aJ,Rs.ab,-aB]
        ·rw[k2];simp[Mc.ab,Ks.ab,aC,j,i,d,e,g,n,k,k1,k2,aJ,Rs.ab,-aB]
      ·rw[s]at g;have:(true&&true&&vE [] b.nt&&!ltB 64 (b.nt.length:Nat))=false:=by rw[gH,gH,s]
       rw[this,iB];generalize b.cells=u at*;generalize iU b.nt=M at*;simp[Mc.ab,Ks.ab,aC,j,i,d,e,g,k,aJ,Rs.ab,-aB]
     ·rw[w]at e⊢;simp only[Bool.and_false,iB,bM,bH];generalize b.cells=u at*;simp[Mc.ab,Ks.ab,aC,j,i,d,e,aJ,Rs.ab,-aB]
    ·rw[q]at d⊢;simp only[iB,bM,bH];generalize b.cells=u at*;simp[Mc.ab,Ks.ab,aC,j,i,d,aJ,Rs.ab,-aB]
   ·cases m
  ·cases m
 ·cases m
def bK{α:Type}(one:Rd->α×Rd):Nat->Rd->List α×Rd
 |0,r=>([],r)|n+1,r=>if r.err≠0 then([],r)else((one r).1::(bK one n (one r).2).1,(bK one n (one r).2).2)
def bJ{α:Type}(one:Rd->α×Rd)(r:Rd):List α×Rd:=bK one (rdNum 0 65536 r).1.toNat (rdNum 0 65536 r).2
structure Codes{α:Type}(one:Rd->α×Rd)(enc:α->Bs)(ok:α->Prop):Prop where
 back:∀x s,ok x->one ⟨enc x++s,0⟩=(x,⟨s,0⟩)inv:∀r x r',one r=(x,r')->r'.err=0->r.err=0/\r.rest=enc x++r'.rest
section
variable{α:Type}{one:Rd->α×Rd}{enc:α->Bs}{ok:α->Prop}
end
def eX(a:Int)(r:Rd):Plc×Rd:=(⟨(bZ 65536 r).1,(bZ 65536 (bZ 65536 r).2).1,(rdNum 0 a (bZ 65536 (bZ 65536 r).2).2).1,(rdNum 0 65536 (rdNum 0 a (bZ 65536 (bZ 65536 r).2).2).2).1,(rdNum 0 65536 (rdNum 0 65536 (rdNum 0 a (bZ 65536 (bZ 65536 r).2).2).2).2).1⟩,(rdNum 0 65536 (rdNum 0 65536 (rdNum 0 a (bZ 65536 (bZ 65536 r).2).2).2).2).2)
def fY(r:Rd):Int×Rd:=rdNum 0 65536 r
def fN(r:Rd):Imp×Rd:=(⟨(bZ 65536 r).1,(bZ 65536 (bZ 65536 r).2).1,(rdNum 0 65536 (bZ 65536 (bZ 65536 r).2).2).1⟩,(rdNum 0 65536 (bZ 65536 (bZ 65536 r).2).2).2)
def gB(r:Rd):Expo×Rd:=(⟨(bZ 65536 r).1,(rdNum 0 65536 (bZ 65536 r).2).1⟩,(rdNum 0 65536 (bZ 65536 r).2).2)
def gE(r:Rd):(Bs×Bs)×Rd:=(((bZ 65536 r).1,(bZ 65536 (bZ 65536 r).2).1),(bZ 65536 (bZ 65536 r).2).2)
def inN(n:Int):Prop:=0<=n/\n<=65536
def xe5(a:Int)(p:Plc):Prop:=p.obj.length<=65536/\p.sym.length<=65536/\0<=p.kd/\p.kd<=a/\p.kd<=65536/\inN p.pos/\inN p.siz
def xe1(x:Imp):Prop:=x.lib.length<=65536/\x.sym.length<=65536/\inN x.pos
def xd9(x:Expo):Prop:=x.sym.length<=65536/\inN x.pos
def xe3(n:Bs×Bs):Prop:=n.1.length<=65536/\n.2.length<=65536
def EN:Bs:=[98,105,110,97,114,121]
def rQ(d g a j:Int)(o:Rd):(Bs×Bin)×Rd:=let h:=bZ d o
 let k:=rdNum 0 g h.2
 let e:=rdNum 0 a k.2
 let i:=bZ 65536 e.2
 let p:=bJ (eX j) i.2
 let f:=bJ fY p.2
 let m:=bJ fN f.2
 let x:=bJ gB m.2
 let n:=bJ gE x.2
 ((h.1,⟨k.1,e.1-1,i.1,p.1,f.1,m.1,x.1,n.1⟩),n.2)
def bin0:Bin:=⟨0,0,[],[],[],[],[],[]⟩
def PI(d e a f:Int)(s:Bs):Bin×Int:=if 65536<s.length\/(rQ d e a f ⟨s,0⟩).1.1≠EN\/mZ (rQ d e a f ⟨s,0⟩).2≠0\/oM (rQ d e a f ⟨s,0⟩).1.2≠0 then(bin0,17)else((rQ d e a f ⟨s,0⟩).1.2,0)
structure OkRange(b:Bin):Prop where
 kind:0<=b.kind/\b.kind<=2
 entry:-1<=b.entry/\b.entry<=0
 img:b.img.length<=65536
 plL:b.pl.length<=65536
 pl:∀p∈b.pl,xe5 2 p
 fxL:b.fx.length<=65536
 fx:∀a∈b.fx,inN a
 imL:b.im.length<=65536
 im:∀x∈b.im,xe1 x
 exL:b.ex.length<=65536
 ex:∀x∈b.ex,xd9 x
 ntL:b.nt.length<=65536
 nt:∀x∈b.nt,xe3 x
def BT:List AV->aA->Option AV
 |[.ptr l 0],h=>match h[l]? with
  |some (.cellsT _ [.str s,.n a])=>some (.n (mZ ⟨s,a⟩))|_=>none
 |_,_=>none
theorem yh8{G:Gam}:LW G Mc.be Rs.be Ks.be BT:=by
 intro j h r a;unfold BT at a;split at a
 ·rename_i l;split at a
  ·rename_i tg s g d;injection a with a;subst a;have m:aB 1 false h (.ptr l 1)=some (.n g):=by simp[aB,d,cut,aD]
   have k:aB 1 false h (.ptr l 0)=some (.str s):=by simp[aB,d,cut,aD]
   rw[aT];by_cases i:g=0
   ·subst i;by_cases e:s=[]
    ·have f:bY .neq (.str s) (.str [])=some (.F):=by simp[bY,eC,e]
     simp[Mc.be,aC,Ks.be,d,e,mZ,eQ,Rs.be];try simp[e]at f
     try simp[f]
    ·have f:bY .neq (.str s) (.str [])=some (.T):=by simp[bY,eC,e]
     simp[Mc.be,aC,Ks.be,d,f,mZ,e,eQ,Rs.be]
   ·have q:eqB g 0=false:=gM.2 i;simp[Mc.be,aC,Ks.be,d,q,mZ,i,eQ,Rs.be]
  ·cases a
 ·cases a
def NT:List AV->aA->Option (AV×aA)
 |[.str s],h=>some (.ptr h.length 0,h++[bX none ⟨s,0⟩])|_,_=>none
theorem ym9{G:Gam}:GW G Mc.ci Rs.ci Ks.ci NT:=by
 intro d h r e a;unfold NT at a;split at a
 ·rename_i s;simp only[aE,aR]at a;obtain⟨rfl,rfl⟩:=a;rw[aT];simp[Mc.ci,aC,Ks.ci,eB,AV.cells,bF,bX,eF,Rs.ci]
 ·cases a
section
variable{h x:aA}{l:Nat}{tg:Option TypeId}{r r':Rd}{ts:List Touch}{b c:Blk}{t:Touch}
end
theorem zc0{lo hi:Int}{s:Bs}{e:Int}(a:s.length<=1000000):(rdNum lo hi ⟨s,e⟩).2.rest.length<=1000000:=by
 unfold rdNum;split;·exact a
 ·split
  ·split;·simp
   ·simp;omega
  ·simp
  ·simp
theorem AY{most:Int}{s:Bs}{e:Int}(a:s.length<=1000000):(bZ most ⟨s,e⟩).2.rest.length<=1000000:=by
 unfold bZ;split;·exact a
 ·split
  ·split;·simp
   ·split;·simp
    ·split;·simp
     ·simp;omega
  ·simp
  ·simp
section
variable{G:Gam}{h x:aA}{l:Nat}{tg:Option TypeId}{r:Rd}{ts:List Touch}
end
def nZ:List AV->aA->Option (AV×aA)
 |[.ptr c 0],H=>match(H[c]?:Option Blk)with
  |some (.cellsT _ [.ptr l 0])=>lW [.ptr l 0,.n 0,.n 65536] H|_=>none
 |_,_=>none
def qS:List AV->aA->Option (AV×aA)
 |[.ptr c 0],H=>match(H[c]?:Option Blk)with
  |some (.cellsT _ [.ptr l 0])=>CP [.ptr l 0,.n 65536] H|_=>none
 |_,_=>none
theorem yA5{G:Gam}(f:G Fn.ac=some (.gen lW)):GW G Mc.af Rs.af Ks.af nZ:=by
 intro j h r e a;unfold nZ at a;split at a
 ·rename_i c;split at a
  ·rename_i tg l g;have i:aB 1 false h (.ptr c 0)=some (.ptr l 0):=by simp[aB,g,cut,aD]
   have d:opV G false h (.call Fn.ac) (some [.ptr l 0,.n 0,.n 65536])=some (r,e):=by rw[dV f,a]
   rw[aT];simp[Mc.af,aC,Ks.af,i,d,eF,Rs.af,cZ,eR,fA,-aB]
  ·cases a
 ·cases a
theorem yA6{G:Gam}(f:G Fn.aj=some (.gen CP)):GW G Mc.ag Rs.ag Ks.ag qS:=by
 intro j h r e a;unfold qS at a;split at a
 ·rename_i c;split at a
  ·rename_i tg l g;have i:aB 1 false h (.ptr c 0)=some (.ptr l 0):=by simp[aB,g,cut,aD]
   have d:opV G false h (.call Fn.aj) (some [.ptr l 0,.n 65536])=some (r,e):=by rw[dV f,a]
   rw[aT];simp[Mc.ag,aC,Ks.ag,i,d,eF,Rs.ag,cZ,eR,fA,-aB]
  ·cases a
 ·cases a
theorem JR{G:Gam}(a:G Fn.af=some (.gen nZ)){K:aA}{l c:Nat}{tg tg':Option TypeId}{r:Rd}(d:K[c]?=some (.cellsT tg' [.ptr l 0]))(e:K[l]?=some (bX tg r))(f:r.rest.length<=1000000):dE G Fn.af [.ptr c 0] K=some (.n (rdNum 0 65536 r).1,K.set l (bX tg (rdNum 0 65536 r).2)):=by
 rw[mA a];simp only[nZ,d,lW,e,bX];rw[if_pos f]
theorem JS{G:Gam}(a:G Fn.ag=some (.gen qS)){K:aA}{l c:Nat}{tg tg':Option TypeId}{r:Rd}(d:K[c]?=some (.cellsT tg' [.ptr l 0]))(e:K[l]?=some (bX tg r))(f:r.rest.length<=1000000):dE G Fn.ag [.ptr c 0] K=some (.str (bZ 65536 r).1,K.set l (bX tg (bZ 65536 r).2)):=by
 rw[mA a];simp only[qS,d,CP,e,bX];rw[if_pos f]
structure Env(H:aA)(l c t n:Nat):Prop where
 ec:H[c]?=some (.cells [.ptr l 0])et:H[t]?=some (.cells [.fn Fn.ag [.ptr c 0]])en:H[n]?=some (.cells [.fn Fn.af [.ptr c 0]])
structure EnvT(H:aA)(l c t:Nat):Prop where
 ec:H[c]?=some (.cells [.ptr l 0])et:H[t]?=some (.cells [.fn Fn.ag [.ptr c 0]])
def zZ(H:aA)(t:Nat):Option (Nat×Nat):=match(H[t]?:Option Blk)with
 |some (.cellsT none [.fn f [.ptr c 0]])=>if f=Fn.ag then(match(H[c]?:Option Blk)with
  |some (.cellsT none [.ptr l 0])=>some (l,c)|_=>none)else none|_=>none
def sZ(H:aA)(t n:Nat):Option (Nat×Nat):=match zZ H t with
 |some (l,c)=>(match(H[n]?:Option Blk)with
  |some (.cellsT none [.fn f [.ptr a 0]])=>if f=Fn.af/\a=c then some (l,c)else none|_=>none)|none=>none
theorem QD{H:aA}{t l c:Nat}(h:zZ H t=some (l,c)):EnvT H l c t:=by
 unfold zZ at h;split at h
 ·rename_i f g e;split at h
  ·rename_i d;split at h
   ·rename_i i a;simp only[aE,aR]at h;obtain⟨rfl,rfl⟩:=h;exact⟨a,by rw[e,d]⟩
   ·cases h
  ·cases h
 ·cases h
theorem pV{H:aA}{t n l c:Nat}(h:sZ H t n=some (l,c)):Env H l c t n:=by
 unfold sZ at h;split at h
 ·rename_i m j g;obtain⟨d,e⟩:=QD g;split at h
  ·rename_i f k i;split at h
   ·rename_i a;simp only[aE,aR]at h;obtain⟨rfl,rfl⟩:=h;exact⟨d,e,by rw[i,a.1,a.2]⟩
   ·cases h
  ·cases h
 ·cases h
theorem EnvT.of{H:aA}{l c t:Nat}(h:EnvT H l c t):zZ H t=some (l,c):=by
 unfold zZ;rw[h.et];simp[h.ec]
theorem Env.of{H:aA}{l c t n:Nat}(h:Env H l c t n):sZ H t n=some (l,c):=by
 unfold sZ;rw[EnvT.of ⟨h.ec,h.et⟩];simp[h.en]
def wC{α:Type}(one:Rd->α×Rd)(d:α->List AV)(l:Nat)(H:aA):Option (AV×aA):=match(H[l]?:Option Blk)with
 |some (.cellsT tg [.str s,.n a])=>if s.length<=1000000 then some (.agg (d (one ⟨s,a⟩).1),H.set l (bX tg (one ⟨s,a⟩).2)++[.cells (d (one ⟨s,a⟩).1)])else none|_=>none
def CG:List AV->aA->Option (AV×aA)
 |[.ptr t 0,.ptr n 0],H=>match sZ H t n with
  |some (l,_)=>wC (eX 65536) Plc.row l H|none=>none
 |_,_=>none
def CH:List AV->aA->Option (AV×aA)
 |[.ptr t 0,.ptr n 0],H=>match sZ H t n with
  |some (l,_)=>wC fN Imp.row l H|none=>none
 |_,_=>none
def CI:List AV->aA->Option (AV×aA)
 |[.ptr t 0,.ptr n 0],H=>match sZ H t n with
  |some (l,_)=>wC gB Expo.row l H|none=>none
 |_,_=>none
def CJ:List AV->aA->Option (AV×aA)
 |[.ptr t 0],H=>match zZ H t with
  |some (l,_)=>wC gE eW l H|none=>none
 |_,_=>none
theorem OY{α:Type}{one:Rd->α×Rd}{a:α->List AV}{l:Nat}{H:aA}{x:AV}{d:aA}(h:wC one a l H=some (x,d)):∃tg r,H[l]?=some (bX tg r)/\r.rest.length<=1000000/\x=.agg (a (one r).1)/\d=H.set l (bX tg (one r).2)++[.cells (a (one r).1)]:=by
 unfold wC at h;split at h
 ·rename_i tg s e f;split at h
  ·rename_i g;simp only[aE,aR]at h;obtain⟨rfl,rfl⟩:=h;exact⟨tg,⟨s,e⟩,f,g,rfl,rfl⟩
  ·cases h
 ·cases h
theorem OZ{α:Type}{one:Rd->α×Rd}{a:α->List AV}{l:Nat}{H:aA}{tg:Option TypeId}{r:Rd}(d:H[l]?=some (bX tg r))(e:r.rest.length<=1000000):wC one a l H=some (.agg (a (one r).1),H.set l (bX tg (one r).2)++[.cells (a (one r).1)]):=by
 simp only[wC,d,bX];rw[if_pos e]
def KH(H:aA)(l:Nat)(tg:Option TypeId)(z:Blk)(r:Rd):aA:=(H++[z]).set l (bX tg r)
section
variable{H:aA}{l:Nat}{tg:Option TypeId}{z:Blk}{r r':Rd}
theorem OD(a:H[l]?=some (bX tg r)):H++[z]=KH H l tg z r:=by
 unfold KH;apply kL;intro j;have d:l<H.length:=(aF.1 a).1;rw[iZ];by_cases e:l=j
 ·subst e;rw[if_pos rfl,if_pos (by simp;omega),aX d,a]
 ·rw[if_neg e]
theorem zC:(KH H l tg z r).set l (bX tg r')=KH H l tg z r':=by unfold KH;rw[mN]
theorem nE{j:Nat}{b:Blk}(a:H[j]?=some b)(d:l≠j):(KH H l tg z r)[j]?=some b:=by
 unfold KH;rw[eY d,aX (aF.1 a).1,a]
theorem zB(a:l<H.length):(KH H l tg z r)[l]?=some (bX tg r):=by unfold KH;exact fL (by simp;omega)
theorem OC{b:Blk}(a:l<H.length):(KH H l tg z r).set H.length b=H.set l (bX tg r)++[b]:=by
 unfold KH;rw[oI _ _ a,gK _ _ (by simp)];simp
theorem OE(a:l<H.length):(KH H l tg z r)[H.length]?=some z:=by
 unfold KH;rw[oI _ _ a,dY (by simp)];simp
end
theorem iQ{H:aA}{l j:Nat}{tg e:Option TypeId}{r:Rd}{v:AV}(d:H[l]?=some (bX tg r))(a:H[j]?=some (.cellsT e [v])):l≠j:=by
 rintro rfl;rw[d]at a;simp[bX]at a
theorem yA7{G:Gam}(W:G Fn.af=some (.gen nZ))(X:G Fn.ag=some (.gen qS)):GW G Mc.bo Rs.bo Ks.bo CG:=by
 intro c3 H x H' k;unfold CG at k;split at k
 ·rename_i t a2;split at k
  ·rename_i l c Y;obtain⟨n,M,L⟩:=pV Y;obtain⟨tg,r,m,N,rfl,rfl⟩:=OY k;have o:l<H.length:=(aF.1 m).1;obtain⟨z,O⟩:∃z:Blk,z=.cells [.str [],.str [],.n 0,.n 0,.n 0]:=⟨_,rfl⟩;have Q:∀P,opV G P H (.alloc [.str [],.str [],.n 0,.n 0,.n 0]) (some [])=some (.ptr H.length 0,KH H l tg z r):=fun P=>by rw[fG rfl,<-OD m,O];rfl
   have V:∀r',aB 1 false (KH H l tg z r') (.ptr t 0)=some (.fn Fn.ag [.ptr c 0]):=fun r'=>by simp[aB,nE (r:=r') M (iQ m M),cut,aD]
   have J:∀r',r'.rest.length<=1000000->dE G Fn.ag [.ptr c 0] (KH H l tg z r')=some (.str (bZ 65536 r').1,KH H l tg z (bZ 65536 r').2):=fun r' C=>by rw[JS X (nE n (iQ m n)) (zB o) C,zC]
   have U:∀r',aB 1 false (KH H l tg z r') (.ptr a2 0)=some (.fn Fn.af [.ptr c 0]):=fun r'=>by simp[aB,nE (r:=r') L (iQ m L),cut,aD]
   have v:∀r',r'.rest.length<=1000000->dE G Fn.af [.ptr c 0] (KH H l tg z r')=some (.n (rdNum 0 65536 r').1,KH H l tg z (rdNum 0 65536 r').2):=fun r' C=>by rw[JR W (nE n (iQ m n)) (zB o) C,zC]
   obtain⟨d,p,w⟩:∃a q,bZ 65536 r=(a,q):=⟨_,_,rfl⟩;have E:p.rest.length<=1000000:=by have:=AY (most:=65536) (e:=r.err) N;rw[w]at this;exact this
   obtain⟨e,s,y⟩:∃a q,bZ 65536 p=(a,q):=⟨_,_,rfl⟩;have F:s.rest.length<=1000000:=by have:=AY (most:=65536) (e:=p.err) E;rw[y]at this;exact this
   obtain⟨f,u,A⟩:∃a q,rdNum 0 65536 s=(a,q):=⟨_,_,rfl⟩;have I:u.rest.length<=1000000:=by have:=zc0 (lo:=0) (hi:=65536) (e:=s.err) F;rw[A]at this;exact this
   obtain⟨g,D,B⟩:∃a q,rdNum 0 65536 u=(a,q):=⟨_,_,rfl⟩;have S:D.rest.length<=1000000:=by have:=zc0 (lo:=0) (hi:=65536) (e:=u.err) I;rw[B]at this;exact this
   obtain⟨i,j,K⟩:∃a q,rdNum 0 65536 D=(a,q):=⟨_,_,rfl⟩;have T:eX 65536 r=(⟨d,e,f,g,i⟩,j):=by simp only[eX,w,y,A,B,K]
   have k1:=J r N;rw[w]at k1;have k2:=J p E;rw[y]at k2;have k3:=v s F;rw[A]at k3;have k4:=v u I;rw[B]at k4;have k5:=v D S;rw[K]at k5;rw[T];have a1:(KH H l tg z j)[H.length]?=some (.cells [.str [],.str [],.n 0,.n 0,.n 0]):=by rw[OE o,O]
   have a3:bB 5 (KH H l tg z j) (.ptr H.length 0) (.agg [.str d,.str e,.n f,.n g,.n i])=some (H.set l (bX tg j)++[.cells [.str d,.str e,.n f,.n g,.n i]]):=by simp[bB,a1,bF,OC o]
   have lf:aB 5 true (H.set l (bX tg j)++[.cells [.str d,.str e,.n f,.n g,.n i]]) (.ptr H.length 0)=some (.agg [.str d,.str e,.n f,.n g,.n i]):=by
    have Z:(H.set l (bX tg j)++[Blk.cells [.str d,.str e,.n f,.n g,.n i]])[H.length]?=some (.cells [.str d,.str e,.n f,.n g,.n i]):=by rw[dY (by simp)];simp
    simp[aB,cut,aD]
   rw[aT];simp only[Plc.row];generalize H.set l (bX tg j)++[Blk.cells [.str d,.str e,.n f,.n g,.n i]]=HF at*;simp[Mc.bo,aC,Ks.bo,Q,V,U,kA,k1,k2,k3,k4,k5,eB,bF,a3,lf,eF,Rs.bo,cZ,eR,fA,-aB,-aQ,-iH]
  ·cases k
 ·cases k
theorem yA8{G:Gam}(O:G Fn.af=some (.gen nZ))(P:G Fn.ag=some (.gen qS)):GW G Mc.bp Rs.bp Ks.bp CH:=by
 intro Y H x W i;unfold CH at i;split at i
 ·rename_i t n;split at i
  ·rename_i l c Q;obtain⟨k,C,B⟩:=pV Q;obtain⟨tg,r,j,D,rfl,rfl⟩:=OY i;have m:l<H.length:=(aF.1 j).1;obtain⟨z,E⟩:∃z:Blk,z=.cells [.str [],.str [],.n 0]:=⟨_,rfl⟩;have I:∀F,opV G F H (.alloc [.str [],.str [],.n 0]) (some [])=some (.ptr H.length 0,KH H l tg z r):=fun F=>by rw[fG rfl,<-OD j,E];rfl
   have N:∀r',aB 1 false (KH H l tg z r') (.ptr t 0)=some (.fn Fn.ag [.ptr c 0]):=fun r'=>by simp[aB,nE (r:=r') C (iQ j C),cut,aD]
   have y:∀r',r'.rest.length<=1000000->dE G Fn.ag [.ptr c 0] (KH H l tg z r')=some (.str (bZ 65536 r').1,KH H l tg z (bZ 65536 r').2):=fun r' u=>by rw[JS P (nE k (iQ j k)) (zB m) u,zC]
   have M:∀r',aB 1 false (KH H l tg z r') (.ptr n 0)=some (.fn Fn.af [.ptr c 0]):=fun r'=>by simp[aB,nE (r:=r') B (iQ j B),cut,aD]
   have K:∀r',r'.rest.length<=1000000->dE G Fn.af [.ptr c 0] (KH H l tg z r')=some (.n (rdNum 0 65536 r').1,KH H l tg z (rdNum 0 65536 r').2):=fun r' u=>by rw[JR O (nE k (iQ j k)) (zB m) u,zC]
   obtain⟨d,o,p⟩:∃a q,bZ 65536 r=(a,q):=⟨_,_,rfl⟩;have w:o.rest.length<=1000000:=by have:=AY (most:=65536) (e:=r.err) D;rw[p]at this;exact this
   obtain⟨e,v,s⟩:∃a q,bZ 65536 o=(a,q):=⟨_,_,rfl⟩;have J:v.rest.length<=1000000:=by have:=AY (most:=65536) (e:=o.err) w;rw[s]at this;exact this
   obtain⟨f,g,A⟩:∃a q,rdNum 0 65536 v=(a,q):=⟨_,_,rfl⟩;have L:fN r=(⟨d,e,f⟩,g):=by simp only[fN,p,s,A]
   have k1:=y r D;rw[p]at k1;have k2:=y o w;rw[s]at k2;have k3:=K v J;rw[A]at k3;rw[L];have T:(KH H l tg z g)[H.length]?=some (.cells [.str [],.str [],.n 0]):=by rw[OE m,E]
   have V:bB 3 (KH H l tg z g) (.ptr H.length 0) (.agg [.str d,.str e,.n f])=some (H.set l (bX tg g)++[.cells [.str d,.str e,.n f]]):=by simp[bB,T,bF,OC m]
   have U:aB 3 true (H.set l (bX tg g)++[.cells [.str d,.str e,.n f]]) (.ptr H.length 0)=some (.agg [.str d,.str e,.n f]):=by
    have S:(H.set l (bX tg g)++[Blk.cells [.str d,.str e,.n f]])[H.length]?=some (.cells [.str d,.str e,.n f]):=by rw[dY (by simp)];simp
    simp[aB,cut,aD]
   rw[aT];simp only[Imp.row];generalize H.set l (bX tg g)++[Blk.cells [.str d,.str e,.n f]]=X at*;simp[Mc.bp,aC,Ks.bp,I,N,M,kA,k1,k2,k3,eB,bF,V,U,eF,Rs.bp,cZ,eR,fA,-aB,-aQ,-iH]
  ·cases i
 ·cases i
theorem yA9{G:Gam}(K:G Fn.af=some (.gen nZ))(L:G Fn.ag=some (.gen qS)):GW G Mc.bq Rs.bq Ks.bq CI:=by
 intro U H x S g;unfold CI at g;split at g
 ·rename_i t n;split at g
  ·rename_i l c M;obtain⟨j,v,u⟩:=pV M;obtain⟨tg,r,i,w,rfl,rfl⟩:=OY g;have k:l<H.length:=(aF.1 i).1;obtain⟨z,y⟩:∃z:Blk,z=.cells [.str [],.n 0]:=⟨_,rfl⟩;have B:∀A,opV G A H (.alloc [.str [],.n 0]) (some [])=some (.ptr H.length 0,KH H l tg z r):=fun A=>by rw[fG rfl,<-OD i,y];rfl
   have J:∀r',aB 1 false (KH H l tg z r') (.ptr t 0)=some (.fn Fn.ag [.ptr c 0]):=fun r'=>by simp[aB,nE (r:=r') v (iQ i v),cut,aD]
   have E:∀r',r'.rest.length<=1000000->dE G Fn.ag [.ptr c 0] (KH H l tg z r')=some (.str (bZ 65536 r').1,KH H l tg z (bZ 65536 r').2):=fun r' o=>by rw[JS L (nE j (iQ i j)) (zB k) o,zC]
   have I:∀r',aB 1 false (KH H l tg z r') (.ptr n 0)=some (.fn Fn.af [.ptr c 0]):=fun r'=>by simp[aB,nE (r:=r') u (iQ i u),cut,aD]
   have D:∀r',r'.rest.length<=1000000->dE G Fn.af [.ptr c 0] (KH H l tg z r')=some (.n (rdNum 0 65536 r').1,KH H l tg z (rdNum 0 65536 r').2):=fun r' o=>by rw[JR K (nE j (iQ i j)) (zB k) o,zC]
   obtain⟨d,p,m⟩:∃a q,bZ 65536 r=(a,q):=⟨_,_,rfl⟩;have C:p.rest.length<=1000000:=by have:=AY (most:=65536) (e:=r.err) w;rw[m]at this;exact this
   obtain⟨e,f,s⟩:∃a q,rdNum 0 65536 p=(a,q):=⟨_,_,rfl⟩;have F:gB r=(⟨d,e⟩,f):=by simp only[gB,m,s]
   have k1:=E r w;rw[m]at k1;have k2:=D p C;rw[s]at k2;rw[F];have O:(KH H l tg z f)[H.length]?=some (.cells [.str [],.n 0]):=by rw[OE k,y]
   have Q:bB 2 (KH H l tg z f) (.ptr H.length 0) (.agg [.str d,.n e])=some (H.set l (bX tg f)++[.cells [.str d,.n e]]):=by simp[bB,O,bF,OC k]
   have P:aB 2 true (H.set l (bX tg f)++[.cells [.str d,.n e]]) (.ptr H.length 0)=some (.agg [.str d,.n e]):=by
    have N:(H.set l (bX tg f)++[Blk.cells [.str d,.n e]])[H.length]?=some (.cells [.str d,.n e]):=by rw[dY (by simp)];simp
    simp[aB,cut,aD]
   rw[aT];simp only[Expo.row];generalize H.set l (bX tg f)++[Blk.cells [.str d,.n e]]=T at*;simp[Mc.bq,aC,Ks.bq,B,J,I,kA,k1,k2,eB,bF,Q,P,eF,Rs.bq,cZ,eR,fA,-aB,-aQ,-iH]
  ·cases g
 ·cases g
theorem yB0{G:Gam}(_:G Fn.af=some (.gen nZ))(D:G Fn.ag=some (.gen qS)):GW G Mc.br Rs.br Ks.br CJ:=by
 intro O H x M g;unfold CJ at g;split at g
 ·rename_i t;split at g
  ·rename_i l c F;obtain⟨p,s⟩:=QD F;obtain⟨tg,r,i,u,rfl,rfl⟩:=OY g;have k:l<H.length:=(aF.1 i).1;obtain⟨z,v⟩:∃z:Blk,z=.cells [.str [],.str []]:=⟨_,rfl⟩;have y:∀w,opV G w H (.alloc [.str [],.str []]) (some [])=some (.ptr H.length 0,KH H l tg z r):=fun w=>by rw[fG rfl,<-OD i,v];rfl
   have C:∀r',aB 1 false (KH H l tg z r') (.ptr t 0)=some (.fn Fn.ag [.ptr c 0]):=fun r'=>by simp[aB,nE (r:=r') s (iQ i s),cut,aD]
   have n:∀r',r'.rest.length<=1000000->dE G Fn.ag [.ptr c 0] (KH H l tg z r')=some (.str (bZ 65536 r').1,KH H l tg z (bZ 65536 r').2):=fun r' E=>by rw[JS D (nE p (iQ i p)) (zB k) E,zC]
   obtain⟨d,m,j⟩:∃a q,bZ 65536 r=(a,q):=⟨_,_,rfl⟩;have A:m.rest.length<=1000000:=by have:=AY (most:=65536) (e:=r.err) u;rw[j]at this;exact this
   obtain⟨e,f,o⟩:∃a q,bZ 65536 m=(a,q):=⟨_,_,rfl⟩;have B:gE r=((d,e),f):=by simp only[gE,j,o]
   have k1:=n r u;rw[j]at k1;have k2:=n m A;rw[o]at k2;rw[B];have J:(KH H l tg z f)[H.length]?=some (.cells [.str [],.str []]):=by rw[OE k,v]
   have L:bB 2 (KH H l tg z f) (.ptr H.length 0) (.agg [.str d,.str e])=some (H.set l (bX tg f)++[.cells [.str d,.str e]]):=by simp[bB,J,bF,OC k]
   have K:aB 2 true (H.set l (bX tg f)++[.cells [.str d,.str e]]) (.ptr H.length 0)=some (.agg [.str d,.str e]):=by
    have I:(H.set l (bX tg f)++[Blk.cells [.str d,.str e]])[H.length]?=some (.cells [.str d,.str e]):=by rw[dY (by simp)];simp
    simp[aB,cut,aD]
   rw[aT];simp only[eW];generalize H.set l (bX tg f)++[Blk.cells [.str d,.str e]]=N at*;simp[Mc.br,aC,Ks.br,y,C,kA,k1,k2,eB,bF,L,K,eF,Rs.br,cZ,eR,fA,-aB,-aQ,-iH]
  ·cases g
 ·cases g
def kY:List AV->aA->Option AV
 |[.ptr l 0],h=>match(h[l]?:Option Blk)with
  |some (.cellsT _ [.str _,.n a])=>some (.n a)|_=>none
 |_,_=>none
theorem xl4{G:Gam}:LW G Mc.an Rs.an Ks.an kY:=by
 intro g h r a;unfold kY at a;split at a
 ·rename_i l;split at a
  ·rename_i tg s d e;injection a with a;subst a;have f:aB 1 false h (.ptr l 1)=some (.n d):=by simp[aB,e,cut,aD]
   rw[aT];simp[Mc.an,aC,Ks.an,f,eQ,Rs.an,owns,dC,-aB]
  ·cases a
 ·cases a
def GH(h:aA)(l:Nat)(tg:Option TypeId)(r:Rd)(sz:Nat)(rows:List (List AV))(x:aA):aA:=h.set l (bX tg r)++(.arr sz 0 [] true::.arr sz rows.length rows true::x)
section
variable{h x:aA}{l sz:Nat}{tg:Option TypeId}{r r':Rd}{rows rows':List (List AV)}{b c:Blk}
theorem yZ:(GH h l tg r sz rows x).length=h.length+2+x.length:=by simp[GH];omega
theorem mJ(a:l<h.length):(GH h l tg r sz rows x)[l]?=some (bX tg r):=by unfold GH;rw[aX (by simpa using a)];simp[a]
theorem sH(a:l<h.length):(GH h l tg r sz rows x).set l (bX tg r')=GH h l tg r' sz rows x:=by unfold GH;rw[oI _ _ (by simpa using a)];simp
theorem IF:(GH h l tg r sz rows x)[h.length+1]?=some (.arr sz rows.length rows true):=by unfold GH;rw[dY (by simp)];simp
theorem IE:(GH h l tg r sz rows x).set (h.length+1) (.arr sz rows'.length rows' true)=GH h l tg r sz rows' x:=by unfold GH;rw[gK _ _ (by simp)];simp
theorem OA:GH h l tg r sz rows x++[b]=GH h l tg r sz rows (x++[b]):=by simp[GH]
theorem pF{j:Nat}(a:h[j]?=some b)(e:l≠j):(GH h l tg r sz rows x)[j]?=some b:=by
 have d:=(aF.1 a).1;unfold GH;rw[aX (by simpa using d),eY e,a]
theorem kD{a:List (Nat×AV)}(f:bG h.length h=true)(d:cQ (h.length+2) a=true):trunc (h.length+2) a (GH h l tg r sz rows x)=GH h l tg r sz rows []:=by
 have e:GH h l tg r sz rows x=GH h l tg r sz rows []++x:=by simp[GH]
 rw[e];refine yE (by simp[GH]) d ?_;unfold GH;exact xH (KX (AJ (by omega) f) rfl) rfl
theorem sG{a:List RV}{e:Nat->Option AV}{n:Nat}(d:bG h.length h=true)(f:cZ e (GH h l tg r sz rows []) a=some (.own (h.length+1) n n)):OF h.length a e (GH h l tg r sz rows []) (.own (h.length+1) n n) (GH h l tg r sz rows []):=by
 refine⟨f,by rw[yZ];omega,yX1,by simp[low,yZ],?_⟩;unfold GH;exact xH (KX (AJ (by simp) d) rfl) rfl
theorem IG(a:h[l]?=some (bX tg r)):h++[.arr sz 0 [] true,.arr sz 0 [] true]=GH h l tg r sz [] []:=by
 unfold GH;have:h.set l (bX tg r)=h:=GB (by simpa[bX]using a);rw[this];rfl
end
def uG{α:Type}(one:Rd->α×Rd)(d:α->List AV)(sz l:Nat)(h:aA):Option (AV×aA):=match(h[l]?:Option Blk)with
 |some (.cellsT tg [.str s,.n a])=>if s.length<=1000000 then some (.own (h.length+1) (bJ one ⟨s,a⟩).1.length (bJ one ⟨s,a⟩).1.length,GH h l tg (bJ one ⟨s,a⟩).2 sz ((bJ one ⟨s,a⟩).1.map d) [])else none|_=>none
theorem LA{α:Type}{one:Rd->α×Rd}{e:α->List AV}{sz l:Nat}{h:aA}{x:AV}{d:aA}(a:uG one e sz l h=some (x,d)):∃tg r,h[l]?=some (bX tg r)/\r.rest.length<=1000000/\x=.own (h.length+1) (bJ one r).1.length (bJ one r).1.length/\d=GH h l tg (bJ one r).2 sz ((bJ one r).1.map e) []:=by
 unfold uG at a;split at a
 ·rename_i tg s f g;split at a
  ·rename_i i;simp only[aE,aR]at a;obtain⟨rfl,rfl⟩:=a;exact⟨tg,⟨s,f⟩,g,i,rfl,rfl⟩
  ·cases a
 ·cases a
theorem LB{α:Type}{one:Rd->α×Rd}{a:α->List AV}{sz l:Nat}{h:aA}{tg:Option TypeId}{r:Rd}(d:h[l]?=some (bX tg r))(e:r.rest.length<=1000000):uG one a sz l h=some (.own (h.length+1) (bJ one r).1.length (bJ one r).1.length,GH h l tg (bJ one r).2 sz ((bJ one r).1.map a) []):=by
 simp only[uG,d,bX];rw[if_pos e]
theorem xS{lo hi:Int}(a:0<=hi)(d:lo<=0){r:Rd}:lo<=(rdNum lo hi r).1/\(rdNum lo hi r).1<=hi:=by
 unfold rdNum;split;·simp;omega
 ·split
  ·split;·simp;omega
   ·rename_i h;simp only[not_or,Int.not_lt]at h;simp;omega
  ·simp;omega
  ·simp;omega
def pI{α:Type}(one:Rd->α×Rd):Prop:=∀r:Rd,r.rest.length<=1000000->(one r).2.rest.length<=1000000
theorem jR(d a:Int):pI (rdNum d a):=fun r h=>zc0 (e:=r.err) h
theorem rU(m:Int):pI (bZ m):=fun r h=>AY (e:=r.err) h
theorem MW(a:Int):pI (eX a):=fun _ h=>jR _ _ _ (jR _ _ _ (jR _ _ _ (rU _ _ (rU _ _ h))))
theorem TT:pI fN:=fun _ h=>jR _ _ _ (rU _ _ (rU _ _ h))
theorem TQ:pI gB:=fun _ h=>jR _ _ _ (rU _ _ h)
theorem zZ9:pI gE:=fun _ h=>rU _ _ (rU _ _ h)
theorem TR:pI fY:=jR _ _
theorem zZ8{α:Type}{one:Rd->α×Rd}(h:pI one):∀n,pI (bK one n)
 |0,r,a=>a|n+1,r,a=>by
  rw[bK];split;·exact a
  ·exact zZ8 h n _ (h r a)
theorem xZ{α:Type}{one:Rd->α×Rd}(h:pI one):pI (bJ one):=fun _ a=>zZ8 h _ _ (jR _ _ _ a)
theorem zN3{α:Type}{one:Rd->α×Rd}:∀(n:Nat)(r:Rd),(bK one n r).1.length<=n
 |0,_=>bP _|n+1,r=>by
  rw[bK];split;·simp
  ·have:=zN3 (one:=one) n (one r).2;simp;omega
def yN:List AV->aA->Option (AV×aA)
 |[.ptr l 0,.fn f [.ptr t 0,.ptr n 0]],h=>if f=Fn.bo then(match sZ h t n with
  |some (a,_)=>if a=l then uG (eX 65536) Plc.row 5 l h else none|none=>none)else none|_,_=>none
theorem zM9{G:Gam}(A:G Fn.an=some (.gen (bO kY)))(y:G Fn.bo=some (.gen CG)){h:aA}{l c t n:Nat}{tg:Option TypeId}(i:l<h.length)(f:bG h.length h=true)(e:Env h l c t n){Q:Rd}(j:h[l]?=some (bX tg Q)):∀(k:Nat)(r:Rd)(a:List Plc),a.length+k<=65536->r.rest.length<=1000000->cY G [] Mc.aw_L0 (h.length+2) [.blk 0,.seq (.seq (.reg [zm 23 5,zM 4 23]) .ret)] (iO h.length Rs.aw (.own (h.length+1) (a++(bK (eX 65536) k r).1).length (a++(bK (eX 65536) k r).1).length) (GH h l tg (bK (eX 65536) k r).2 5 ((a++(bK (eX 65536) k r).1).map Plc.row) [])) [(0,.ptr l 0),(1,.fn Fn.bo [.ptr t 0,.ptr n 0]),(4,.own h.length 0 0),(5,.own (h.length+1) a.length a.length),(6,.n k)] (GH h l tg r 5 (a.map Plc.row) [])
 |0,r,a,N,s=>by
  have q:ltB 0 0=false:=rfl;simp only[bK,iR];refine bQ (Mc.aw_L0.eq_1) ?_;rw[kD f (by have D:=(aF.1 e.et).1;have C:=(aF.1 e.en).1;simp[aY,cQ,low,bA];omega)];simp[iO];exact sG f (by simp[cZ,eR,fA,Rs.aw,aV,lkp])|k+1,r,a,N,s=>by
  have q:ltB 0 ((k:Int)+1)=true:=cH.2 (by omega);have S:IntKind.i64.wrap (k:Int)=(k:Int):=i64_in _ ⟨by omega,by omega⟩;have u:opV G false (GH h l tg r 5 (a.map Plc.row) []) (.call Fn.an) (some [.ptr l 0])=some (.n r.err,GH h l tg r 5 (a.map Plc.row) []):=by
   rw[dV A];simp only[bO,kY,mJ i,bX];rfl
  have M:(a.map Plc.row).length=a.length:=by simp
  refine bQ (Mc.aw_L0.eq_1) ?_;rw[kD f (by have D:=(aF.1 e.et).1;have C:=(aF.1 e.en).1;simp[aY,cQ,low,bA];omega)];by_cases g:r.err=0
  ·obtain⟨v,d,m⟩:∃v d,(eX 65536) r=(v,d):=⟨_,_,rfl⟩;have O:d.rest.length<=1000000:=by have:=MW 65536 r s;rw[m]at this;exact this
   have I:dE G Fn.bo [.ptr t 0,.ptr n 0] (GH h l tg r 5 (a.map Plc.row) [])=some (.agg (Plc.row v),GH h l tg d 5 (a.map Plc.row) [.cells (Plc.row v)]):=by
    rw[mA y];have L:=Env.of (H:=GH h l tg r 5 (a.map Plc.row) []) ⟨pF e.ec (iQ j e.ec),pF e.et (iQ j e.et),pF e.en (iQ j e.en)⟩;simp only[CG];rw[L];simp only;rw[OZ (mJ i) s,m,sH i,OA];rfl
   have F:opV G false (GH h l tg d 5 (a.map Plc.row) [.cells (Plc.row v)]) (.app false 5 56) (some [.own (h.length+1) a.length a.length,.tsl [Plc.row v]])=some (.own (h.length+1) (a++[v]).length (a++[v]).length,GH h l tg d 5 ((a++[v]).map Plc.row) [.cells (Plc.row v)]):=by
    have:=tI (G:=G) (s:=false) (h:=(GH h l tg d 5 (a.map Plc.row) [.cells (Plc.row v)])) (e:=Plc.row) (n:=5) (b:=56) (l:=h.length+1) (os:=a) (x:=v) (by rw[<-M];exact IF) rfl (by omega) (by unfold big;omega);rw[this];have w:(a++[v]).length=((a++[v]).map Plc.row).length:=by simp
    rw[w,IE,<-w]
   have P:=zM9 A y i f e j k d (a++[v]) (by simp;omega) O;have o:bK (eX 65536) (k+1) r=(v::(bK (eX 65536) k d).1,(bK (eX 65536) k d).2):=by rw[bK,if_neg (by simpa using g),m]
   have J:a++v::(bK (eX 65536) k d).1=a++[v]++(bK (eX 65536) k d).1:=by simp
   rw[o];simp only;rw[J];have p:eqB r.err 0=true:=kQ.2 g;generalize bK (eX 65536) k d=T at*;generalize B:GH h l tg r 5 (a.map Plc.row) []=E at*;have K:opV G false (GH h l tg d 5 (a.map Plc.row) [.cells (Plc.row v)]) (.bsl false 5) (some [.agg (Plc.row v)])=some (.tsl [Plc.row v],GH h l tg d 5 (a.map Plc.row) [.cells (Plc.row v)]):=by simp[eZ,owns,cV,view,dH,nN,bE,AV.cells,Plc.row]
   simp[q,u,p,kA,I,K,F,S,-List.length_append,-List.map_append,-gF];refine dT ?_;rw[kD f (by have D:=(aF.1 e.et).1;have C:=(aF.1 e.en).1;simp[aY,cQ,low,bA];omega)];simpa using P
  ·have p:eqB r.err 0=false:=gM.2 g;have o:bK (eX 65536) (k+1) r=([],r):=by rw[bK,if_pos g]
   rw[o];simp only[iR];generalize B:GH h l tg r 5 (a.map Plc.row) []=E at*;simp[q,u,p,iO];rw[<-B];exact sG f (by simp[cZ,eR,fA,Rs.aw,aV,lkp])
theorem yY7{G:Gam}(D:G Fn.ac=some (.gen lW))(C:G Fn.an=some (.gen (bO kY)))(B:G Fn.bo=some (.gen CG)):∀g h r j,bA h.length g=true->bG h.length h=true->yN g h=some (r,j)->wpM G Mc.aw (iO h.length Rs.aw r j) [] (aC Ks.aw g) h:=by
 intro g h x j L u a;unfold yN at a;split at a
 ·rename_i l f t n;split at a
  ·rename_i E;subst E;split at a
   ·rename_i e K o;split at a
    ·rename_i I;subst I;obtain⟨tg,r,q,v,rfl,rfl⟩:=LA a;have p:e<h.length:=(aF.1 q).1;have s:=xS (lo:=0) (hi:=65536) (by omega) (by omega) (r:=r);obtain⟨m,d,i⟩:∃m d,rdNum 0 65536 r=(m,d):=⟨_,_,rfl⟩;have J:d.rest.length<=1000000:=by have:=jR 0 65536 r v;rw[i]at this;exact this
     rw[i]at s;obtain⟨k,rfl⟩:∃k:Nat,m=k:=⟨m.toNat,by simp at s;omega⟩;have A:bJ (eX 65536) r=bK (eX 65536) k d:=by unfold bJ;rw[i];simp
     rw[A];have y:opV G false (h++[.arr 5 0 [] true,.arr 5 0 [] true]) (.call Fn.ac) (some [.ptr e 0,.n 0,.n 65536])=some (.n k,GH h e tg d 5 [] []):=by
      rw[dV D,IG q];simp only[lW,mJ p,bX];rw[if_pos v,i];have:=sH (h:=h) (x:=[]) (l:=e) (sz:=5) (tg:=tg) (r:=r) (r':=d) (rows:=[]) p;rw[<-this];simp[bX]
     have w:=zM9 C B p u (pV o) q k d [] (by simp at s⊢;omega) J;simp only[jU,pN,kN]at w;rw[aT];have F:(GH h e tg d 5 [] []).length=h.length+2:=by rw[yZ];rfl
     generalize bK (eX 65536) k d=M at*;simp[Mc.aw,aC,Ks.aw,y];refine dT ?_;rw[F,kD u (by have O:=(aF.1 (pV o).et).1;have N:=(aF.1 (pV o).en).1;simp[aY,cQ,low,bA];omega)];simpa using w
    ·cases a
   ·cases a
  ·cases a
 ·cases a
def yM:List AV->aA->Option (AV×aA)
 |[.ptr l 0,.fn f [.ptr c 0]],h=>if f=Fn.af then(match(h[c]?:Option Blk)with
  |some (.cellsT none [.ptr a 0])=>if a=l then uG fY iE 1 l h else none|_=>none)else none|_,_=>none
theorem zM8{G:Gam}(y:G Fn.an=some (.gen (bO kY)))(w:G Fn.af=some (.gen nZ)){h:aA}{l c:Nat}{tg:Option TypeId}(i:l<h.length)(f:bG h.length h=true)(e:h[c]?=some (.cells [.ptr l 0])){N:Rd}(B:h[l]?=some (bX tg N)):∀(k:Nat)(r:Rd)(a:List Int),a.length+k<=65536->r.rest.length<=1000000->cY G [] Mc.ar_L0 (h.length+2) [.blk 0,.seq (.seq (.reg [zm 23 5,zM 4 23]) .ret)] (iO h.length Rs.ar (.own (h.length+1) (a++(bK fY k r).1).length (a++(bK fY k r).1).length) (GH h l tg (bK fY k r).2 1 ((a++(bK fY k r).1).map iE) [])) [(0,.ptr l 0),(1,.fn Fn.af [.ptr c 0]),(4,.own h.length 0 0),(5,.own (h.length+1) a.length a.length),(6,.n k)] (GH h l tg r 1 (a.map iE) [])
 |0,r,a,K,o=>by
  have q:ltB 0 0=false:=rfl;simp only[bK,iR];refine bQ (Mc.ar_L0.eq_1) ?_;rw[kD f (by have p:=(aF.1 e).1;simp[aY,cQ,low,bA];omega)];simp[iO];exact sG f (by simp[cZ,eR,fA,Rs.ar,aV,lkp])|k+1,r,a,K,o=>by
  have q:ltB 0 ((k:Int)+1)=true:=cH.2 (by omega);have O:IntKind.i64.wrap (k:Int)=(k:Int):=i64_in _ ⟨by omega,by omega⟩;have s:opV G false (GH h l tg r 1 (a.map iE) []) (.call Fn.an) (some [.ptr l 0])=some (.n r.err,GH h l tg r 1 (a.map iE) []):=by
   rw[dV y];simp only[bO,kY,mJ i,bX];rfl
  have J:(a.map iE).length=a.length:=by simp
  refine bQ (Mc.ar_L0.eq_1) ?_;rw[kD f (by have p:=(aF.1 e).1;simp[aY,cQ,low,bA];omega)];by_cases g:r.err=0
  ·obtain⟨v,d,j⟩:∃v d,fY r=(v,d):=⟨_,_,rfl⟩;have L:d.rest.length<=1000000:=by have:=TR r o;rw[j]at this;exact this
   have E:dE G Fn.af [.ptr c 0] (GH h l tg r 1 (a.map iE) [])=some (.n v,GH h l tg d 1 (a.map iE) []):=by rw[JR w (pF e (iQ B e)) (mJ i) o,sH i];rw[show rdNum 0 65536 r=(v,d)from j]
   have D:opV G false (GH h l tg d 1 (a.map iE) []) (.app false 1 8) (some [.own (h.length+1) a.length a.length,.tsl [iE v]])=some (.own (h.length+1) (a++[v]).length (a++[v]).length,GH h l tg d 1 ((a++[v]).map iE) []):=by
    have:=tI (G:=G) (s:=false) (h:=(GH h l tg d 1 (a.map iE) [])) (e:=iE) (n:=1) (b:=8) (l:=h.length+1) (os:=a) (x:=v) (by rw[<-J];exact IF) rfl (by omega) (by unfold big;omega);rw[this];have u:(a++[v]).length=((a++[v]).map iE).length:=by simp
    rw[u,IE,<-u]
   have M:=zM8 y w i f e B k d (a++[v]) (by simp;omega) L;have m:bK fY (k+1) r=(v::(bK fY k d).1,(bK fY k d).2):=by rw[bK,if_neg (by simpa using g),j]
   have F:a++v::(bK fY k d).1=a++[v]++(bK fY k d).1:=by simp
   rw[m];simp only;rw[F];have n:eqB r.err 0=true:=kQ.2 g;generalize bK fY k d=P at*;generalize A:GH h l tg r 1 (a.map iE) []=C at*;have I:opV G false (GH h l tg d 1 (a.map iE) []) (.bsl false 1) (some [.n v])=some (.tsl [iE v],GH h l tg d 1 (a.map iE) []):=by simp[eZ,owns,cV,view,dH,nN,bE,AV.cells,iE]
   simp[q,s,n,kA,E,I,D,O,-List.length_append,-List.map_append,-gF];refine dT ?_;rw[kD f (by have p:=(aF.1 e).1;simp[aY,cQ,low,bA];omega)];simpa using M
  ·have n:eqB r.err 0=false:=gM.2 g;have m:bK fY (k+1) r=([],r):=by rw[bK,if_pos g]
   rw[m];simp only[iR];generalize A:GH h l tg r 1 (a.map iE) []=C at*;simp[q,s,n,iO];rw[<-A];exact sG f (by simp[cZ,eR,fA,Rs.ar,aV,lkp])
theorem yY6{G:Gam}(C:G Fn.ac=some (.gen lW))(B:G Fn.an=some (.gen (bO kY)))(A:G Fn.af=some (.gen nZ)):∀g h r j,bA h.length g=true->bG h.length h=true->yM g h=some (r,j)->wpM G Mc.ar (iO h.length Rs.ar r j) [] (aC Ks.ar g) h:=by
 intro g h x j K s a;unfold yM at a;split at a
 ·rename_i l f c;split at a
  ·rename_i D;subst D;split at a
   ·rename_i e q;split at a
    ·rename_i F;subst F;obtain⟨tg,r,o,u,rfl,rfl⟩:=LA a;have n:e<h.length:=(aF.1 o).1;have p:=xS (lo:=0) (hi:=65536) (by omega) (by omega) (r:=r);obtain⟨m,d,i⟩:∃m d,rdNum 0 65536 r=(m,d):=⟨_,_,rfl⟩;have I:d.rest.length<=1000000:=by have:=jR 0 65536 r u;rw[i]at this;exact this
     rw[i]at p;obtain⟨k,rfl⟩:∃k:Nat,m=k:=⟨m.toNat,by simp at p;omega⟩;have y:bJ fY r=bK fY k d:=by unfold bJ;rw[i];simp
     rw[y];have w:opV G false (h++[.arr 1 0 [] true,.arr 1 0 [] true]) (.call Fn.ac) (some [.ptr e 0,.n 0,.n 65536])=some (.n k,GH h e tg d 1 [] []):=by
      rw[dV C,IG o];simp only[lW,mJ n,bX];rw[if_pos u,i];have:=sH (h:=h) (x:=[]) (l:=e) (sz:=1) (tg:=tg) (r:=r) (r':=d) (rows:=[]) n;rw[<-this];simp[bX]
     have v:=zM8 B A n s q o k d [] (by simp at p⊢;omega) I;simp only[jU,pN,kN]at v;rw[aT];have E:(GH h e tg d 1 [] []).length=h.length+2:=by rw[yZ];rfl
     generalize bK fY k d=L at*;simp[Mc.ar,aC,Ks.ar,w];refine dT ?_;rw[E,kD s (by have J:=(aF.1 q).1;simp[aY,cQ,low,bA];omega)];simpa using v
    ·cases a
   ·cases a
  ·cases a
 ·cases a
def yO:List AV->aA->Option (AV×aA)
 |[.ptr l 0,.fn f [.ptr t 0,.ptr n 0]],h=>if f=Fn.bp then(match sZ h t n with
  |some (a,_)=>if a=l then uG fN Imp.row 3 l h else none|none=>none)else none|_,_=>none
theorem zN0{G:Gam}(A:G Fn.an=some (.gen (bO kY)))(y:G Fn.bp=some (.gen CH)){h:aA}{l c t n:Nat}{tg:Option TypeId}(i:l<h.length)(f:bG h.length h=true)(e:Env h l c t n){Q:Rd}(j:h[l]?=some (bX tg Q)):∀(k:Nat)(r:Rd)(a:List Imp),a.length+k<=65536->r.rest.length<=1000000->cY G [] Mc.ax_L0 (h.length+2) [.blk 0,.seq (.seq (.reg [zm 23 5,zM 4 23]) .ret)] (iO h.length Rs.ax (.own (h.length+1) (a++(bK fN k r).1).length (a++(bK fN k r).1).length) (GH h l tg (bK fN k r).2 3 ((a++(bK fN k r).1).map Imp.row) [])) [(0,.ptr l 0),(1,.fn Fn.bp [.ptr t 0,.ptr n 0]),(4,.own h.length 0 0),(5,.own (h.length+1) a.length a.length),(6,.n k)] (GH h l tg r 3 (a.map Imp.row) [])
 |0,r,a,N,s=>by
  have q:ltB 0 0=false:=rfl;simp only[bK,iR];refine bQ (Mc.ax_L0.eq_1) ?_;rw[kD f (by have D:=(aF.1 e.et).1;have C:=(aF.1 e.en).1;simp[aY,cQ,low,bA];omega)];simp[iO];exact sG f (by simp[cZ,eR,fA,Rs.ax,aV,lkp])|k+1,r,a,N,s=>by
  have q:ltB 0 ((k:Int)+1)=true:=cH.2 (by omega);have S:IntKind.i64.wrap (k:Int)=(k:Int):=i64_in _ ⟨by omega,by omega⟩;have u:opV G false (GH h l tg r 3 (a.map Imp.row) []) (.call Fn.an) (some [.ptr l 0])=some (.n r.err,GH h l tg r 3 (a.map Imp.row) []):=by
   rw[dV A];simp only[bO,kY,mJ i,bX];rfl
  have M:(a.map Imp.row).length=a.length:=by simp
  refine bQ (Mc.ax_L0.eq_1) ?_;rw[kD f (by have D:=(aF.1 e.et).1;have C:=(aF.1 e.en).1;simp[aY,cQ,low,bA];omega)];by_cases g:r.err=0
  ·obtain⟨v,d,m⟩:∃v d,fN r=(v,d):=⟨_,_,rfl⟩;have O:d.rest.length<=1000000:=by have:=TT r s;rw[m]at this;exact this
   have I:dE G Fn.bp [.ptr t 0,.ptr n 0] (GH h l tg r 3 (a.map Imp.row) [])=some (.agg (Imp.row v),GH h l tg d 3 (a.map Imp.row) [.cells (Imp.row v)]):=by
    rw[mA y];have L:=Env.of (H:=GH h l tg r 3 (a.map Imp.row) []) ⟨pF e.ec (iQ j e.ec),pF e.et (iQ j e.et),pF e.en (iQ j e.en)⟩;simp only[CH];rw[L];simp only;rw[OZ (mJ i) s,m,sH i,OA];rfl
   have F:opV G false (GH h l tg d 3 (a.map Imp.row) [.cells (Imp.row v)]) (.app false 3 40) (some [.own (h.length+1) a.length a.length,.tsl [Imp.row v]])=some (.own (h.length+1) (a++[v]).length (a++[v]).length,GH h l tg d 3 ((a++[v]).map Imp.row) [.cells (Imp.row v)]):=by
    have:=tI (G:=G) (s:=false) (h:=(GH h l tg d 3 (a.map Imp.row) [.cells (Imp.row v)])) (e:=Imp.row) (n:=3) (b:=40) (l:=h.length+1) (os:=a) (x:=v) (by rw[<-M];exact IF) rfl (by omega) (by unfold big;omega);rw[this];have w:(a++[v]).length=((a++[v]).map Imp.row).length:=by simp
    rw[w,IE,<-w]
   have P:=zN0 A y i f e j k d (a++[v]) (by simp;omega) O;have o:bK fN (k+1) r=(v::(bK fN k d).1,(bK fN k d).2):=by rw[bK,if_neg (by simpa using g),m]
   have J:a++v::(bK fN k d).1=a++[v]++(bK fN k d).1:=by simp
   rw[o];simp only;rw[J];have p:eqB r.err 0=true:=kQ.2 g;generalize bK fN k d=T at*;generalize B:GH h l tg r 3 (a.map Imp.row) []=E at*;have K:opV G false (GH h l tg d 3 (a.map Imp.row) [.cells (Imp.row v)]) (.bsl false 3) (some [.agg (Imp.row v)])=some (.tsl [Imp.row v],GH h l tg d 3 (a.map Imp.row) [.cells (Imp.row v)]):=by simp[eZ,owns,cV,view,dH,nN,bE,AV.cells,Imp.row]
   simp[q,u,p,kA,I,K,F,S,-List.length_append,-List.map_append,-gF];refine dT ?_;rw[kD f (by have D:=(aF.1 e.et).1;have C:=(aF.1 e.en).1;simp[aY,cQ,low,bA];omega)];simpa using P
  ·have p:eqB r.err 0=false:=gM.2 g;have o:bK fN (k+1) r=([],r):=by rw[bK,if_pos g]
   rw[o];simp only[iR];generalize B:GH h l tg r 3 (a.map Imp.row) []=E at*;simp[q,u,p,iO];rw[<-B];exact sG f (by simp[cZ,eR,fA,Rs.ax,aV,lkp])
theorem yY8{G:Gam}(D:G Fn.ac=some (.gen lW))(C:G Fn.an=some (.gen (bO kY)))(B:G Fn.bp=some (.gen CH)):∀g h r j,bA h.length g=true->bG h.length h=true->yO g h=some (r,j)->wpM G Mc.ax (iO h.length Rs.ax r j) [] (aC Ks.ax g) h:=by
 intro g h x j L u a;unfold yO at a;split at a
 ·rename_i l f t n;split at a
  ·rename_i E;subst E;split at a
   ·rename_i e K o;split at a
    ·rename_i I;subst I;obtain⟨tg,r,q,v,rfl,rfl⟩:=LA a;have p:e<h.length:=(aF.1 q).1;have s:=xS (lo:=0) (hi:=65536) (by omega) (by omega) (r:=r);obtain⟨m,d,i⟩:∃m d,rdNum 0 65536 r=(m,d):=⟨_,_,rfl⟩;have J:d.rest.length<=1000000:=by have:=jR 0 65536 r v;rw[i]at this;exact this
     rw[i]at s;obtain⟨k,rfl⟩:∃k:Nat,m=k:=⟨m.toNat,by simp at s;omega⟩;have A:bJ fN r=bK fN k d:=by unfold bJ;rw[i];simp
     rw[A];have y:opV G false (h++[.arr 3 0 [] true,.arr 3 0 [] true]) (.call Fn.ac) (some [.ptr e 0,.n 0,.n 65536])=some (.n k,GH h e tg d 3 [] []):=by
      rw[dV D,IG q];simp only[lW,mJ p,bX];rw[if_pos v,i];have:=sH (h:=h) (x:=[]) (l:=e) (sz:=3) (tg:=tg) (r:=r) (r':=d) (rows:=[]) p;rw[<-this];simp[bX]
     have w:=zN0 C B p u (pV o) q k d [] (by simp at s⊢;omega) J;simp only[jU,pN,kN]at w;rw[aT];have F:(GH h e tg d 3 [] []).length=h.length+2:=by rw[yZ];rfl
     generalize bK fN k d=M at*;simp[Mc.ax,aC,Ks.ax,y];refine dT ?_;rw[F,kD u (by have O:=(aF.1 (pV o).et).1;have N:=(aF.1 (pV o).en).1;simp[aY,cQ,low,bA];omega)];simpa using w
    ·cases a
   ·cases a
  ·cases a
 ·cases a
def yP:List AV->aA->Option (AV×aA)
 |[.ptr l 0,.fn f [.ptr t 0,.ptr n 0]],h=>if f=Fn.bq then(match sZ h t n with
  |some (a,_)=>if a=l then uG gB Expo.row 2 l h else none|none=>none)else none|_,_=>none
theorem zN1{G:Gam}(A:G Fn.an=some (.gen (bO kY)))(y:G Fn.bq=some (.gen CI)){h:aA}{l c t n:Nat}{tg:Option TypeId}(i:l<h.length)(f:bG h.length h=true)(e:Env h l c t n){Q:Rd}(j:h[l]?=some (bX tg Q)):∀(k:Nat)(r:Rd)(a:List Expo),a.length+k<=65536->r.rest.length<=1000000->cY G [] Mc.av_L0 (h.length+2) [.blk 0,.seq (.seq (.reg [zm 23 5,zM 4 23]) .ret)] (iO h.length Rs.av (.own (h.length+1) (a++(bK gB k r).1).length (a++(bK gB k r).1).length) (GH h l tg (bK gB k r).2 2 ((a++(bK gB k r).1).map Expo.row) [])) [(0,.ptr l 0),(1,.fn Fn.bq [.ptr t 0,.ptr n 0]),(4,.own h.length 0 0),(5,.own (h.length+1) a.length a.length),(6,.n k)] (GH h l tg r 2 (a.map Expo.row) [])
 |0,r,a,N,s=>by
  have q:ltB 0 0=false:=rfl;simp only[bK,iR];refine bQ (Mc.av_L0.eq_1) ?_;rw[kD f (by have D:=(aF.1 e.et).1;have C:=(aF.1 e.en).1;simp[aY,cQ,low,bA];omega)];simp[iO];exact sG f (by simp[cZ,eR,fA,Rs.av,aV,lkp])|k+1,r,a,N,s=>by
  have q:ltB 0 ((k:Int)+1)=true:=cH.2 (by omega);have S:IntKind.i64.wrap (k:Int)=(k:Int):=i64_in _ ⟨by omega,by omega⟩;have u:opV G false (GH h l tg r 2 (a.map Expo.row) []) (.call Fn.an) (some [.ptr l 0])=some (.n r.err,GH h l tg r 2 (a.map Expo.row) []):=by
   rw[dV A];simp only[bO,kY,mJ i,bX];rfl
  have M:(a.map Expo.row).length=a.length:=by simp
  refine bQ (Mc.av_L0.eq_1) ?_;rw[kD f (by have D:=(aF.1 e.et).1;have C:=(aF.1 e.en).1;simp[aY,cQ,low,bA];omega)];by_cases g:r.err=0
  ·obtain⟨v,d,m⟩:∃v d,gB r=(v,d):=⟨_,_,rfl⟩;have O:d.rest.length<=1000000:=by have:=TQ r s;rw[m]at this;exact this
   have I:dE G Fn.bq [.ptr t 0,.ptr n 0] (GH h l tg r 2 (a.map Expo.row) [])=some (.agg (Expo.row v),GH h l tg d 2 (a.map Expo.row) [.cells (Expo.row v)]):=by
    rw[mA y];have L:=Env.of (H:=GH h l tg r 2 (a.map Expo.row) []) ⟨pF e.ec (iQ j e.ec),pF e.et (iQ j e.et),pF e.en (iQ j e.en)⟩;simp only[CI];rw[L];simp only;rw[OZ (mJ i) s,m,sH i,OA];rfl
   have F:opV G false (GH h l tg d 2 (a.map Expo.row) [.cells (Expo.row v)]) (.app false 2 24) (some [.own (h.length+1) a.length a.length,.tsl [Expo.row v]])=some (.own (h.length+1) (a++[v]).length (a++[v]).length,GH h l tg d 2 ((a++[v]).map Expo.row) [.cells (Expo.row v)]):=by
    have:=tI (G:=G) (s:=false) (h:=(GH h l tg d 2 (a.map Expo.row) [.cells (Expo.row v)])) (e:=Expo.row) (n:=2) (b:=24) (l:=h.length+1) (os:=a) (x:=v) (by rw[<-M];exact IF) rfl (by omega) (by unfold big;omega);rw[this];have w:(a++[v]).length=((a++[v]).map Expo.row).length:=by simp
    rw[w,IE,<-w]
   have P:=zN1 A y i f e j k d (a++[v]) (by simp;omega) O;have o:bK gB (k+1) r=(v::(bK gB k d).1,(bK gB k d).2):=by rw[bK,if_neg (by simpa using g),m]
   have J:a++v::(bK gB k d).1=a++[v]++(bK gB k d).1:=by simp
   rw[o];simp only;rw[J];have p:eqB r.err 0=true:=kQ.2 g;generalize bK gB k d=T at*;generalize B:GH h l tg r 2 (a.map Expo.row) []=E at*;have K:opV G false (GH h l tg d 2 (a.map Expo.row) [.cells (Expo.row v)]) (.bsl false 2) (some [.agg (Expo.row v)])=some (.tsl [Expo.row v],GH h l tg d 2 (a.map Expo.row) [.cells (Expo.row v)]):=by simp[eZ,owns,cV,view,dH,nN,bE,AV.cells,Expo.row]
   simp[q,u,p,kA,I,K,F,S,-List.length_append,-List.map_append,-gF];refine dT ?_;rw[kD f (by have D:=(aF.1 e.et).1;have C:=(aF.1 e.en).1;simp[aY,cQ,low,bA];omega)];simpa using P
  ·have p:eqB r.err 0=false:=gM.2 g;have o:bK gB (k+1) r=([],r):=by rw[bK,if_pos g]
   rw[o];simp only[iR];generalize B:GH h l tg r 2 (a.map Expo.row) []=E at*;simp[q,u,p,iO];rw[<-B];exact sG f (by simp[cZ,eR,fA,Rs.av,aV,lkp])
theorem yY9{G:Gam}(D:G Fn.ac=some (.gen lW))(C:G Fn.an=some (.gen (bO kY)))(B:G Fn.bq=some (.gen CI)):∀g h r j,bA h.length g=true->bG h.length h=true->yP g h=some (r,j)->wpM G Mc.av (iO h.length Rs.av r j) [] (aC Ks.av g) h:=by
 intro g h x j L u a;unfold yP at a;split at a
 ·rename_i l f t n;split at a
  ·rename_i E;subst E;split at a
   ·rename_i e K o;split at a
    ·rename_i I;subst I;obtain⟨tg,r,q,v,rfl,rfl⟩:=LA a;have p:e<h.length:=(aF.1 q).1;have s:=xS (lo:=0) (hi:=65536) (by omega) (by omega) (r:=r);obtain⟨m,d,i⟩:∃m d,rdNum 0 65536 r=(m,d):=⟨_,_,rfl⟩;have J:d.rest.length<=1000000:=by have:=jR 0 65536 r v;rw[i]at this;exact this
     rw[i]at s;obtain⟨k,rfl⟩:∃k:Nat,m=k:=⟨m.toNat,by simp at s;omega⟩;have A:bJ gB r=bK gB k d:=by unfold bJ;rw[i];simp
     rw[A];have y:opV G false (h++[.arr 2 0 [] true,.arr 2 0 [] true]) (.call Fn.ac) (some [.ptr e 0,.n 0,.n 65536])=some (.n k,GH h e tg d 2 [] []):=by
      rw[dV D,IG q];simp only[lW,mJ p,bX];rw[if_pos v,i];have:=sH (h:=h) (x:=[]) (l:=e) (sz:=2) (tg:=tg) (r:=r) (r':=d) (rows:=[]) p;rw[<-this];simp[bX]
     have w:=zN1 C B p u (pV o) q k d [] (by simp at s⊢;omega) J;simp only[jU,pN,kN]at w;rw[aT];have F:(GH h e tg d 2 [] []).length=h.length+2:=by rw[yZ];rfl
     generalize bK gB k d=M at*;simp[Mc.av,aC,Ks.av,y];refine dT ?_;rw[F,kD u (by have O:=(aF.1 (pV o).et).1;have N:=(aF.1 (pV o).en).1;simp[aY,cQ,low,bA];omega)];simpa using w
    ·cases a
   ·cases a
  ·cases a
 ·cases a
def yQ:List AV->aA->Option (AV×aA)
 |[.ptr l 0,.fn f [.ptr t 0]],h=>if f=Fn.br then(match zZ h t with
  |some (a,_)=>if a=l then uG gE eW 2 l h else none|none=>none)else none|_,_=>none
theorem zN2{G:Gam}(y:G Fn.an=some (.gen (bO kY)))(w:G Fn.br=some (.gen CJ)){h:aA}{l c t:Nat}{tg:Option TypeId}(i:l<h.length)(f:bG h.length h=true)(e:EnvT h l c t){O:Rd}(n:h[l]?=some (bX tg O)):∀(k:Nat)(r:Rd)(a:List (Bs×Bs)),a.length+k<=65536->r.rest.length<=1000000->cY G [] Mc.ay_L0 (h.length+2) [.blk 0,.seq (.seq (.reg [zm 23 5,zM 4 23]) .ret)] (iO h.length Rs.ay (.own (h.length+1) (a++(bK gE k r).1).length (a++(bK gE k r).1).length) (GH h l tg (bK gE k r).2 2 ((a++(bK gE k r).1).map eW) [])) [(0,.ptr l 0),(1,.fn Fn.br [.ptr t 0]),(4,.own h.length 0 0),(5,.own (h.length+1) a.length a.length),(6,.n k)] (GH h l tg r 2 (a.map eW) [])
 |0,r,a,L,p=>by
  have q:ltB 0 0=false:=rfl;simp only[bK,iR];refine bQ (Mc.ay_L0.eq_1) ?_;rw[kD f (by have B:=(aF.1 e.et).1;simp[aY,cQ,low,bA];omega)];simp[iO];exact sG f (by simp[cZ,eR,fA,Rs.ay,aV,lkp])|k+1,r,a,L,p=>by
  have q:ltB 0 ((k:Int)+1)=true:=cH.2 (by omega);have P:IntKind.i64.wrap (k:Int)=(k:Int):=i64_in _ ⟨by omega,by omega⟩;have s:opV G false (GH h l tg r 2 (a.map eW) []) (.call Fn.an) (some [.ptr l 0])=some (.n r.err,GH h l tg r 2 (a.map eW) []):=by
   rw[dV y];simp only[bO,kY,mJ i,bX];rfl
  have K:(a.map eW).length=a.length:=by simp
  refine bQ (Mc.ay_L0.eq_1) ?_;rw[kD f (by have B:=(aF.1 e.et).1;simp[aY,cQ,low,bA];omega)];by_cases g:r.err=0
  ·obtain⟨v,d,j⟩:∃v d,gE r=(v,d):=⟨_,_,rfl⟩;have M:d.rest.length<=1000000:=by have:=zZ9 r p;rw[j]at this;exact this
   have E:dE G Fn.br [.ptr t 0] (GH h l tg r 2 (a.map eW) [])=some (.agg (eW v),GH h l tg d 2 (a.map eW) [.cells (eW v)]):=by
    rw[mA w];have J:=EnvT.of (H:=GH h l tg r 2 (a.map eW) []) ⟨pF e.ec (iQ n e.ec),pF e.et (iQ n e.et)⟩;simp only[CJ];rw[J];simp only;rw[OZ (mJ i) p,j,sH i,OA];rfl
   have D:opV G false (GH h l tg d 2 (a.map eW) [.cells (eW v)]) (.app false 2 32) (some [.own (h.length+1) a.length a.length,.tsl [eW v]])=some (.own (h.length+1) (a++[v]).length (a++[v]).length,GH h l tg d 2 ((a++[v]).map eW) [.cells (eW v)]):=by
    have:=tI (G:=G) (s:=false) (h:=(GH h l tg d 2 (a.map eW) [.cells (eW v)])) (e:=eW) (n:=2) (b:=32) (l:=h.length+1) (os:=a) (x:=v) (by rw[<-K];exact IF) rfl (by omega) (by unfold big;omega);rw[this];have u:(a++[v]).length=((a++[v]).map eW).length:=by simp
    rw[u,IE,<-u]
   have N:=zN2 y w i f e n k d (a++[v]) (by simp;omega) M;have m:bK gE (k+1) r=(v::(bK gE k d).1,(bK gE k d).2):=by rw[bK,if_neg (by simpa using g),j]
   have F:a++v::(bK gE k d).1=a++[v]++(bK gE k d).1:=by simp
   rw[m];simp only;rw[F];have o:eqB r.err 0=true:=kQ.2 g;generalize bK gE k d=Q at*;generalize A:GH h l tg r 2 (a.map eW) []=C at*;have I:opV G false (GH h l tg d 2 (a.map eW) [.cells (eW v)]) (.bsl false 2) (some [.agg (eW v)])=some (.tsl [eW v],GH h l tg d 2 (a.map eW) [.cells (eW v)]):=by simp[eZ,owns,cV,view,dH,nN,bE,AV.cells,eW]
   simp[q,s,o,kA,E,I,D,P,-List.length_append,-List.map_append,-gF];refine dT ?_;rw[kD f (by have B:=(aF.1 e.et).1;simp[aY,cQ,low,bA];omega)];simpa using N
  ·have o:eqB r.err 0=false:=gM.2 g;have m:bK gE (k+1) r=([],r):=by rw[bK,if_pos g]
   rw[m];simp only[iR];generalize A:GH h l tg r 2 (a.map eW) []=C at*;simp[q,s,o,iO];rw[<-A];exact sG f (by simp[cZ,eR,fA,Rs.ay,aV,lkp])
theorem yZ0{G:Gam}(C:G Fn.ac=some (.gen lW))(B:G Fn.an=some (.gen (bO kY)))(A:G Fn.br=some (.gen CJ)):∀g h r j,bA h.length g=true->bG h.length h=true->yQ g h=some (r,j)->wpM G Mc.ay (iO h.length Rs.ay r j) [] (aC Ks.ay g) h:=by
 intro g h x j K s a;unfold yQ at a;split at a
 ·rename_i l f t;split at a
  ·rename_i D;subst D;split at a
   ·rename_i e J q;split at a
    ·rename_i F;subst F;obtain⟨tg,r,o,u,rfl,rfl⟩:=LA a;have n:e<h.length:=(aF.1 o).1;have p:=xS (lo:=0) (hi:=65536) (by omega) (by omega) (r:=r);obtain⟨m,d,i⟩:∃m d,rdNum 0 65536 r=(m,d):=⟨_,_,rfl⟩;have I:d.rest.length<=1000000:=by have:=jR 0 65536 r u;rw[i]at this;exact this
     rw[i]at p;obtain⟨k,rfl⟩:∃k:Nat,m=k:=⟨m.toNat,by simp at p;omega⟩;have y:bJ gE r=bK gE k d:=by unfold bJ;rw[i];simp
     rw[y];have w:opV G false (h++[.arr 2 0 [] true,.arr 2 0 [] true]) (.call Fn.ac) (some [.ptr e 0,.n 0,.n 65536])=some (.n k,GH h e tg d 2 [] []):=by
      rw[dV C,IG o];simp only[lW,mJ n,bX];rw[if_pos u,i];have:=sH (h:=h) (x:=[]) (l:=e) (sz:=2) (tg:=tg) (r:=r) (r':=d) (rows:=[]) n;rw[<-this];simp[bX]
     have v:=zN2 B A n s (QD q) o k d [] (by simp at p⊢;omega) I;simp only[jU,pN,kN]at v;rw[aT];have E:(GH h e tg d 2 [] []).length=h.length+2:=by rw[yZ];rfl
     generalize bK gE k d=L at*;simp[Mc.ay,aC,Ks.ay,w];refine dT ?_;rw[E,kD s (by have M:=(aF.1 (QD q).et).1;simp[aY,cQ,low,bA];omega)];simpa using v
    ·cases a
   ·cases a
  ·cases a
 ·cases a
end Go.Proofs.YtpefhfiehfkocaaGreatDoor
