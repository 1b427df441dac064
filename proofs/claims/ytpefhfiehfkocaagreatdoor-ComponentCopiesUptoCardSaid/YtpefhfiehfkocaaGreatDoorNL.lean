/- influence -/
import Derived.Test.YtpefhfiehfkocaaGreatDoorNH
import Derived.Test.YtpefhfiehfkocaaGreatDoorNK
namespace Go.Proofs.YtpefhfiehfkocaaGreatDoor
open Go.RowKit Go.IntWalk
noncomputable section
def oZ(q:Bs)(s:Seg):List (List AV):=if s.k=2 then[[.str q,.n s.i,.n (s.i+1)]]else[]
def dX(q:Bs)(s:Seg):AV:=.agg [.sl (oZ q s),.sl [],.sl []]
def eS(q:Bs)(a:List Seg):List (AV×AV):=a.map fun s=>(.agg s.row,dX q s)
theorem xs1{q:Bs}{a:List Seg}{s:Seg}:eS q (a++[s])=eS q a++[(.agg s.row,dX q s)]:=by simp[eS]
theorem zn7{q:Bs}{f:Seg}{v:AV}:∀{a:List Seg},f∉a->kZ sgK f.row v (eS q a)=some (eS q a++[(.agg f.row,v)])
 |[],_=>rfl|g::a,h=>by
  simp only[dD,not_or]at h;have b:=zn7 (q:=q) (v:=v) h.2;have c:g.row.length=sgK.length:=rfl;simp only[eS,fE,kZ,c,aM,KC h.1]at b⊢;rw[b];rfl
theorem VQ{q:Bs}{f:Seg}:∀{a:List Seg},f∉a->iY sgK f.row (eS q a)=some none
 |[],_=>rfl|g::a,h=>by
  simp only[dD,not_or]at h;have b:=VQ (q:=q) h.2;have c:g.row.length=sgK.length:=rfl;simp only[eS,fE,iY,c,aM,KC h.1]at b⊢;exact b
theorem yH8(f:Seg):eV sgK f.row f.row=some true:=by
 obtain⟨p,m,k,i⟩:=f;simp[sgK,Seg.row,eV]
theorem zn3{q:Bs}{f:Seg}:∀{gs:List Seg},f∈gs->iY sgK f.row (eS q gs)=some (some (dX q f))
 |g::gs,h=>by
  have a:g.row.length=sgK.length:=rfl;by_cases e:f=g
  ·subst e;simp only[eS,fE,iY,a,aM,yH8]
  ·have b:=zn3 (q:=q) (f:=f) (gs:=gs) (by rcases dD.1 h with h|h;exact absurd h e;exact h);simp only[eS,fE,iY,a,aM,KC e]at b⊢;exact b
structure TrAsk(FOf:List AV->aA->Option (AV×aA))(FT FU:List AV->Option AV)(x mo mw:Nat)(xs:List AV)(ew:List (AV×AV))(q:Bs)(segs:List Seg):Prop where
 of:∀s∈segs,∀pre,(∀g∈pre,g∈segs)->∀H:aA,H[x]?=some (.cells xs)->H[mo]?=some (.map (eS q pre))->H[mw]?=some (.map ew)->FOf [.ptr x 0,.agg (s.at_ q).row] H=some (dX q s,H)th:∀s∈segs,FT [dX q s,.n 1]=some (.tup [dX q s,.n 0])un:∀s∈segs,FU [.agg [.sl [],.sl [],.sl []],dX q s]=some (.tup [dX q s,.n 0])
theorem yd5{G:Gam}{W:List AV->aA->Option (AV×aA)}{Y Z:List AV->Option AV}(N:G Fn.ad=some (.gen W))(d2:G Fn.bs=some (.pure Y))(d3:G Fn.b3=some (.pure Z)){A:aA}{x mo mw:Nat}{c0 c1 c2 c3:AV}{J:List (AV×AV)}(O:A[x]?=some (.cells [c0,c1,c2,c3,.map mo,.map mw]))(L:A[mw]?=some (.map J))(y:mo<A.length)(b1:mo≠x)(b2:mo≠mw){d:List Seg}{q:Bs}(M:d.Nodup)(hn:d.length<big)(o:TrAsk W Y Z x mo mw [c0,c1,c2,c3,.map mo,.map mw] J q d){a0 a2 a3 a4 a5 a7 a33 a34:AV}{Q:aS}(hQ:∀e2 T,Q .normal e2 [(0,a0),(2,a2),(3,a3),(4,a4),(5,a5),(6,.ptr x 0),(7,a7),(9,.junk),(10,.junk),(33,a33),(34,a34),(54,.sl (eP (d.map (cpF q)))),(55,.n (d.length:Int)),(56,.n (d.length:Int))] (A.set mo (.map (eS q d))++T)):∀(C c:List Seg)(V U:AV)(T:aA),d=c++C->cY G [9,10] Mc.a3_L1 A.length [MK.blk 2] Q [(0,a0),(2,a2),(3,a3),(4,a4),(5,a5),(6,.ptr x 0),(7,a7),(9,V),(10,U),(33,a33),(34,a34),(54,.sl (eP (d.map (cpF q)))),(55,.n (d.length:Int)),(56,.n (c.length:Int))] (A.set mo (.map (eS q c))++T)
 |[],c,V,U,T,f=>by
  obtain rfl:d=c:=by simpa using f
  have q0:ltB (d.length:Int) (d.length:Int)=false:=by simp[ltB]
  refine tC (Mc.a3_L1.eq_1) (by simp) fun T=>?_;simp[aY];exact hQ _ _|s::C,c,V,U,T,f=>by
  have j3:d.length=c.length+C.length+1:=by rw[f];simp;omega
  have z:s∈d:=by rw[f];simp
  have b3:∀a1∈c,a1∈d:=fun a1 K=>by rw[f];simp[K]
  have d1:s∉c:=fun h=>by
   rw[f]at M;exact(List.nodup_append.1 M).2.2 s h s (by simp) rfl
  have ih:=yd5 (G:=G) N d2 d3 O L y b1 b2 M hn o hQ C (c++[s]);have q0:ltB (c.length:Int) (d.length:Int)=true:=cH.2 (by omega);have hw:=iJ (i:=c.length) (by omega);have K:(eP (d.map (cpF q)))[c.length]?=some (cpF q s).row:=by rw[f];simp[eP]
  have f2:x<A.length:=(aF.1 O).1;have f1:mw<A.length:=(aF.1 L).1;refine tC (Mc.a3_L1.eq_1) (by simp) fun T=>?_;simp only[aY];generalize u:A.set mo (.map (eS q c))++T=B at*;have I:B[x]?=some (.cells [c0,c1,c2,c3,.map mo,.map mw]):=by rw[<-u,aX (by rw[gT];exact f2),eY b1];exact O
  have bw:B[mw]?=some (.map J):=by rw[<-u,aX (by rw[gT];exact f1),eY b2];exact L
  have r:B[mo]?=some (.map (eS q c)):=by rw[<-u,aX (by rw[gT];exact y),fL y]
  have up:∀(X:aA)i b,B[i]?=some b->(B++X)[i]?=some b:=fun X i b h=>by rw[aX (aF.1 h).1];exact h
  have i1:bN 9 B (.sl (eP (d.map (cpF q)))) (.n (c.length:Int))=some (.fptr (cpF q s).row 0):=by
   simp only[bN];rw[if_pos (by omega),qV,K];rfl
  have i2:aB 9 true B (.fptr (cpF q s).row 0)=some (.agg (cpF q s).row):=rfl;generalize l:B++[Blk.cells (cpF q s).row]=D at*;have s9:bB 9 (B++[.cells [AV.str [],AV.str [],AV.int IntKind.i64 0,AV.int IntKind.i64 0,AV.str [],AV.str [],AV.int IntKind.i64 0,AV.int IntKind.i64 0,AV.int IntKind.i64 0]]) (.ptr B.length 0) (.agg (cpF q s).row)=some D:=by rw[<-l,aQ];simp[AV.cells,Fl.row,bE,bF]
  have g:D[B.length]?=some (.cells (cpF q s).row):=by rw[<-l];simp
  have j2:D.length=B.length+1:=by rw[<-l];simp
  have e:∀i b,B[i]?=some b->D[i]?=some b:=fun i b h=>by rw[<-l];exact up _ i b h
  have l3:((cpF q s).row.drop 4).take 4=(s.at_ q).row:=rfl;generalize v:D++[Blk.cells [AV.nils,AV.nils,AV.nils]]=E at*;generalize w:D++[Blk.cells [.sl (oZ q s),.sl [],.sl []]]=F at*;have upE:∀i b,D[i]?=some b->E[i]?=some b:=fun i b h=>by rw[<-v,aX (aF.1 h).1];exact h
  have j:∀i b,D[i]?=some b->F[i]?=some b:=fun i b h=>by rw[<-w,aX (aF.1 h).1];exact h
  have P:∀H:aA,H[B.length]?=some (.cells (cpF q s).row)->aB 4 true H (.ptr B.length 4)=some (.agg (s.at_ q).row):=fun H h=>by simp only[aB,h];rfl
  have l0:∀H:aA,H[B.length]?=some (.cells (cpF q s).row)->aB 4 true H (.ptr B.length 0)=some (.agg s.row):=fun H h=>by simp only[aB,h];rfl
  have S:∀H:aA,H[B.length]?=some (.cells (cpF q s).row)->aB 1 false H (.ptr B.length 8)=some (.n 1):=fun H h=>bT h rfl;have g1:=P D g;have g3:=S D g;have g2:=P E (upE _ _ g);have i3:=S E (upE _ _ g);have f3:=l0 F (j _ _ g);have l2:=S F (j _ _ g);have l1:=P F (j _ _ g);have cD:∀a,opV G a D (.callg Fn.ad) (some [.ptr x 0,.agg (s.at_ q).row])=some (dX q s,D):=fun a=>by rw[oT N];exact o.of s z c b3 D (e _ _ I) (e _ _ r) (e _ _ bw)
  have cE:∀a,opV G a E (.callg Fn.ad) (some [.ptr x 0,.agg (s.at_ q).row])=some (dX q s,E):=fun a=>by rw[oT N];exact o.of s z c b3 E (upE _ _ (e _ _ I)) (upE _ _ (e _ _ r)) (upE _ _ (e _ _ bw))
  have ct:∀a H,opV G a H (.call Fn.bs) (some [dX q s,.n 1])=some (.tup [dX q s,.n 0],H):=fun a H=>cU d2 rfl (o.th s z) (.inr rfl);have cu:∀a H,opV G a H (.call Fn.b3) (some [.agg [.nils,.nils,.nils],dX q s])=some (.tup [dX q s,.n 0],H):=fun a H=>cU d3 (us:=[.agg [.sl [],.sl [],.sl []],dX q s]) rfl (o.un s z) (.inr rfl);have al:∀a,opV G a D (.alloc [.nils,.nils,.nils]) (some [])=some (.ptr D.length 0,E):=fun a=>by rw[<-v];exact iH
  have j1:bB 3 E (.ptr D.length 0) (dX q s)=some F:=by rw[<-v,<-w,aQ];simp[AV.cells,dX,bE,bF]
  have lF:aB 3 true F (.ptr D.length 0)=some (dX q s):=by
   have:F[D.length]?=some (.cells [.sl (oZ q s),.sl [],.sl []]):=by rw[<-w];simp
   simp[aB,this,cut,aD,dX]
  have fx:=j _ _ (e _ _ I);have nk:∀a,opV G a F .nilck (some [.ptr x 0])=some (.ptr x 0,F):=fun a=>by rw[bW rfl];rfl
  have lm:aB 1 false F (.ptr x 4)=some (.map mo):=by simp[aB,fx,cut,aD]
  have lk:∀a,opV G a F (.lookA [.s,.s,.i,.i] false (.agg [.nils,.nils,.nils])) (some [.map mo,.agg s.row])=some (.agg [.nils,.nils,.nils],F):=fun a=>by
   have t:s.row.length=[EK.s,.s,.i,.i].length:=rfl;have k:=VQ (q:=q) d1;simp only[sgK]at k;rw[bW rfl];simp only[bV,t,aM,j _ _ (e _ _ r),k];rfl
  have mu:∀a,opV G a F (.mapupA [.s,.s,.i,.i]) (some [.map mo,.agg s.row,dX q s])=some (.junk,F.set mo (.map (eS q (c++[s])))):=fun a=>by
   have t:s.row.length=sgK.length:=rfl;have k:rP sgK s.row=true:=rfl;have h3:=zn7 (q:=q) (v:=dX q s) d1;simp only[sgK]at t k h3;rw[fG rfl];have hv:view F (dX q s)=some (dX q s):=rfl;have ho:owns (dX q s)=[]:=rfl;simp only[bC,k,t,frz,hv,ho,dC,j _ _ (e _ _ r),h3,and_self,aM,dI,xs1]
  have x0:∀H a,opV G a H (.ext 0) (some [.tup [dX q s,.n 0]])=some (dX q s,H):=fun H a=>by rw[bW rfl];rfl
  have e3:F.set mo (.map (eS q (c++[s])))=A.set mo (.map (eS q (c++[s])))++(T++[.cells (cpF q s).row,.cells [.sl (oZ q s),.sl [],.sl []]]):=by
   rw[<-w,<-l,<-u];simp only[jT];rw[oI _ _ (by rw[gT];exact y),mN];rfl
  have e1:=ih (.ptr B.length 0) (.ptr D.length 0) (T++[.cells (cpF q s).row,.cells [.sl (oZ q s),.sl [],.sl []]]) (by rw[f];simp);rw[<-e3]at e1;generalize eP (d.map (cpF q))=RR at*;generalize dX q s=ov at*;simp[q0,hw,i1,i2,s9,g1,g3,g2,i3,cD,cE,ct,v,j1,nk,lm,f3,lk,lF,cu,mu,-aQ,-aB];simpa using e1
def whR(q:Bs)(i:Nat):List (List AV):=if i=0 then[]else[[.str q,.n 0,.n (i:Int)]]
def whV(q:Bs):Nat->List AV
 |0=>[.nils,.nils,.nils]|i+1=>[.sl (whR q i),.sl [],.sl []]
def whU(q:Bs):Nat->List AV
 |0=>[.sl [],.sl [],.sl []]|i+1=>[.sl (whR q i),.sl [],.sl []]
def fiV:Nat->List AV
 |0=>[.nils,.nils,.nils]|_+1=>[.sl [],.sl [],.sl []]
theorem xF6(q:Bs)(H:aA)(X:AV)(a:view H X=some X)(i:Nat):cV H [.agg (whV q i),X]=some [.agg (whU q i),X]:=by cases i<;>simp[whV,whU,cV,view,a]
structure InAsk(FOf:List AV->aA->Option (AV×aA))(FU:List AV->Option AV)(x mo mw:Nat)(xs:List AV)(ew:List (AV×AV))(p q:Bs)(n:Nat):Prop where
 of:∀(i:Nat)(s:Seg),(dN p n)[i]?=some s->∀H:aA,H[x]?=some (.cells xs)->H[mo]?=some (.map (eS q (dN p n)))->H[mw]?=some (.map ew)->FOf [.ptr x 0,.agg s.row] H=some (dX q s,H)un:∀(i:Nat)(s:Seg),(dN p n)[i]?=some s->FU [.agg (whU q i),dX q s]=some (.tup [.agg (whV q (i+1)),.n 0])
theorem zd6{p:Bs}{n:Nat}{s:Seg}(h:(dN p n)[0]?=some s):s=⟨p,[],1,0⟩:=by simp[dN]at h;exact h.symm
theorem zZ0{p:Bs}{n i:Nat}{s:Seg}(h:(dN p n)[i+1]?=some s):s=⟨p,[],2,(i:Int)⟩:=by
 simp only[dN,oG,pM,bS]at h;obtain⟨j,a,rfl⟩:=h;have b:i<n:=by have:=(aF.1 a).1;simpa using this
 rw[IP b]at a;injection a with a;subst a;rfl
theorem zH3{G:Gam}{O:List AV->aA->Option (AV×aA)}{P:List AV->Option AV}(b1:G Fn.ad=some (.gen O))(b3:G Fn.b3=some (.pure P)){A:aA}{x mo mw wi fi:Nat}{c0 c1 c2 c3 rc:AV}{Y:List (AV×AV)}{p q:Bs}{n:Nat}(hx:A[x]?=some (.cells [c0,c1,c2,c3,.map mo,.map mw]))(a3:A[mw]?=some (.map Y))(a2:A[mo]?=some (.map (eS q (dN p n))))(u:wi<A.length)(r:fi<A.length)(t:wi≠fi)(n1:wi≠x)(n2:wi≠mw)(n3:wi≠mo)(n4:fi≠x)(n5:fi≠mw)(n6:fi≠mo)(b2:bE rc=true)(hn:n<2000)(I:InAsk O P x mo mw [c0,c1,c2,c3,.map mo,.map mw] Y p q n){a1 a4 a7 a8 a9:AV}{Q:aS}(Z:∀e2 T,Q .normal e2 [(0,.ptr x 0),(1,a1),(4,a4),(5,.ptr wi 0),(6,.ptr fi 0),(7,a7),(8,a8),(9,a9),(12,.junk),(13,.junk),(14,.junk),(62,.sl ((dN p n).map Seg.row)),(63,.n ((n+1:Nat):Int)),(64,.n ((n+1:Nat):Int))] ((A.set wi (.cells (.str p::whV q (n+1)++[rc,.nils]))).set fi (.cells (fiV (n+1)))++T)):∀(k i:Nat)(K L M:AV)(T:aA),i+k=n+1->cY G [12,13,14] Mc.bu_L0 A.length [MK.blk 0] Q [(0,.ptr x 0),(1,a1),(4,a4),(5,.ptr wi 0),(6,.ptr fi 0),(7,a7),(8,a8),(9,a9),(12,K),(13,L),(14,M),(62,.sl ((dN p n).map Seg.row)),(63,.n ((n+1:Nat):Int)),(64,.n (i:Int))] ((A.set wi (.cells (.str p::whV q i++[rc,.nils]))).set fi (.cells (fiV i))++T)
 |0,i,K,L,M,T,hs=>by
  obtain rfl:i=n+1:=by omega
  have J:ltB ((n+1:Nat):Int) ((n+1:Nat):Int)=false:=by simp[ltB]
  refine tC (Mc.bu_L0.eq_1) (by simp) fun T=>?_;simp only[aY];generalize((n+1:Nat):Int)=d3 at*;simp;exact Z _ _|k+1,i,K,L,M,T,hs=>by
  have j2:(dN p n).length=n+1:=by simp[dN]
  have J:ltB (i:Int) ((n+1:Nat):Int)=true:=cH.2 (by omega);have hw:=iJ (i:=i) (by unfold big;omega);have f3:i<(dN p n).length:=by omega
  obtain⟨s,a⟩:∃s,(dN p n)[i]?=some s:=⟨_,gI f3⟩;have hu:=I.un i s a;have ih:=zH3 (G:=G) b1 b3 hx a3 a2 u r t n1 n2 n3 n4 n5 n6 b2 hn I Z k (i+1);refine tC (Mc.bu_L0.eq_1) (by simp) fun T=>?_;simp only[aY];have f2:((dN p n).map Seg.row)[i]?=some s.row:=by simp[a]
  generalize j1:(dN p n).map Seg.row=SS at*;generalize((n+1:Nat):Int)=d3 at*;generalize c:(A.set wi (.cells (.str p::whV q i++[rc,.nils]))).set fi (.cells (fiV i))++T=B at*;have lB:A.length<=B.length:=by rw[<-c];simp
  have low:∀j b,j≠wi->j≠fi->A[j]?=some b->B[j]?=some b:=fun j b h1 h2 h=>by
   have:=(aF.1 h).1;rw[<-c,aX (by simpa using this),eY h2.symm,eY h1.symm];exact h
  have bx:=low x _ n1.symm n4.symm hx;have bw:=low mw _ n2.symm n5.symm a3;have bm:=low mo _ n3.symm n6.symm a2;have w:B[wi]?=some (.cells (.str p::whV q i++[rc,.nils])):=by rw[<-c,aX (by simpa using u),eY t.symm,fL u]
  have e1:B[fi]?=some (.cells (fiV i)):=by rw[<-c,aX (by simpa using r),fL (by simpa using r)]
  have i1:bN 4 B (.sl SS) (.n (i:Int))=some (.fptr s.row 0):=by
   simp only[bN];rw[if_pos (by omega),qV,f2];rfl
  have i2:aB 4 true B (.fptr s.row 0)=some (.agg s.row):=rfl;generalize d:B++[Blk.cells s.row]=D at*;have s4:bB 4 (B++[.cells [AV.str [],AV.str [],AV.int IntKind.i64 0,AV.int IntKind.i64 0]]) (.ptr B.length 0) (.agg s.row)=some D:=by rw[<-d,aQ];simp[AV.cells,Seg.row,bE,bF]
  have l:∀j b,B[j]?=some b->D[j]?=some b:=fun j b h=>by rw[<-d,aX (aF.1 h).1];exact h
  have V:D[B.length]?=some (.cells s.row):=by rw[<-d];simp
  have l4:aB 4 true D (.ptr B.length 0)=some (.agg s.row):=by simp only[aB,V];rfl
  have S:∀g,opV G g D (.callg Fn.ad) (some [.ptr x 0,.agg s.row])=some (dX q s,D):=fun g=>by rw[oT b1];exact I.of i s a D (l _ _ bx) (l _ _ bm) (l _ _ bw)
  generalize o:D++[Blk.cells [.sl (oZ q s),.sl [],.sl []]]=E at*;have s3:bB 3 (D++[.cells [AV.nils,AV.nils,AV.nils]]) (.ptr D.length 0) (dX q s)=some E:=by rw[<-o,aQ];simp[AV.cells,dX,bE,bF]
  have upE:∀j b,D[j]?=some b->E[j]?=some b:=fun j b h=>by rw[<-o,aX (aF.1 h).1];exact h
  have z:=upE _ _ (l _ _ w);have W:E[D.length]?=some (.cells [.sl (oZ q s),.sl [],.sl []]):=by rw[<-o];simp
  have lw:aB 3 true E (.ptr wi 1)=some (.agg (whV q i)):=by simp only[aB,z];cases i<;>rfl
  have lo:aB 3 true E (.ptr D.length 0)=some (dX q s):=by simp only[aB,W];rfl
  have U:∀g,opV G g E (.call Fn.b3) (some [.agg (whV q i),dX q s])=some (.tup [.agg (whV q (i+1)),.n 0],E):=fun g=>cU b3 (us:=[.agg (whU q i),dX q s]) (xF6 q E _ rfl i) hu (.inr (by cases i<;>rfl));generalize f:E.set wi (.cells (.str p::whV q (i+1)++[rc,.nils]))=F at*;have d2:bB 3 E (.ptr wi 1) (.agg (whV q (i+1)))=some F:=by rw[<-f,aQ];cases i<;>simp[z,AV.cells,whV,bE,bF]
  have l1:wi<E.length:=(aF.1 z).1;have ep:=upE _ _ V;have g1:B.length≠wi:=fun e=>by have:=(aF.1 w).1;omega
  have f1:D.length≠wi:=fun e=>by have:=(aF.1 w).1;rw[<-d]at e;simp at e;omega
  have fp:F[B.length]?=some (.cells s.row):=by rw[<-f,eY g1.symm];exact ep
  have fd:F[D.length]?=some (.cells [.sl (oZ q s),.sl [],.sl []]):=by rw[<-f,eY f1.symm];exact W
  have C:F[fi]?=some (.cells (fiV i)):=by rw[<-f,eY t];exact upE _ _ (l _ _ e1)
  have l2:aB 1 false F (.ptr B.length 2)=some (.n s.k):=by simp[aB,fp,cut,aD,Seg.row]
  have d1:aB 3 true F (.ptr D.length 0)=some (dX q s):=by simp only[aB,fd];rfl
  have fin:∀X:aA,(((A.set wi (.cells (.str p::whV q i++[rc,.nils]))).set fi (.cells (fiV i))++X).set wi (.cells (.str p::whV q (i+1)++[rc,.nils]))).set fi (.cells (fiV (i+1)))=(A.set wi (.cells (.str p::whV q (i+1)++[rc,.nils]))).set fi (.cells (fiV (i+1)))++X:=fun X=>by
   rw[oI _ _ (by simpa using u),oI _ _ (by simpa using r)];congr 1;rw[List.set_comm _ _ t.symm,mN,mN]
  have e3:F.set fi (.cells (fiV (i+1)))=(A.set wi (.cells (.str p::whV q (i+1)++[rc,.nils]))).set fi (.cells (fiV (i+1)))++(T++[Blk.cells s.row,Blk.cells [.sl (oZ q s),.sl [],.sl []]]):=by
   rw[<-f,<-o,<-d,<-c,<-fin];simp
  have v:=ih (.ptr B.length 0) (.ptr D.length 0) .junk (T++[Blk.cells s.row,Blk.cells [.sl (oZ q s),.sl [],.sl []]]) (by omega);rw[<-e3]at v;have g3:i=0->bB 3 F (.ptr fi 0) (dX q s)=some (F.set fi (.cells (fiV (i+1)))):=fun e=>by
   subst e;obtain rfl:=zd6 a;rw[aQ];simp[C,fiV,AV.cells,dX,oZ,bE,bF]
  have g2:i≠0->F.set fi (.cells (fiV (i+1)))=F:=fun e=>by
   obtain⟨j,rfl⟩:∃j,i=j+1:=⟨i-1,by omega⟩;apply kL;intro j;by_cases e:fi=j;·subst e;rw[fL (aF.1 C).1,C];rfl
   ·rw[eY e]
  have hk:(i=0/\s.k=1)\/(i≠0/\s.k=2):=by cases i with
   |zero=>obtain rfl:=zd6 a;exact .inl ⟨rfl,rfl⟩|succ i=>obtain rfl:=zZ0 a;exact .inr ⟨by omega,rfl⟩
  generalize s.row=sr at*;generalize j3:s.k=sk at*;generalize dX q s=ov at*;generalize fiV (i+1)=i3 at*;generalize whV q (i+1)=l3 at*;generalize whV q i=wv at*;rcases hk with⟨y,rfl⟩|⟨y,rfl⟩
  ·have N:eqB 1 1=true:=rfl;have h3:=g3 y;simp[J,hw,i1,i2,s4,l4,S,s3,lw,U,d2,l2,lo,d1,h3,-aQ,-aB];simpa using v
  ·have N:eqB 2 1=false:=rfl;have z3:eqB 2 3=false:=rfl;rw[g2 y]at v;simp[J,hw,i1,i2,s4,l4,S,s3,lw,U,d2,l2,lo,N,z3,-aQ,-aB];simpa using v
def dS:List AV:=[.n 0,.n 0,.n 0,.str [],.n 0]
def trH(a:aA)(t:Nat)(c1 c2 c3:AV)(b c:List (AV×AV)):aA:=a++[.cells dS,.map b,.map c,.cells [.ptr t 0,c1,c2,c3,.map (a.length+1),.map (a.length+2)]]
theorem BQ{a:aA}{t:Nat}{c1 c2 c3:AV}{b c:List (AV×AV)}:(trH a t c1 c2 c3 b c).length=a.length+4:=by simp[trH]
theorem yd2{a:aA}{t:Nat}{c1 c2 c3:AV}{d c:List (AV×AV)}(b:List (AV×AV)):(trH a t c1 c2 c3 d c).set (a.length+1) (.map b)=trH a t c1 c2 c3 b c:=by
 unfold trH;rw[gK _ _ (by omega),show a.length+1-a.length=1 by omega];rfl
theorem xy7{a:aA}{t:Nat}{c1 c2 c3:AV}{b d:List (AV×AV)}(c:List (AV×AV)):(trH a t c1 c2 c3 b d).set (a.length+2) (.map c)=trH a t c1 c2 c3 b c:=by
 unfold trH;rw[gK _ _ (by omega),show a.length+2-a.length=2 by omega];rfl
theorem xz0{G:Gam}{FN FB FF FOf:List AV->aA->Option (AV×aA)}{FT FU:List AV->Option AV}(h3:G Fn.dg=some (.gen FN))(f3:G Fn.dk=some (.gen FB))(g2:G Fn.am=some (.gen FF))(i1:G Fn.ad=some (.gen FOf))(i3:G Fn.bs=some (.pure FT))(j1:G Fn.b3=some (.pure FU)){h H1:aA}{d:List (List AV)}{t:Nat}{files inst:List (List AV)}{k l o r s:AV}{p q:Bs}{segs:List Seg}(d1:FN [.sl d] (h++[.cells dS])=some (.tup [.ptr t 0,.agg dS],H1))(d2:∃Y,H1=h++[Blk.cells dS]++Y)(b2:FB [.ptr t 0] (H1++[.cells dS])=some (.agg [.sl files,.sl inst,.sl [[k,l,o,r,.str p,s]]],H1++[.cells dS]))(b3:FF [.ptr t 0,.n 0] (trH H1 t (.sl files) (.sl inst) (.sl [[k,l,o,r,.str p,s]]) [] [(.str p,.n 0)])=some (.sl (eP (segs.map (cpF q))),trH H1 t (.sl files) (.sl inst) (.sl [[k,l,o,r,.str p,s]]) [] [(.str p,.n 0)]))(h2:segs.Nodup)(hn:segs.length<big)(o1:t<H1.length)(h1:bG H1.length H1=true)(f2:TrAsk FOf FT FU (H1.length+3) (H1.length+1) (H1.length+2) [.ptr t 0,.sl files,.sl inst,.sl [[k,l,o,r,.str p,s]],.map (H1.length+1),.map (H1.length+2)] [(.str p,.n 0)] q segs):wpM G Mc.a3 (iO h.length Rs.a3 (.tup [.ptr (H1.length+3) 0,.agg dS]) (trH H1 t (.sl files) (.sl inst) (.sl [[k,l,o,r,.str p,s]]) (eS q segs) [(.str p,.n 0)])) [] (aC Ks.a3 [.sl d]) h:=by
 obtain⟨Y,hY⟩:=d2;generalize M:[[k,l,o,r,.str p,s]]=c at*;have L:H1[h.length]?=some (.cells dS):=by rw[hY];simp
 have n3:h.length<H1.length:=(aF.1 L).1;generalize d3:h++[Blk.cells dS]=J at*;have cn:opV G false J (.call Fn.dg) (some [.sl d])=some (.tup [.ptr t 0,.agg dS],H1):=by rw[dV h3,d1]
 generalize z:H1++[Blk.cells dS]=j at*;have N:j.length=H1.length+1:=by rw[<-z];simp
 have I:bB 5 (H1++[.cells [.n 0,.n 0,.n 0,.str [],.n 0]]) (.ptr H1.length 0) (.agg dS)=some j:=by rw[<-z,aQ];simp[AV.cells,dS,bE,bF]
 have p2:j[H1.length]?=some (.cells dS):=by rw[<-z];simp
 have a1:aB 1 false j (.ptr H1.length 0)=some (.n 0):=by simp[aB,p2,cut,aD,dS]
 have z0:eqB 0 0=true:=rfl;have Z:∀a,opV G a j (.callg Fn.dk) (some [.ptr t 0])=some (.agg [.sl files,.sl inst,.sl c],j):=fun a=>by rw[oT f3,b2]
 generalize E:j++[Blk.map []]=y;generalize F:y++[Blk.map []]=H4;have O:y.length=H1.length+2:=by rw[<-E];simp[N]
 have l4:H4.length=H1.length+3:=by rw[<-F];simp[O]
 have m2:∀a,opV G a j .mkmap (some [])=some (.map (H1.length+1),y):=fun a=>by rw[FG,E,N]
 have m3:∀a,opV G a y .mkmap (some [])=some (.map (H1.length+2),H4):=fun a=>by rw[FG,F,O]
 have V:∀a,opV G a H4 (.bld [.nilp,.nils,.nils,.nils,.nilm,.nilm] [(0,1),(1,3),(4,1),(5,1)]) (some [.ptr t 0,.agg [.sl files,.sl inst,.sl c],.map (H1.length+1),.map (H1.length+2)])=some (.agg [.ptr t 0,.sl files,.sl inst,.sl c,.map (H1.length+1),.map (H1.length+2)],H4):=fun a=>by rw[bW rfl];rfl
 generalize w:trH H1 t (.sl files) (.sl inst) (.sl c) [] []=f;have e5:H4++[Blk.cells [.ptr t 0,.sl files,.sl inst,.sl c,.map (H1.length+1),.map (H1.length+2)]]=f:=by rw[<-w,<-F,<-E,<-z];simp[trH]
 have X:∀a,opV G a H4 .box (some [.agg [.ptr t 0,.sl files,.sl inst,.sl c,.map (H1.length+1),.map (H1.length+2)]])=some (.ptr (H1.length+3) 0,f):=fun a=>by
  have:=jN (G:=G) (s:=a) (h:=H4) (v:=.agg [.ptr t 0,.sl files,.sl inst,.sl c,.map (H1.length+1),.map (H1.length+2)]) (by simp[AV.cells]);rw[this];simp only[AV.cells];rw[e5,l4]
 have U:f[H1.length+3]?=some (.cells [.ptr t 0,.sl files,.sl inst,.sl c,.map (H1.length+1),.map (H1.length+2)]):=by rw[<-w];simp[trH]
 have P:∀a,opV G a f .nilck (some [.ptr (H1.length+3) 0])=some (.ptr (H1.length+3) 0,f):=fun a=>by rw[bW rfl];rfl
 have K:aB 1 false f (.ptr (H1.length+3) 3)=some (.sl c):=by simp[aB,U,cut,aD]
 have a2:aB 1 false f (.ptr (H1.length+3) 5)=some (.map (H1.length+2)):=by simp[aB,U,cut,aD]
 have S:c.length=1:=by rw[<-M];rfl
 have ln:aW f 1 (.sl c)=some (.n 1):=by simp[aW,S]
 have n1:ltB 0 1=true:=rfl;have p1:ltB 1 1=false:=rfl;have o3:IntKind.i64.wrap (0+1)=1:=rfl;have l1:bN 6 f (.sl c) (.n 0)=some (.fptr [k,l,o,r,.str p,s] 0):=by rw[<-M];rfl
 have a3:aB 1 false f (.fptr [k,l,o,r,.str p,s] 4)=some (.str p):=rfl;generalize u:trH H1 t (.sl files) (.sl inst) (.sl c) [] [(.str p,.n 0)]=g at*;have mu:∀a,opV G a f (.mapup .s) (some [.map (H1.length+2),.str p,.n 0])=some (.junk,g):=fun a=>by
  have b1:f[H1.length+2]?=some (.map []):=by rw[<-w];simp[trH]
  have hs:f.set (H1.length+2) (.map [(.str p,.n 0)])=g:=by rw[<-w,xy7,u]
  rw[fG rfl];simp[bC,isKey,frz,view,owns,dC,b1,tG,hs]
 have cf:∀a,opV G a g (.callg Fn.am) (some [.ptr t 0,.n 0])=some (.sl (eP (segs.map (cpF q))),g):=fun a=>by rw[oT g2,b3]
 have o2:aW g 1 (.sl (eP (segs.map (cpF q))))=some (.n (segs.length:Int)):=by simp[aW]
 have l5:f.length=H1.length+4:=by rw[<-w];exact BQ
 have l6:g.length=H1.length+4:=by rw[<-u];exact BQ
 have e1:h++[Blk.cells [.n 0,.n 0,.n 0,.str [],.n 0]]=J:=d3;rw[aT];simp[Mc.a3,aC,Ks.a3,e1,cn,I,a1,Z,m2,m3,V,X,P,K,S,-aQ,-aB,-FG];refine KM (Mc.a3_L0.eq_1) (bP _) ?_;have f1:(eP (segs.map (cpF q))).length=segs.length:=by simp
 generalize e3:eP (segs.map (cpF q))=RR at*;simp[aY,n1,P,a2,K,l1,a3,mu,cf,f1,-aQ,-aB];subst e3;have j3:g[H1.length+3]?=some (.cells [.ptr t 0,.sl files,.sl inst,.sl c,.map (H1.length+1),.map (H1.length+2)]):=by rw[<-u];simp[trH]
 have j2:g[H1.length+2]?=some (.map [(.str p,.n 0)]):=by rw[<-u];simp[trH]
 have i2:g.set (H1.length+1) (.map (eS q []))=g:=by rw[<-u,yd2];rfl
 have g1:g.set (H1.length+1) (.map (eS q segs))=trH H1 t (.sl files) (.sl inst) (.sl c) (eS q segs) [(.str p,.n 0)]:=by rw[<-u,yd2]
 rw[YD];have A:∀Q,(∀v T,Q MX.normal v [(0,.sl d),(2,.nilp),(3,.ptr h.length 0),(4,.ptr t 0),(5,.ptr H1.length 0),(6,.ptr (H1.length+3) 0),(7,.n 0),(9,.junk),(10,.junk),(33,.n 1),(34,.n 0),(54,.sl (eP (segs.map (cpF q)))),(55,.n (segs.length:Int)),(56,.n (segs.length:Int))] (trH H1 t (.sl files) (.sl inst) (.sl c) (eS q segs) [(.str p,.n 0)]++T))->cY G [9,10] Mc.a3_L1 g.length [MK.blk 2] Q [(0,.sl d),(2,.nilp),(3,.ptr h.length 0),(4,.ptr t 0),(5,.ptr H1.length 0),(6,.ptr (H1.length+3) 0),(7,.n 0),(9,.junk),(10,.junk),(33,.n 1),(34,.n 0),(54,.sl (eP (segs.map (cpF q)))),(55,.n (segs.length:Int)),(56,.n 0)] g:=fun Q hQ=>by
  have A:=yd5 (G:=G) i1 i3 j1 j3 j2 (by omega) (by omega) (by omega) h2 hn f2 (a0:=.sl d) (a2:=.nilp) (a3:=.ptr h.length 0) (a4:=.ptr t 0) (a5:=.ptr H1.length 0) (a7:=.n 0) (a33:=.n 1) (a34:=.n 0) (Q:=Q) (fun v T=>by rw[g1];exact hQ v T) segs [] .junk .junk [] rfl;rw[i2,iR]at A;exact A
 refine A _ fun v T=>?_;show exM G .normal _ _ v _ _;have u6:∀T0:aA,∀i b,H1[i]?=some b->(trH H1 t (.sl files) (.sl inst) (.sl c) (eS q segs) [(.str p,.n 0)]++T0)[i]?=some b:=fun T0 i b B=>by unfold trH;rw[jT,aX (aF.1 B).1];exact B
 have w1:IntKind.i64.wrap 1=1:=rfl;have W:∀H a,opV G a H (.bld [.n 0,.n 0,.n 0,.str [],.n 0] []) (some [])=some (.agg dS,H):=fun H a=>by rw[bW rfl];rfl
 simp[w1];refine tC (Mc.a3_L0.eq_1) (by rw[BQ];omega) fun T=>?_;have D:=u6 T _ _ L;have gl:(trH H1 t (.sl files) (.sl inst) (.sl c) (eS q segs) [(.str p,.n 0)]++T).length=H1.length+4+T.length:=by rw[iS,BQ]
 have e2:Leaves (trH H1 t (.sl files) (.sl inst) (.sl c) (eS q segs) [(.str p,.n 0)]) (trH H1 t (.sl files) (.sl inst) (.sl c) (eS q segs) [(.str p,.n 0)]++T):=⟨by simp,fun i b B=>.inr (jY B)⟩;generalize n2:trH H1 t (.sl files) (.sl inst) (.sl c) (eS q segs) [(.str p,.n 0)]++T=C at*;have I:bB 5 C (.ptr h.length 0) (.agg dS)=some C:=by
  rw[aQ];simp[D,dS,AV.cells,bE,bF];apply kL;intro m1;by_cases e:h.length=m1;·subst e;rw[fL (by omega),D];rfl
  ·rw[eY e]
 have ld:aB 5 true C (.ptr h.length 0)=some (.agg dS):=by simp[aB,D,dS,cut,aD]
 simp[aY,W,I,-aQ];refine⟨trivial,?_,by rw[BQ];omega,e2,?_,?_⟩;·simp[Rs.a3,cZ,ld,-aB]
 ·simp[low,bA,dS,BQ]
 ·rw[BQ];unfold trH;refine xH (AJ (by omega) h1) ?_;simp[bG,gR,bA,low,dS];omega
theorem yU3{G:Gam}{FRc FAr FSg FOf:List AV->aA->Option (AV×aA)}{FU:List AV->Option AV}(b3:G Fn.a9=some (.gen FRc))(Z:G Fn.cg=some (.gen FAr))(d2:G Fn.a8=some (.gen FSg))(b2:G Fn.ad=some (.gen FOf))(d3:G Fn.b3=some (.pure FU)){h:aA}{x t mo mw n:Nat}{c1 c2 c3:AV}{p q:Bs}{a:List (List AV)}(o:h[x]?=some (.cells [.ptr t 0,c1,c2,c3,.map mo,.map mw]))(s:h[mw]?=some (.map [(.str p,.n 0)]))(z:h[mo]?=some (.map (eS q (dN p n))))(U:∀X,FRc [.ptr t 0,.n 0] (h++X)=some (.sl a,h++X))(w:∀X,FAr [.ptr t 0,.str p] (h++X)=some (.n 1,h++X))(W:∀X,FSg [.ptr t 0,.str p] (h++X)=some (.sl ((dN p n).map Seg.row),h++X))(hn:n<2000)(b1:bG h.length h=true)(a1:InAsk FOf FU x mo mw [.ptr t 0,c1,c2,c3,.map mo,.map mw] [(.str p,.n 0)] p q n):wpM G Mc.bu (jM h.length Rs.bu (.agg [.str p,.sl (whR q n),.sl [],.sl [],.sl a,.sl []]) h) [] (aC Ks.bu [.ptr x 0,.str p]) h:=by
 have g3:x<h.length:=(aF.1 o).1;have g1:mo<h.length:=(aF.1 z).1;have g2:mw<h.length:=(aF.1 s).1;have g:∀(X:aA)i b,h[i]?=some b->(h++X)[i]?=some b:=fun X i b e1=>jY e1;have f3:=w;have lk:∀X c,opV G c (h++X) (.look .s false (.n 0)) (some [.map mw,.str p])=some (.n 0,h++X):=fun X c=>by rw[bW rfl];simp[bV,isKey,g X _ _ s,iP,qA]
 have A:∀X,aB 1 false (h++X) (.ptr x 0)=some (.ptr t 0):=fun X=>by simp[aB,g X _ _ o,cut,aD]
 have e2:∀X,aB 1 false (h++X) (.ptr x 5)=some (.map mw):=fun X=>by simp[aB,g X _ _ o,cut,aD]
 have nk:∀H c,opV G c H .nilck (some [.ptr x 0])=some (.ptr x 0,H):=fun H c=>by rw[bW rfl];rfl
 have J:∀X c,opV G c (h++X) (.callg Fn.a9) (some [.ptr t 0,.n 0])=some (.sl a,h++X):=fun X c=>by rw[oT b3,U]
 have I:∀X c,opV G c (h++X) (.callg Fn.cg) (some [.ptr t 0,.str p])=some (.n 1,h++X):=fun X c=>by rw[oT Z,w]
 have K:∀X c,opV G c (h++X) (.callg Fn.a8) (some [.ptr t 0,.str p])=some (.sl ((dN p n).map Seg.row),h++X):=fun X c=>by rw[oT d2,W]
 have ln:∀H,aW H 1 (.sl ((dN p n).map Seg.row))=some (.n ((n+1:Nat):Int)):=fun H=>by simp[aW,dN]
 have f1:eqB 1 4=false:=rfl;have f2:eqB 1 5=false:=rfl;have E:∀H c,opV G c H (.bld [.str [],.nils,.nils,.nils,.nils,.nils] [(0,1),(4,1)]) (some [.str p,.sl a])=some (.agg [.str p,.nils,.nils,.nils,.sl a,.nils],H):=fun H c=>by rw[bW rfl];rfl
 have s6:bB 6 (h++[Blk.cells [.str [],.nils,.nils,.nils,.nils,.nils],Blk.cells [.str [],.nils,.nils,.nils,.nils,.nils]]) (.ptr (h.length+1) 0) (.agg [.str p,.nils,.nils,.nils,.sl a,.nils])=some (h++[Blk.cells [.str [],.nils,.nils,.nils,.nils,.nils],Blk.cells [.str p,.nils,.nils,.nils,.sl a,.nils]]):=by rw[aQ];simp[AV.cells,bE,bF]
 have D:∀H c,opV G c H (.bld [.nils,.nils,.nils] []) (some [])=some (.agg [.nils,.nils,.nils],H):=fun H c=>by rw[bW rfl];rfl
 have F:∀H c,opV G c H (.bld [.n 0,.n 0,.str [],.nils,.nils,.nils,.nils,.nils] []) (some [])=some (.agg [.n 0,.n 0,.str [],.nils,.nils,.nils,.nils,.nils],H):=fun H c=>by rw[bW rfl];rfl
 generalize e:h++[Blk.cells [.str [],.nils,.nils,.nils,.nils,.nils],Blk.cells [.str p,.nils,.nils,.nils,.sl a,.nils],Blk.cells [.nils,.nils,.nils],Blk.cells [.n 0,.n 0,.str [],.nils,.nils,.nils,.nils,.nils]]=d;have s3:bB 3 d (.ptr (h.length+2) 0) (.agg [.nils,.nils,.nils])=some d:=by rw[<-e,aQ];simp[AV.cells,bE,bF]
 have s8:bB 8 d (.ptr (h.length+3) 0) (.agg [.n 0,.n 0,.str [],.nils,.nils,.nils,.nils,.nils])=some d:=by rw[<-e,aQ];simp[AV.cells,bE,bF]
 have B:=A [Blk.cells [.str [],.nils,.nils,.nils,.nils,.nils],Blk.cells [.str p,.nils,.nils,.nils,.sl a,.nils],Blk.cells [.nils,.nils,.nils],Blk.cells [.n 0,.n 0,.str [],.nils,.nils,.nils,.nils,.nils]];have u:=I [Blk.cells [.str [],.nils,.nils,.nils,.nils,.nils],Blk.cells [.str p,.nils,.nils,.nils,.sl a,.nils],Blk.cells [.nils,.nils,.nils],Blk.cells [.n 0,.n 0,.str [],.nils,.nils,.nils,.nils,.nils]];have v:=K [Blk.cells [.str [],.nils,.nils,.nils,.nils,.nils],Blk.cells [.str p,.nils,.nils,.nils,.sl a,.nils],Blk.cells [.nils,.nils,.nils],Blk.cells [.n 0,.n 0,.str [],.nils,.nils,.nils,.nils,.nils]];rw[e]at B u v;have V:((dN p n).map Seg.row).length=n+1:=by simp[dN]
 generalize Y:(dN p n).map Seg.row=SS at*;rw[aT];simp[Mc.bu,aC,Ks.bu,A,e2,nk,lk,J,f1,f2,E,s6,D,F,e,s3,s8,B,u,v,V,-aB,-aQ];subst Y;rw[YD];have O:d[x]?=some (.cells [.ptr t 0,c1,c2,c3,.map mo,.map mw]):=by rw[<-e];exact g _ _ _ o
 have N:d[mw]?=some (.map [(.str p,.n 0)]):=by rw[<-e];exact g _ _ _ s
 have go:d[mo]?=some (.map (eS q (dN p n))):=by rw[<-e];exact g _ _ _ z
 have ld:d.length=h.length+4:=by rw[<-e];simp
 have d1:(d.set (h.length+1) (.cells (.str p::whV q 0++[.sl a,.nils]))).set (h.length+2) (.cells (fiV 0))=d:=by rw[<-e,gK _ _ (by omega),gK _ _ (by omega),show h.length+1-h.length=1 by omega,show h.length+2-h.length=2 by omega];rfl
 have a2:(d.set (h.length+1) (.cells (.str p::whV q (n+1)++[.sl a,.nils]))).set (h.length+2) (.cells (fiV (n+1)))=h++[Blk.cells [.str [],.nils,.nils,.nils,.nils,.nils],Blk.cells (.str p::whV q (n+1)++[.sl a,.nils]),Blk.cells (fiV (n+1)),Blk.cells [.n 0,.n 0,.str [],.nils,.nils,.nils,.nils,.nils]]:=by rw[<-e,gK _ _ (by omega),gK _ _ (by omega),show h.length+1-h.length=1 by omega,show h.length+2-h.length=2 by omega];rfl
 have k:∀Q,(∀j T,Q MX.normal j [(0,.ptr x 0),(1,.str p),(4,.ptr h.length 0),(5,.ptr (h.length+1) 0),(6,.ptr (h.length+2) 0),(7,.ptr (h.length+3) 0),(8,.n 1),(9,.junk),(12,.junk),(13,.junk),(14,.junk),(62,.sl ((dN p n).map Seg.row)),(63,.n ((n+1:Nat):Int)),(64,.n ((n+1:Nat):Int))] (h++[Blk.cells [.str [],.nils,.nils,.nils,.nils,.nils],Blk.cells (.str p::whV q (n+1)++[.sl a,.nils]),Blk.cells (fiV (n+1)),Blk.cells [.n 0,.n 0,.str [],.nils,.nils,.nils,.nils,.nils]]++T))->cY G [12,13,14] Mc.bu_L0 d.length [MK.blk 0] Q [(0,.ptr x 0),(1,.str p),(4,.ptr h.length 0),(5,.ptr (h.length+1) 0),(6,.ptr (h.length+2) 0),(7,.ptr (h.length+3) 0),(8,.n 1),(9,.junk),(12,.junk),(13,.junk),(14,.junk),(62,.sl ((dN p n).map Seg.row)),(63,.n ((n:Int)+1)),(64,.n 0)] d:=fun Q S=>by
  have k:=zH3 (G:=G) b2 d3 O N go (wi:=h.length+1) (fi:=h.length+2) (rc:=.sl a) (by omega) (by omega) (by omega) (by omega) (by omega) (by omega) (by omega) (by omega) (by omega) rfl hn a1 (a1:=.str p) (a4:=.ptr h.length 0) (a7:=.ptr (h.length+3) 0) (a8:=.n 1) (a9:=.junk) (Q:=Q) (fun j T=>by rw[a2];exact S j T) (n+1) 0 .junk .junk .junk [] (by omega);rw[d1,iR]at k;exact k
 refine k _ fun j T=>?_;show exM G .normal _ _ j _ _;have L:(.str p::whV q (n+1)++[.sl a,.nils]:List AV)=[.str p,.sl (whR q n),.sl [],.sl [],.sl a,.nils]:=rfl;rw[L];generalize r:h++[Blk.cells [.str [],.nils,.nils,.nils,.nils,.nils],Blk.cells [.str p,.sl (whR q n),.sl [],.sl [],.sl a,.nils],Blk.cells (fiV (n+1)),Blk.cells [.n 0,.n 0,.str [],.nils,.nils,.nils,.nils,.nils]]++T=f;have l6:aB 6 true f (.ptr (h.length+1) 0)=some (.agg [.str p,.sl (whR q n),.sl [],.sl [],.sl a,.nils]):=by
  have:f[h.length+1]?=some (.cells [.str p,.sl (whR q n),.sl [],.sl [],.sl a,.nils]):=by rw[<-r];simp
  simp only[aB,this];rfl
 have C:f[h.length]?=some (.cells [.str [],.nils,.nils,.nils,.nils,.nils]):=by rw[<-r];simp
 generalize l:f.set h.length (.cells [.str p,.sl (whR q n),.sl [],.sl [],.sl a,.nils])=P2;have e3:bB 6 f (.ptr h.length 0) (.agg [.str p,.sl (whR q n),.sl [],.sl [],.sl a,.nils])=some P2:=by rw[<-l,aQ];simp[C,AV.cells,bE,bF]
 have a3:h.length<f.length:=(aF.1 C).1;have M:P2[h.length]?=some (.cells [.str p,.sl (whR q n),.sl [],.sl [],.sl a,.nils]):=by rw[<-l,fL a3]
 have l7:aB 6 true P2 (.ptr h.length 0)=some (.agg [.str p,.sl (whR q n),.sl [],.sl [],.sl a,.nils]):=by simp only[aB,M];rfl
 have P:Leaves h P2:=⟨by rw[<-l,gT];omega,fun i b y=>.inr (by
  have:=(aF.1 y).1;rw[<-l,eY (by omega),<-r,jT];exact jY y)⟩;simp[l6,e3,-aQ,-aB];refine⟨trivial,.agg [.str p,.sl (whR q n),.sl [],.sl [],.sl a,.nils],P2,?_,by simp[frz,view,cV,owns,eZ,dC],bP _,P,by simp[low,bA],b1⟩;simp[Rs.bu,cZ,l7,-aB]
theorem qP:dO []=true:=rfl
theorem GQ{q:Bs}{i j:Int}(hq:eH q=true)(a:0<=i)(b:i<j)(c:j<=1024):dO [⟨q,i,j⟩]=true:=by simp[dO,mH,nC,pY,hq,a,b,c]
theorem YR:eK [] []=[]:=((LE (l:=[]) qP qP (.refl _) .nil).1).symm
theorem zJ0{x:Sp}(h:dO [x]=true):eK [] [x]=[x]:=by
 have:=(LE (l:=[x]) qP h (.refl _) (List.pairwise_singleton _ _)).1;rw[<-this];rfl
theorem yW1{q:Bs}{j:Int}(hq:eH q=true)(a:0<j)(b:j+1<=1024):eK [⟨q,0,j⟩] [⟨q,j,j+1⟩]=[⟨q,0,j+1⟩]:=by
 have d:=GQ hq (Int.le_refl 0) a (by omega:j<=1024);have e:=GQ hq (by omega:0<=j) (by omega:j<j+1) b;have:=(LE (l:=[⟨q,0,j⟩,⟨q,j,j+1⟩]) d e (.refl _) (by simp[nF,Le];omega)).1;rw[<-this];have c:qX ⟨q,0,j⟩ ⟨q,j,j+1⟩=false:=by
  rw[wJ,Ne,DM];rintro(h|⟨_,h⟩);·exact tQ _ h
  ·exact absurd (show j<j from h) (by omega)
 simp[mV,kU,c];omega
theorem TO(q:Bs)(s:Seg)(h:s.k=2):dX q s=.agg (Org.cells ⟨[⟨q,s.i,s.i+1⟩],[],[]⟩):=by simp[dX,oZ,h,Org.cells,aI,Sp.row]
theorem TP(q:Bs)(s:Seg)(h:s.k≠2):dX q s=.agg (Org.cells ⟨[],[],[]⟩):=by simp[dX,oZ,h,Org.cells,aI]
theorem xx5{q:Bs}{i:Int}(hq:eH q=true)(hl:q.length<=2000000)(a:0<=i)(b:i+1<=1024):pD [.agg (Org.cells ⟨[⟨q,i,i+1⟩],[],[]⟩),.n 1]=some (.tup [.agg (Org.cells ⟨[⟨q,i,i+1⟩],[],[]⟩),.n 0]):=by
 have v:=GQ hq a (by omega:i<i+1) b;simp[pD,smO,okO,okL,okS,hl,nT,nM,v,qP,DL]
theorem xx4:pD [.agg (Org.cells ⟨[],[],[]⟩),.n 1]=some (.tup [.agg (Org.cells ⟨[],[],[]⟩),.n 0]):=by simp[pD,smO,okO,okL,nT,nM,qP,DL]
theorem NJ{a b c:List Sp}(d:dO a=true)(e:dO b=true)(k1:okL a=true)(k2:okL b=true)(f:a.length<=100000)(g:b.length<=100000)(h:eK a b=c):oA [.agg (Org.cells ⟨a,[],[]⟩),.agg (Org.cells ⟨b,[],[]⟩)]=some (.tup [.agg (Org.cells ⟨c,[],[]⟩),.n 0]):=by
 have k0:okL []=true:=rfl;simp[oA,smO,okO,k0,k1,k2,f,g,unE,nM,d,e,qP,h,YR]
def KP:List AV:=[.str [],.nils,.nils,.nils,.nils,.nils]
theorem yU4{G:Gam}{FT FI:List AV->aA->Option (AV×aA)}{FC:List AV->Option AV}(S:G Fn.a3=some (.gen FT))(P:G Fn.bu=some (.gen FI))(O:G Fn.cw=some (.pure FC)){d inst a b c e f:List (List AV)}{x:Nat}{p:Bs}{h:aA}{c0 c1 c3 y z:AV}(J:FT [.sl d] [.cells KP,.cells dS]=some (.tup [.ptr x 0,.agg dS],h))(K:h[0]?=some (.cells KP))(L:h[1]?=some (.cells dS))(T:h[x]?=some (.cells [c0,c1,.sl inst,c3,y,z]))(I:FC [.sl inst,.str p]=some (.T))(M:FI [.ptr x 0,.str p] (h++[.cells dS])=some (.agg [.str p,.sl a,.sl b,.sl c,.sl e,.sl f],h++[.cells dS])):wpM G Mc.b2 (aJ Rs.b2 (.tup [.agg [.str p,.sl a,.sl b,.sl c,.sl e,.sl f],.agg dS])) [] (aC Ks.b2 [.sl d,.str p]) []:=by
 have hF:dS=[.n 0,.n 0,.n 0,.str [],.n 0]:=rfl;have C:opV G false [Blk.cells [.str [],.nils,.nils,.nils,.nils,.nils],.cells [.n 0,.n 0,.n 0,.str [],.n 0]] (.call Fn.a3) (some [.sl d])=some (.tup [.ptr x 0,.agg dS],h):=by rw[dV S];exact J
 generalize s:h++[Blk.cells dS]=g at*;have X:bB 5 (h++[.cells [.n 0,.n 0,.n 0,.str [],.n 0]]) (.ptr h.length 0) (.agg dS)=some g:=by rw[<-s,aQ];simp[AV.cells,dS,bE,bF]
 have u:∀i r,h[i]?=some r->g[i]?=some r:=fun i r N=>by rw[<-s];exact jY N
 have F:g[h.length]?=some (.cells dS):=by rw[<-s];simp
 have D:aB 1 false g (.ptr h.length 0)=some (.n 0):=by simp[aB,F,cut,aD,dS]
 have E:aB 1 false g (.ptr x 2)=some (.sl inst):=by simp[aB,u _ _ T,cut,aD]
 have U:∀k,opV G k g .nilck (some [.ptr x 0])=some (.ptr x 0,g):=fun k=>by rw[bW rfl];rfl
 have A:∀k,opV G k g (.call Fn.cw) (some [.sl inst,.str p])=some (.T,g):=fun k=>cU O rfl I (.inl rfl);have B:∀k,opV G k g (.callg Fn.bu) (some [.ptr x 0,.str p])=some (.agg [.str p,.sl a,.sl b,.sl c,.sl e,.sl f],g):=fun k=>by rw[oT P,M]
 have u0:=u _ _ K;have v:=u _ _ L;have a1:1<g.length:=(aF.1 v).1;generalize t:g.set 0 (.cells [.str p,.sl a,.sl b,.sl c,.sl e,.sl f])=l;have Z:bB 6 g (.ptr 0 0) (.agg [.str p,.sl a,.sl b,.sl c,.sl e,.sl f])=some l:=by rw[<-t,aQ];simp[u0,AV.cells,KP,bE,bF]
 have w:∀H k,opV G k H (.bld [.n 0,.n 0,.n 0,.str [],.n 0] []) (some [])=some (.agg dS,H):=fun H k=>by rw[bW rfl];rfl
 have o:l[1]?=some (.cells dS):=by rw[<-t,eY (by omega)];exact v
 have v0:l[0]?=some (.cells [.str p,.sl a,.sl b,.sl c,.sl e,.sl f]):=by rw[<-t,fL (by omega)]
 have Y:bB 5 l (.ptr 1 0) (.agg dS)=some l:=by
  have Q:l.set 1 (.cells [.n 0,.n 0,.n 0,.str [],.n 0])=l:=by
   apply kL;intro j;by_cases e:1=j;·subst e;rw[fL (aF.1 o).1,o];rfl
   ·rw[eY e]
  rw[aQ];simp[o,dS,AV.cells,bE,bF,Q]
 have V:aB 6 true l (.ptr 0 0)=some (.agg [.str p,.sl a,.sl b,.sl c,.sl e,.sl f]):=by simp[aB,v0,cut,aD]
 have W:aB 5 true l (.ptr 1 0)=some (.agg dS):=by simp[aB,o,cut,aD,dS]
 rw[aT];simp[Mc.b2,aC,Ks.b2,C,X,D,E,U,A,B,Z,w,Y,-aQ,-aB];refine⟨.tup [.agg [.str p,.sl a,.sl b,.sl c,.sl e,.sl f],.agg dS],?_,by simp[view,cV,dS]⟩;simp[Rs.b2,eR,fA,V,W,-aB]
theorem TM{p:Bs}{n:Nat}{s:Seg}(h:s∈dN p n):s=⟨p,[],1,0⟩\/∃j:Nat,j<n/\s=⟨p,[],2,(j:Int)⟩:=by
 simp only[dN,dD,jE,jF]at h;rcases h with h|⟨j,a,b⟩;·exact .inl h
 ·exact .inr ⟨j,a,b.symm⟩
theorem zY9{p:Bs}{n:Nat}{s:Seg}(h:s∈dN p n):s.p=p:=by rcases TM h with rfl|⟨j,_,rfl⟩<;>rfl
section
variable{p q:Bs}{n:Nat}(hq:eH q=true)(hl:q.length<=2000000)(hpq:p≠q)(hn:n<=1001){x mo mw:Nat}{c0 c1 c2 c3:AV}
include hq hl hn
theorem xx6{s:Seg}(a:s∈dN p n):pD [dX q s,.n 1]=some (.tup [dX q s,.n 0]):=by
 rcases TM a with rfl|⟨j,b,rfl⟩;·rw[TP _ _ (by simp)];exact xx4
 ·rw[TO _ _ rfl];exact xx5 (i:=(j:Int)) hq hl (by omega) (by omega)
theorem SI{i j:Int}:okL [⟨q,i,j⟩]=true:=by have _:=hq;have _:=hn;simp[okL,okS,hl]
theorem xC3{s:Seg}(a:s∈dN p n):oA [.agg [.sl [],.sl [],.sl []],dX q s]=some (.tup [dX q s,.n 0]):=by
 have e:(.agg [.sl [],.sl [],.sl []]:AV)=.agg (Org.cells ⟨[],[],[]⟩):=rfl;rw[e];rcases TM a with rfl|⟨j,b,rfl⟩;·rw[TP _ _ (by simp)];exact NJ qP qP rfl rfl (by simp) (by simp) YR
 ·rw[TO _ _ rfl];have v:=GQ (i:=(j:Int)) (j:=(j:Int)+1) hq (by omega) (by omega) (by omega);exact NJ qP v rfl (SI hq hl hn) (by simp) (by simp) (zJ0 v)
theorem xC1{i:Nat}{s:Seg}(b:(dN p n)[i]?=some s):oA [.agg (whU q i),dX q s]=some (.tup [.agg (whV q (i+1)),.n 0]):=by cases i with
 |zero=>
  obtain rfl:=zd6 b;rw[TP _ _ (by simp)];exact NJ qP qP rfl rfl (by simp) (by simp) YR|succ j=>
  have f:j<n:=by have:=(aF.1 b).1;simp[dN]at this;omega
  obtain rfl:=zZ0 b;rw[TO _ _ rfl];have v:=GQ (i:=(j:Int)) (j:=(j:Int)+1) hq (by omega) (by omega) (by omega);have d:whV q (j+1+1)=Org.cells ⟨[⟨q,0,((j+1:Nat):Int)⟩],[],[]⟩:=by simp[whV,whR,Org.cells,aI,Sp.row]
  rw[d];by_cases c:j=0
  ·subst c;have a:whU q (0+1)=Org.cells ⟨[],[],[]⟩:=by simp[whU,whR,Org.cells,aI]
   rw[a];exact NJ qP v rfl (SI hq hl hn) (by simp) (by simp) (zJ0 v)
  ·have a:whU q (j+1)=Org.cells ⟨[⟨q,0,(j:Int)⟩],[],[]⟩:=by simp[whU,whR,c,Org.cells,aI,Sp.row]
   rw[a];have e:=GQ (i:=0) (j:=(j:Int)) hq (by omega) (by omega) (by omega);have:=yW1 (j:=(j:Int)) hq (by omega) (by omega);exact NJ e v (SI hq hl hn) (SI hq hl hn) (by simp) (by simp) (by rw[this];simp)
include hpq
theorem xy6:TrAsk (oB nD) pD oA x mo mw [c0,c1,c2,c3,.map mo,.map mw] [(.str p,.n 0)] q (dN p n)where
 th:=fun s a=>xx6 hq hl hn a
 un:=fun s a=>xC3 hq hl hn a
 of:=fun s a k i H g b f=>by
  have c:iP .s (.str q) [(.str p,.n 0)]=some none:=by
   have e:(q==p)=false:=beq_eq_false_iff_ne.2 (Ne.symm hpq);simp[iP,qA,e]
  have d:iY sgK (s.at_ q).row (eS q k)=some none:=VQ fun h=>hpq ((zY9 (i _ h)).symm);rcases TM a with rfl|⟨j,l,rfl⟩
  ·rw[TP _ _ (by simp)];exact xc9 g b f c (by simp[Seg.at_]) d
  ·rw[TO _ _ rfl];refine xc7 g b f c rfl d (a:=[[.str q,.n (j:Int),.n ((j:Int)+1)]]) (e:=.n 0) ?_;have:nD [.sl [[.str q,.n (j:Int)]]]=some (.tup [.sl [[.str q,.n (j:Int),.n ((j:Int)+1)]],.n 0]):=by simp only[nD];rw[if_pos ⟨hq,by omega,by omega,by omega⟩]
   exact this
theorem yT1:InAsk (oB nD) oA x mo mw [c0,c1,c2,c3,.map mo,.map mw] [(.str p,.n 0)] p q n where
 un:=fun i s a=>have _:=hpq;xC1 hq hl hn a
 of:=fun i s a H f c e=>by
  have b:s∈dN p n:=gJ a;have d:=zY9 b;exact xc8 (w:=.n 0) f c e (by rw[d];simp[iP,qA]) (zn3 b)
end
def HQ(c:List AV->Option AV):List AV->aA->Option (AV×aA)
 |[.ptr t 0,.n 0],h=>match h[t]? with
  |some (.cellsT none [.sl [[.str nm,.str _,.str a,.sl tr]],_,_,.sl [[.n 0,_,_,_,_,_]],_,_,.own _ _ 1])=>match c [.sl tr,.str a]with
   |some (.tup [.str b,.T])=>if Lib.countByte b 10=0/\b.length<=65536/\eH (nm++[47]++a)=true/\(nm++[47]++a).length<4294967281 then some (.sl [[.str (nm++[47]++a),.n 0,.n 1]],h)else none|_=>none
  |_=>none
 |_,_=>none
theorem xl2(G:Gam)(A:List AV->Option AV)(hF:G Fn.dm=some (.pure A))(hc:G Fn.dd=some (.pure uB))(hL:G Fn.a2=some (.pure nD)):∀l h r w,bA h.length l=true->bG h.length h=true->HQ A l h=some (r,w)->wpM G Mc.a9 (jM h.length Rs.a9 r w) [] (aC Ks.a9 l) h:=by
 intro l h r w _ b2 e;unfold HQ at e;split at e
 ·rename_i t h0;split at e
  ·rename_i nm vs g tr c1 c2 V W Y Z d5 O P a v E;split at e
   ·rename_i I b1;split at e
    ·rename_i hk;obtain⟨k1,k2,k3,k4⟩:=hk;injection e with e;injection e with q1 q2;subst q1 q2;have e2:t<h.length:=(aF.1 E).1;generalize f:[AV.str nm,.str vs,.str g,.sl tr]=d at*;generalize D:[AV.int .i64 0,V,W,Y,Z,d5]=k at*;generalize C:nm++[47]++g=pt at*;have y:∀X:aA,(h++X)[t]?=some (.cells [.sl [d],c1,c2,.sl [k],O,P,.own a v 1]):=fun X=>jY E;have e6:∀X,aB 1 false (h++X) (.ptr t 6)=some (.own a v 1):=fun X=>by simp[aB,y X,cut,aD]
     have e0:∀X,aB 1 false (h++X) (.ptr t 0)=some (.sl [d]):=fun X=>by simp[aB,y X,cut,aD]
     have e3:∀X,aB 1 false (h++X) (.ptr t 3)=some (.sl [k]):=fun X=>by simp[aB,y X,cut,aD]
     have nz:∀H c,opV G c H (.isnilp false) (some [.ptr t 0])=some (.F,H):=fun H c=>by rw[bW rfl];rfl
     have nk:∀H c,opV G c H .nilck (some [.ptr t 0])=some (.ptr t 0,H):=fun H c=>by rw[bW rfl];rfl
     have ln:∀H,aW H 1 (.own a v 1)=some (.n 1):=fun H=>by simp[aW]
     have ir:∀H,bN 6 H (.sl [k]) (.n 0)=some (.fptr k 0):=fun H=>by rw[<-D];rfl
     have lr:∀H,aB 1 false H (.fptr k 0)=some (.n 0):=fun H=>by rw[<-D];rfl
     have sc:∀H c,opV G c H (.slc (some 4) false true false) (some [.sl [d],.n 1])=some (.sl [d],H):=fun H c=>by rw[bW rfl,<-f];rfl
     have ip:∀H,bN 4 H (.sl [d]) (.n 0)=some (.fptr d 0):=fun H=>by rw[<-f];rfl
     have lp:∀H,aB 4 true H (.fptr d 0)=some (.agg d):=fun H=>by rw[<-f];rfl
     have f1:ltB 0 0=false:=rfl;have z:ltB 0 1=true:=rfl;have f2:ltB 1 1=false:=rfl;have f3:ltB 0 1=true:=rfl;have s:IntKind.i64.wrap 1=1:=rfl;have n3:∀c,opV G c h (.newnil 3) (some [])=some (.own h.length 0 0,h++[.arr 3 0 [] true]):=fun c=>LV;have n2:∀c,opV G c (h++[.arr 3 0 [] true]) (.newnil 2) (some [])=some (.own (h.length+1) 0 0,h++[.arr 3 0 [] true,.arr 2 0 [] true]):=fun c=>by rw[LV];simp
     rw[aT];simp[Mc.a9,aC,Ks.a9,e6,e0,e3,nz,nk,ir,lr,sc,n3,n2,z,s,-aB,-LV];refine KM (Mc.a9_L0.eq_1) (by simp) ?_;have s4:bB 4 (h++[Blk.arr 3 0 [] true,.arr 2 0 [] true,.cells [.str [],.str [],.str [],.nils]]) (.ptr (h.length+2) 0) (.agg d)=some (h++[Blk.arr 3 0 [] true,.arr 2 0 [] true,.cells d]):=by rw[<-f,aQ];simp[AV.cells,bE,bF]
     have u:∀b:Blk,(h++[Blk.arr 3 0 [] true,b,.cells d])[h.length+2]?=some (.cells d):=fun b=>by simp
     have l3:∀b:Blk,aB 1 false (h++[Blk.arr 3 0 [] true,b,.cells d]) (.ptr (h.length+2) 3)=some (.sl tr):=fun b=>by have:=u b;rw[<-f]at this⊢;simp[aB,cut,aD]
     have F:∀b:Blk,aB 1 false (h++[Blk.arr 3 0 [] true,b,.cells d]) (.ptr (h.length+2) 2)=some (.str g):=fun b=>by have:=u b;rw[<-f]at this⊢;simp[aB,cut,aD]
     have l0:∀b:Blk,aB 1 false (h++[Blk.arr 3 0 [] true,b,.cells d]) (.ptr (h.length+2) 0)=some (.str nm):=fun b=>by have:=u b;rw[<-f]at this⊢;simp[aB,cut,aD]
     have S:∀c H,opV G c H (.call Fn.dm) (some [.sl tr,.str g])=some (.tup [.str I,.T],H):=fun c H=>cU hF rfl b1 (.inr rfl);have Q:∀c H,opV G c H (.call Fn.dd) (some [.str I,.str [10]])=some (.n 0,H):=fun c H=>cU hc rfl (by simp[uB,k1]) (.inr rfl);simp[aY,z,ip,lp,s4,l3,F,S,Q,s,-aB,-aQ];refine KM (Mc.a9_L1.eq_1) (by simp) ?_;have M:∀c H,opV G c H (.bld [.str [],.n 0] [(0,1),(1,1)]) (some [.str pt,.n 0])=some (.agg [.str pt,.n 0],H):=fun c H=>by rw[bW rfl];rfl
     have N:∀c H,opV G c H (.bsl false 2) (some [.agg [.str pt,.n 0]])=some (.tsl [[.str pt,.n 0]],H):=fun c H=>by rw[gF rfl];rfl
     have L:∀c,opV G c (h++[Blk.arr 3 0 [] true,.arr 2 0 [] true,.cells d]) (.app false 2 24) (some [.own (h.length+1) 0 0,.tsl [[.str pt,.n 0]]])=some (.own (h.length+1) 1 1,h++[Blk.arr 3 0 [] true,.arr 2 1 [[.str pt,.n 0]] true,.cells d]):=fun c=>by
      have:=tI (G:=G) (s:=c) (h:=h++[Blk.arr 3 0 [] true,.arr 2 0 [] true,.cells d]) (e:=fun _:Unit=>[AV.str pt,.n 0]) (n:=2) (b:=24) (l:=h.length+1) (os:=[]) (x:=()) (by simp) rfl (by omega) (by unfold big;simp);rw[gK _ _ (by omega),show h.length+1-h.length=1 by omega]at this;exact this
     have hl:nm.length+1+g.length<4294967281:=by rw[<-C]at k4;simp at k4;omega
     have J:∀c H,opV G c H (.bin .add) (some [.str nm,.str [47]])=some (.str (nm++[47]),H):=fun c H=>by
      rw[bW rfl];simp only[bV,bY,eC];rw[if_pos (by simp[rZ];omega)];rfl
     have K:∀c H,opV G c H (.bin .add) (some [.str (nm++[47]),.str g])=some (.str pt,H):=fun c H=>by
      rw[bW rfl];simp only[bV,bY,eC];rw[if_pos (by simp[rZ];omega),C];rfl
     simp[aY,z,l0,F,J,K,M,N,L,s,-aB,-gF];refine KM (Mc.a9_L1.eq_1) (by simp) ?_;simp[aY];rw[show h++[Blk.arr 3 0 [] true,.arr 2 1 [[.str pt,.n 0]] true,.cells d]=(h++[Blk.arr 3 0 [] true,.arr 2 1 [[.str pt,.n 0]] true])++[.cells d]by simp];refine tC (Mc.a9_L0.eq_1) (by simp) fun T=>?_;have B:((h++[Blk.arr 3 0 [] true,.arr 2 1 [[.str pt,.n 0]] true])++T)[h.length+1]?=some (.arr 2 1 [[.str pt,.n 0]] true):=by simp
     have gh:∀i b,h[i]?=some b->((h++[Blk.arr 3 0 [] true,.arr 2 1 [[.str pt,.n 0]] true])++T)[i]?=some b:=fun i b o=>by rw[jT];exact jY o
     have e1:h.length+2<=((h++[Blk.arr 3 0 [] true,.arr 2 1 [[.str pt,.n 0]] true])++T).length:=by simp
     generalize b3:(h++[Blk.arr 3 0 [] true,.arr 2 1 [[.str pt,.n 0]] true])++T=j at*;have U:opV G false j (.call Fn.a2) (some [.own (h.length+1) 1 1])=some (.tup [.sl [[.str pt,.n 0,.n 1]],.n 0],j.set (h.length+1) (.arr 2 1 [[.str pt,.n 0]] false)):=by
      have hv:cV j [.own (h.length+1) 1 1]=some [.sl [[.str pt,.n 0]]]:=by
       have a3:rowsOf j (.own (h.length+1) 1 1)=some [[.str pt,.n 0]]:=xV B rfl;simp only[cV,view,a3];rfl
      have hf:nD [.sl [[.str pt,.n 0]]]=some (.tup [.sl [[.str pt,.n 0,.n 1]],.n 0]):=by simp[nD,k3,k4]
      simp only[opV,iB,bM,bH,fV,cG,AO.quiet,bC,dE,hL,hv,hf];simp[owns,eZ,dC,jX,B,scalar,MS]
     simp[aY,s,U];refine⟨trivial,.sl [[.str pt,.n 0,.n 1]],j.set (h.length+1) (.arr 2 1 [[.str pt,.n 0]] false),by simp[Rs.a9,cZ],by simp[frz,view,owns,dC],bP _,⟨by rw[gT];omega,fun i b o=>.inr ?_⟩,by simp[low],b2⟩;have:=(aF.1 o).1;rw[eY (by omega)];exact gh i b o
    ·cases e
   ·cases e
  ·cases e
 ·cases e
def qCp:Bs:=[97,112,112,47,102]
def pCp:Bs:=[97,112,112,47,111]
def dCp(data:Bs):List (List AV):=[[.str [97,112,112],.str [49],.str [114,101,99,105,112,101],.sl [[.str [102],.str data],[.str [114,101,99,105,112,101],.str [105,110,115,116,97,108,108,32,102,32,97,115,32,111]]]]]
def fCp(data:Bs):List (List AV):=[[.str [97,112,112,47,102],.str data],[.str [97,112,112,47,111],.str data],[.str [97,112,112,47,114,101,99,105,112,101],.str [105,110,115,116,97,108,108,32,102,32,97,115,32,111]]]
def iCp:List (List AV):=[[.str pCp]]
def rCp(data:Bs):List (List AV):=[[.n 0,.n 0,.n 8,.sl [[.str [97,112,112,47,102],.str (nJ data)]],.str pCp,.str (nJ data)]]
def nCp(data:Bs):Nat:=Lib.countByte data 10+1
def hCp(data:Bs)(a:List (AV×AV)):aA:=trH (vG data) 8 (.sl (fCp data)) (.sl iCp) (.sl (rCp data)) a [(.str pCp,.n 0)]
def xl1:List (List AV):=[[.str [97,112,112,47,114,101,99,105,112,101],.n 0,.n 1]]
theorem xf0(data:Bs):(vG data).length=21:=rfl
theorem zR4:eH qCp=true:=by kernel_rfl
theorem xi1:eH ([97,112,112]++[47]++[114,101,99,105,112,101])=true:=by kernel_rfl
theorem zO5:pCp≠qCp:=by decide
theorem WZ(data:Bs)(hd:data.length<=1000):Lib.countByte data 10<=1000:=oJ List.count_le_length hd
theorem zo6(data:Bs)(a:List (AV×AV)):AtTr data qCp pCp 8 (hCp data a):=⟨19,.sl (dCp data),.sl (fCp data),.sl iCp,.sl (rCp data),6,7,.n 0,.sl [],.sl [],[],[(.str [97,112,112,47,102],.str data),(.str [97,112,112,47,111],.str data),(.str [97,112,112,47,114,101,99,105,112,101],.str [105,110,115,116,97,108,108,32,102,32,97,115,32,111])],[(.str [97,112,112,47,102],.n 1),(.str [97,112,112,47,111],.n 1),(.str [97,112,112,47,114,101,99,105,112,101],.n 1)],rfl,rfl,rfl,rfl,rfl,rfl,rfl,rfl⟩
theorem zs6(data:Bs)(hd:data.length<=1000):sC [.str data]=some (.tup [.agg (PI 65536 65536 65536 65536 data).1.cells,.n (PI 65536 65536 65536 65536 data).2]):=by
 have:data.length<=1000000:=by omega
 simp only[sC,this,aM];rfl
theorem yK3(data:Bs):CM data qCp pCp [.ptr 8 0,.n 0] (hCp data [])=some (.sl (eP ((dN pCp (nCp data)).map (cpF qCp))),hCp data []):=by
 simp only[CM];rw[if_pos (zo6 data [])];rfl
def zj7(data:Bs):List AV->aA->Option (AV×aA):=fC [.sl (dCp data)] [.cells KP,.cells dS] (.tup [.ptr 24 0,.agg dS]) (hCp data (eS qCp (dN pCp (nCp data))))
def zj6(data:Bs):List AV->aA->Option (AV×aA):=fC [.ptr 24 0,.str pCp] (hCp data (eS qCp (dN pCp (nCp data)))++[.cells dS]) (.agg [.str pCp,.sl (whR qCp (nCp data)),.sl [],.sl [],.sl xl1,.sl []]) (hCp data (eS qCp (dN pCp (nCp data)))++[.cells dS])
def Gu1(data:Bs):Gam:=Gt61.add Fn.dm (.pure (eU (GI data) BP))
def Gu2(data:Bs):Gam:=(Gu1 data).add Fn.a9 (.gen (HQ (eU (GI data) BP)))
def Gu3(data:Bs):Gam:=(Gu2 data).add Fn.dg (.gen (fC (LP data) (LQ data) (LR data) (vG data)))
def Gu4(data:Bs):Gam:=(Gu3 data).add Fn.dk (.gen (fC (JE data) (zQ data) (JG data) (JF data)))
def Gu5(data:Bs):Gam:=(Gu4 data).add Fn.am (.gen (CM data qCp pCp))
def Gu6(data:Bs):Gam:=(Gu5 data).add Fn.a3 (.gen (zj7 data))
def Gu7(data:Bs):Gam:=(Gu6 data).add Fn.bu (.gen (zj6 data))
section
variable{m:GvP}{data:Bs}(H:Lib38 m)(H4:Lib44 m)(hd:data.length<=1000)(H11:GamOK Tryz.prog (gv1 m) (V11 m data))
include H H4 hd H11
theorem zF6:GamOK Tryz.prog (gv1 m) (Gu1 data):=bD (yR4 m H H4) (by kernel_rfl) (find_ok hd H11)
theorem yR6:GamOK Tryz.prog (gv1 m) (Gu2 data):=bD (zF6 H H4 hd H11) (by kernel_rfl) (uY (by kernel_rfl) (zF6 H H4 hd H11) Tryz.func130 rfl (ks:=Ks.a9) (rs:=Rs.a9) (by kernel_rfl) (by kernel_rfl) (Ok.a9 m) (xl2 _ _ rfl rfl rfl))
theorem yR7:GamOK Tryz.prog (gv1 m) (Gu3 data):=bD (yR6 H H4 hd H11) (by kernel_rfl) (H11.ok Fn.dg (.gen (fC (LP data) (LQ data) (LR data) (vG data))) (by rfl))
theorem zF7:GamOK Tryz.prog (gv1 m) (Gu4 data):=bD (yR7 H H4 hd H11) (by kernel_rfl) (H11.ok Fn.dk (.gen (fC (JE data) (zQ data) (JG data) (JF data))) (by rfl))
theorem zF8:GamOK Tryz.prog (gv1 m) (Gu5 data):=bD (zF7 H H4 hd H11) (by kernel_rfl) (uY (by kernel_rfl) (zF7 H H4 hd H11) Tryz.func128 rfl (ks:=Ks.am) (rs:=Rs.am) (by kernel_rfl) (by kernel_rfl) (Ok.am m) (yK4 _ (zs6 data hd) rfl rfl (WZ data hd) rfl rfl rfl))
theorem zF9:GamOK Tryz.prog (gv1 m) (Gu6 data):=bD (zF8 H H4 hd H11) (by kernel_rfl) (tB (by kernel_rfl) (zF8 H H4 hd H11) Tryz.func78 rfl (ks:=Ks.a3) (rs:=Rs.a3) (by kernel_rfl) (by kernel_rfl) (Ok.a3 m) (fun b h r c _ _ a=>by
 obtain⟨rfl,rfl,rfl,rfl⟩:=FY a;have d:=WZ data hd;exact xz0 (G:=Gu5 data) (FN:=fC (LP data) (LQ data) (LR data) (vG data)) (FB:=fC (JE data) (zQ data) (JG data) (JF data)) (FF:=CM data qCp pCp) (FOf:=oB nD) (FT:=pD) (FU:=oA) rfl rfl rfl rfl rfl rfl (h:=[.cells KP,.cells dS]) (H1:=vG data) (d:=dCp data) (t:=8) (files:=fCp data) (inst:=iCp) (p:=pCp) (q:=qCp) (segs:=dN pCp (nCp data)) qH ⟨_,rfl⟩ qH (yK3 data) (zY8 _ _) (by simp[dN,nCp];unfold big;omega) (by rw[xf0];omega) rfl (xy6 zR4 (by decide) zO5 (by unfold nCp;omega))))
theorem yR8:GamOK Tryz.prog (gv1 m) (Gu7 data):=bD (zF9 H H4 hd H11) (by kernel_rfl) (uY (by kernel_rfl) (zF9 H H4 hd H11) Tryz.func80 rfl (ks:=Ks.bu) (rs:=Rs.bu) (by kernel_rfl) (by kernel_rfl) (Ok.bu m) (fun i h r j _ _ c=>by
 obtain⟨rfl,rfl,rfl,rfl⟩:=FY c;have e:=WZ data hd;have d:=zo6 data (eS qCp (dN pCp (nCp data)));have a:∀X:aA,(hCp data (eS qCp (dN pCp (nCp data)))++[Blk.cells dS]++X)[8]?=some (.cells [.sl (dCp data),.sl (fCp data),.sl iCp,.sl (rCp data),.map 6,.map 7,.own 19 0 1]):=fun X=>rfl;have b:∀X:aA,(hCp data (eS qCp (dN pCp (nCp data)))++[Blk.cells dS]++X)[7]?=some (.map [(.str [97,112,112,47,102],.n 1),(.str [97,112,112,47,111],.n 1),(.str [97,112,112,47,114,101,99,105,112,101],.n 1)]):=fun X=>rfl;exact yU3 (G:=Gu6 data) (FRc:=HQ (eU (GI data) BP)) (FAr:=yI) (FSg:=oC sC) (FOf:=oB nD) (FU:=oA) rfl rfl rfl rfl rfl (x:=24) (t:=8) (mo:=22) (mw:=23) (c1:=.sl (fCp data)) (c2:=.sl iCp) (c3:=.sl (rCp data)) rfl rfl rfl (fun X=>by
  have f:eU (GI data) BP [.sl [[.str [102],.str data],[.str [114,101,99,105,112,101],.str [105,110,115,116,97,108,108,32,102,32,97,115,32,111]]],.str [114,101,99,105,112,101]]=some BP:=nS;simp only[HQ,a,dCp,rCp];rw[f];show(if _ then _ else _)=_;rw[if_pos ⟨by decide,by decide,xi1,by decide⟩];rfl) (fun X=>by
  have g:iP .s (.str pCp) [(.str [97,112,112,47,102],AV.int .i64 1),(.str [97,112,112,47,111],.n 1),(.str [97,112,112,47,114,101,99,105,112,101],.n 1)]=some (some (.n 1)):=rfl;simp only[yI,a,b,g]) (fun X=>zY6 (zs6 data hd) rfl rfl e ((d.app _).app X)) (by unfold nCp;omega) rfl (yT1 zR4 (by decide) zO5 (by unfold nCp;omega))))
theorem yU5:dP Tryz.prog (gv1 m) Fn.b2 (eU (LK data) (LL data)):=hJ (by kernel_rfl) (yR8 H H4 hd H11) Tryz.func43 rfl (ks:=Ks.b2) (rs:=Rs.b2) (by kernel_rfl) (by kernel_rfl) (Ok.b2 m) (fun c r a=>by
 obtain⟨rfl,rfl⟩:=zW7 a;have b:whR qCp (nCp data)=[[.str [97,112,112,47,102],.n 0,.n (nlE data)]]:=by simp[whR,nCp,nlE,qCp]
 have:=yU4 (G:=Gu7 data) (FT:=zj7 data) (FI:=zj6 data) (FC:=uA) rfl rfl rfl (d:=dCp data) (inst:=iCp) (x:=24) (p:=pCp) qH rfl rfl rfl (by kernel_rfl) qH;rw[b]at this;exact this)
end
end
end Go.Proofs.YtpefhfiehfkocaaGreatDoor
