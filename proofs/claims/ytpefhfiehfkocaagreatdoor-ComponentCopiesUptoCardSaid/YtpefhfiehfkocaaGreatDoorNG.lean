/- (*Tracer) -/
import Derived.Test.YtpefhfiehfkocaaGreatDoorNF
namespace Go.Proofs.YtpefhfiehfkocaaGreatDoor
open Go.RowKit Go.IntWalk
def flA(h:aA)(l:Nat)(c:List AV)(a b:List (AV×AV)):aA:=h++[.arr 9 0 [] true,.cells c,.map a,.cells [.ptr l 0,.map (h.length+2)],.map b,.cells [.map (h.length+4)]]
def XU:MC:=.s [kz 10 (.newnil 9) []] (.seq (.s [zf 86 1 6,zl 87 86,kz 88 .rngm [.t 87]] (.blk 3 (.loop [11] Mc.am_L1))) KI)
theorem zM0{n:Nat}:∀{T:aA},(∀b∈T,gR n b=true)->bG n T=true
 |[],_=>rfl|b::T,h=>by simp only[bG,bR];exact⟨h b (by simp),zM0 fun c a=>h c (lC _ a)⟩
theorem YD{G:Gam}{d:List Nat}{a:MC}{n id:Nat}{c:List MK}{Q:aS}{b:List (Nat×AV)}{h:aA}:cY G d a n (.blk id::c) Q b h=cY G d a n [.blk id] (mP G c Q) b h:=rfl
theorem yJ8{G:Gam}{V S:List AV->aA->Option (AV×aA)}(f1:G Fn.bl=some (.gen S))(n1:G Fn.a8=some (.gen V)){h:aA}{l a:Nat}{c0 c1 c2 c3 c4 c5 x0 x3 x4:AV}{q p:Bs}{rd:List (List AV)}{c:List AV}{j:List (AV×AV)}{g:List Seg}(I:c=[x0,.n 8,.sl ([.str q]::rd),x3,x4,.str p])(j1:c.all bE=true)(hl:h[l]?=some (.cells [c0,c1,c2,c3,c4,c5,.own a 0 1]))(ha:h[a]?=some (.arr 6 0 [c] true))(X:S [.agg [.ptr l 0,.map (h.length+2)],.agg c] (h++[.arr 9 0 [] true,.cells c,.map [],.cells [.ptr l 0,.map (h.length+2)]])=some (.tup [],(h++[Blk.arr 9 0 [] true,Blk.cells c,Blk.map [],Blk.cells [.ptr l 0,.map (h.length+2)]]).set (h.length+2) (.map j)))(Y:V [.ptr l 0,.str p] (flA h l c j [])=some (.sl (g.map Seg.row),flA h l c j []))(i3:g.Nodup)(m1:g.length<big)(h2:bG h.length h=true)(i1:bA h.length c=true){k K:List Fl}(hd:uU j=some k)(f3:k.length<=3000){U:List AV->aA->Option (AV×aA)}(n2:G Fn.cr=some (.gen U))(n3:∀T:aA,(∀b∈T,gR 0 b=true)->∀v:List Fl,v.Perm k->U [.own (flA h l c j (esP 0 g)++T).length v.length v.length,.fn Fn.ap [.ptr (h.length+5) 0]] (FD (flA h l c j (esP 0 g)++T) v.length v)=some (.tup [],FD (flA h l c j (esP 0 g)++T) k.length K)){Q:aS}(hQ:∀(T:aA)x A,aV x A 4=some (.own (flA h l c j (esP 0 g)++T).length k.length k.length)->Q .ret x A (FD (flA h l c j (esP 0 g)++T) k.length K)):wpM G Mc.am Q [] (aC Ks.am [.ptr l 0,.n 0]) h:=by
 have h1:l<h.length:=(aF.1 hl).1;have e3:a<h.length:=(aF.1 ha).1;generalize B:h++[Blk.arr 9 0 [] true]=d;generalize C:d++[Blk.cells c]=w;generalize D:w++[Blk.map []]=m;generalize z:m++[Blk.cells [.ptr l 0,.map (h.length+2)]]=o;have l1:d.length=h.length+1:=by rw[<-B];simp
 have l2:w.length=h.length+2:=by rw[<-C];simp[l1]
 have l3:m.length=h.length+3:=by rw[<-D];simp[l2]
 have l4:o.length=h.length+4:=by rw[<-z];simp[l3]
 have u1:∀i,i<h.length->d[i]?=h[i]?:=fun i N=>by rw[<-B,aX N]
 have e6:aB 1 false d (.ptr l 6)=some (.own a 0 1):=by
  have:=u1 l h1;rw[hl]at this;simp[aB,this,cut,aD]
 have a3:d[a]?=some (.arr 6 0 [c] true):=by rw[u1 a e3];exact ha
 have O:c.length=6:=by rw[I];rfl
 have ia:bN 6 d (.own a 0 1) (.n 0)=some (.eptr a 0 0 0):=by simp[bN,a3,O]
 have ln:aW d 1 (.own a 0 1)=some (.n 1):=by simp[aW]
 have ea:aB 6 true d (.eptr a 0 0 0)=some (.agg c):=by simp[aB,a3,cut,aD,O,lN]
 have s2:bB 6 (d++[.cells [AV.int IntKind.i64 0,AV.int IntKind.i64 0,AV.nils,AV.nils,AV.nils,AV.str []]]) (.ptr d.length 0) (.agg c)=some w:=by rw[<-C,aQ];subst I;simp only[AV.cells];simp[bF,j1]
 have mk:∀f,opV G f w .mkmap (some [])=some (.map w.length,m):=fun f=>by rw[FG,D]
 have bd:∀f,opV G f m (.bld [.nilp,.nilm] [(0,1),(1,1)]) (some [.ptr l 0,.map w.length])=some (.agg [.ptr l 0,.map (h.length+2)],m):=fun f=>by rw[bW rfl,l2];rfl
 have s4:bB 2 (m++[.cells [AV.nilp,AV.nilm]]) (.ptr m.length 0) (.agg [.ptr l 0,.map (h.length+2)])=some o:=by rw[<-z,aQ];simp[AV.cells,bE,bF]
 have p4:o[d.length]?=some (.cells c):=by rw[<-z,aX (by omega),<-D,aX (by omega),<-C];simp
 have q4:o[m.length]?=some (.cells [.ptr l 0,.map (h.length+2)]):=by rw[<-z];simp
 have e8:aB 1 false o (.ptr d.length 1)=some (.n 8):=by subst I;simp[aB,p4,cut,aD]
 have e9:aB 6 true o (.ptr d.length 0)=some (.agg c):=by simp[aB,p4,cut,aD,O,lN]
 have d1:aB 2 true o (.ptr m.length 0)=some (.agg [.ptr l 0,.map (h.length+2)]):=by simp[aB,q4,cut,aD]
 have nz:∀f,opV G f d (.isnilp false) (some [.ptr l 0])=some (.F,d):=fun f=>by rw[bW rfl];rfl
 have nk:∀f,opV G f d .nilck (some [.ptr l 0])=some (.ptr l 0,d):=fun f=>by rw[bW rfl];rfl
 have z1:ltB 0 0=false:=rfl;have z0:ltB 0 1=true:=rfl;have z2:eqB 8 1=false:=rfl;have z3:eqB 8 2=false:=rfl;have z4:eqB 8 3=false:=rfl;have z5:eqB 8 4=false:=rfl;have z6:eqB 8 5=false:=rfl;have z7:eqB 8 6=false:=rfl;have z8:eqB 8 7=false:=rfl;have z9:eqB 8 8=true:=rfl;have Z:h++[Blk.arr 9 0 [] true,.cells c,.map [],.cells [.ptr l 0,.map (h.length+2)]]=o:=by rw[<-z,<-D,<-C,<-B];simp
 rw[Z]at X;have b2:opV G false o (.call Fn.bl) (some [.agg [.ptr l 0,.map (h.length+2)],.agg c])=some (.tup [],o.set (h.length+2) (.map j)):=by rw[dV f1,X]
 generalize a1:o.set (h.length+2) (.map j)=J at*;generalize L:J++[Blk.map []]=r;generalize E:r++[Blk.cells [.map (h.length+4)]]=n;have l5:J.length=h.length+4:=by rw[<-a1,gT];exact l4
 have l6:r.length=h.length+5:=by rw[<-L];simp[l5]
 have l7:n.length=h.length+6:=by rw[<-E];simp[l6]
 have o1:∀f,opV G f J .mkmap (some [])=some (.map (h.length+4),r):=fun f=>by rw[FG,L,l5]
 have s7:bB 1 (r++[.cells [AV.nilm]]) (.ptr r.length 0) (.map (h.length+4))=some n:=by rw[<-E,aQ];simp[AV.cells,bE,bF]
 have F:flA h l c j []=n:=by
  rw[<-E,<-L,<-a1,<-Z];unfold flA;rw[gK _ _ (by omega),show h.length+2-h.length=2 by omega];simp
 rw[F]at Y;have p7:n[d.length]?=some (.cells c):=by rw[<-F];unfold flA;rw[l1];simp
 have d2:aB 1 false n (.ptr d.length 5)=some (.str p):=by subst I;simp[aB,p7,cut,aD]
 have b3:opV G false n (.call Fn.a8) (some [.ptr l 0,.str p])=some (.sl (g.map Seg.row),n):=by rw[dV n1,Y]
 rw[aT];simp[Mc.am,aC,Ks.am,B,e6,ia,ea,s2,mk,bd,s4,e8,e9,d1,nz,nk,b2,o1,s7,d2,b3,z0,z2,z3,z4,z5,z6,z7,z8,-aB,-aQ,-FG];rw[YD];have j3:n[r.length]?=some (.cells [.map (h.length+4)]):=by rw[<-E];simp
 have i2:n[h.length+4]?=some (.map []):=by rw[<-F];unfold flA;simp
 have m2:n.set (h.length+4) (.map (esP 0 []))=n:=by
  apply kL;intro i;by_cases e:h.length+4=i;·subst e;rw[fL (by omega),i2];rfl
  ·rw[eY e]
 have j2:=zR9 (ss:=g) (gs:=[]) (by simpa using i3);have hL:=zx0 (G:=G) (A:=n) (q:=r.length) (mp:=h.length+4) (segs:=g) (a0:=.ptr l 0) (a1:=.n 0) (a4:=.own h.length 0 0) (a5:=.ptr d.length 0) (a6:=.ptr m.length 0) (a10:=.junk) (a11:=.junk) (a38:=.n 8) (a49:=.F) (a65:=.T) (a88:=.junk) j3 (by omega) (by omega) m1 (es':=esP 0 g) (Q:=mP G [MK.seq XU] Q) ?_ g [] (esP 0 []) .junk .junk [] (fun b M=>by cases M) rfl (by simpa using j2)
 ·rw[m2,iR]at hL;exact hL
 ·intro x T hT;show goM G XU [] Q x _ _;unfold XU KI;have m3:n.set (h.length+4) (.map (esP 0 g))=flA h l c j (esP 0 g):=by
   rw[<-F];unfold flA;rw[gK _ _ (by omega),show h.length+4-h.length=4 by omega];simp
  rw[m3];generalize y:flA h l c j (esP 0 g)++T=P at*;have e2:P[h.length+3]?=some (.cells [.ptr l 0,.map (h.length+2)]):=by rw[<-y];unfold flA;simp
  have a2:P[h.length+2]?=some (.map j):=by rw[<-y];unfold flA;simp
  have o3:h.length+6<=P.length:=by rw[<-y];unfold flA;simp
  have nn:∀f,opV G f P (.newnil 9) (some [])=some (.own P.length 0 0,P++[.arr 9 0 [] true]):=fun f=>LV;generalize H:P++[Blk.arr 9 0 [] true]=u at*;have b1:u.length=P.length+1:=by rw[<-H];simp
  have d3:aB 1 false u (.ptr m.length 1)=some (.map (h.length+2)):=by
   have:u[m.length]?=some (.cells [.ptr l 0,.map (h.length+2)]):=by rw[<-H,aX (by omega),l3];exact e2
   simp[aB,this,cut,aD]
  obtain⟨f2,_⟩:=XE hd;have rg:∀f,opV G f u .rngm (some [.map (h.length+2)])=some (.ptr (P.length+1) 0,u++[.mit (some (h.length+2)) k.length [] k.length]):=fun f=>by
   have:u[h.length+2]?=some (.map j):=by rw[<-H,aX (by omega)];exact a2
   rw[fG rfl];simp[bC,this,f2,b1]
  simp[nn,d3,rg,-aB,-LV];have h3:bG P.length P=true:=by
   have g1:bG P.length h=true:=AJ (by omega) h2;have g2:bG P.length T=true:=zM0 fun b M=>zL8 (lD _) (hT b M);have g3:bA P.length c=true:=AK (by omega) i1;generalize P.length=o2 at*;rw[<-y];unfold flA;refine xH (xH g1 ?_) g2;simp[bG,gR,bA,low,g3];omega
  have W:=yK2 n2 (P:=P) (q:=r.length) (m:=h.length+2) (es:=j) (fs:=k) (fs':=K) (Q:=Q) (fun x A hg=>by rw[<-y]at hg⊢;exact hQ T x A hg) (a0:=.ptr l 0) (a1:=.n 0) (a4:=.own h.length 0 0) (a5:=.ptr d.length 0) (a6:=.ptr m.length 0) (a8:=.junk) (a9:=.junk) (a38:=.n 8) (a49:=.F) (a65:=.T) (a75:=.sl (g.map Seg.row)) (a76:=.n (g.length:Int)) (a77:=.n (g.length:Int)) h3 a2 hd f3 (fun v hp=>by rw[l6,<-y];exact n3 T hT v hp) (fun p1=>by simp[cQ,low];omega) k.length [] [] (zK2 _ _) List.nodup_nil (fun _ N=>by cases N) rfl;have e1:FH P (h.length+2) k.length [] [] []=u++[.mit (some (h.length+2)) k.length [] k.length]:=by rw[<-H];simp[FH,eP]
  rw[e1]at W;rw[b1];exact W
theorem yJ7{G:Gam}{FS FC:List AV->aA->Option (AV×aA)}(x:G Fn.bl=some (.gen FC))(I:G Fn.a8=some (.gen FS)){h:aA}{l a:Nat}{c0 c1 c2 c3 n o O Q S:AV}{q p:Bs}{rd:List (List AV)}{c:List AV}{esC:List (AV×AV)}{ss:List Seg}(L:c=[O,.n 8,.sl ([.str q]::rd),Q,S,.str p])(F:c.all bE=true)(B:h[l]?=some (.cells [c0,c1,c2,c3,n,o,.own a 0 1]))(w:h[a]?=some (.arr 6 0 [c] true))(r:FC [.agg [.ptr l 0,.map (h.length+2)],.agg c] (h++[.arr 9 0 [] true,.cells c,.map [],.cells [.ptr l 0,.map (h.length+2)]])=some (.tup [],(h++[Blk.arr 9 0 [] true,Blk.cells c,Blk.map [],Blk.cells [.ptr l 0,.map (h.length+2)]]).set (h.length+2) (.map esC)))(u:FS [.ptr l 0,.str p] (flA h l c esC [])=some (.sl (ss.map Seg.row),flA h l c esC []))(E:ss.Nodup)(H:ss.length<big)(m:bG h.length h=true)(D:bA h.length c=true){d e:List Fl}(y:uU esC=some d)(z:d.length<=3000)(C:e.length=d.length){j:List AV->aA->Option (AV×aA)}(J:G Fn.cr=some (.gen j))(K:∀T:aA,(∀b∈T,gR 0 b=true)->∀f:List Fl,f.Perm d->j [.own (flA h l c esC (esP 0 ss)++T).length f.length f.length,.fn Fn.ap [.ptr (h.length+5) 0]] (FD (flA h l c esC (esP 0 ss)++T) f.length f)=some (.tup [],FD (flA h l c esC (esP 0 ss)++T) d.length e)):wpM G Mc.am (jM h.length Rs.am (.sl (eP e)) h) [] (aC Ks.am [.ptr l 0,.n 0]) h:=by
 refine yJ8 x I L F B w r u E H m D y z J K fun T V W A=>?_;have X:h.length<=(flA h l c esC (esP 0 ss)++T).length:=by unfold flA;simp
 have v:∀i,i<h.length->(flA h l c esC (esP 0 ss)++T)[i]?=h[i]?:=fun i g=>by unfold flA;rw[jT,aX g]
 generalize flA h l c esC (esP 0 ss)++T=P at*;have N:(FD P d.length e)[P.length]?=some (.arr 9 d.length (eP e) true):=by unfold FD;rw[dY (by simp)];simp
 have M:=zy3 (n:=d.length) N (by unfold eP;rw[kG];exact C.symm);refine⟨trivial,_,_,?_,M,bP _,⟨?_,fun i U k=>.inr ?_⟩,by simp[low],m⟩;·simp[Rs.am,cZ,A]
 ·rw[gT];unfold FD;simp;omega
 ·have g:i<h.length:=(aF.1 k).1;rw[eY (by omega)];unfold FD;rw[aX (by omega),v i g];exact k
def XW(l c n q:Nat)(h:aA):Option (AV×aA):=match h[l]? with
 |some (.arrX false none 9 e d true)=>match dW sX d,EF h q l with
  |some b,some a=>if c=e/\n=b.length/\0<n/\n<=3000/\b.all (xM a)=true/\mW (cfE a) (lI a b)=true then some (.tup [],Hs h l c (lI a b))else none|_,_=>none
 |_=>none
def CR:List AV->aA->Option (AV×aA)
 |[.own l a n,.fn g [.ptr q 0]],h=>if g=Fn.ap then XW l a n q h else none|_,_=>none
theorem xt5{P:aA}{q n:Nat}{tg:Option TypeId}{d:List (AV×AV)}{g c:List Fl}(z:P[q]?=some (.cellsT tg [.map n]))(u:P[n]?=some (.map d))(K:0<g.length)(o:g.length<=3000)(v:g.all (xM d)=true)(i:mW (cfE d) g=true)(j:c.Perm g):CR [.own P.length c.length c.length,.fn Fn.ap [.ptr q 0]] (FD P c.length c)=some (.tup [],FD P g.length g):=by
 have M:q<P.length:=(aF.1 z).1;have L:n<P.length:=(aF.1 u).1;have G:=j.length_eq;have J:lI d c=g:=by
  have w:(lI d c).Perm g:=(ya6 c).trans j;have H:c.Nodup:=j.nodup_iff.2 (za5 i);have C:(lI d c).Pairwise (fun x y=>cfE d x y<0):=by cases c with
   |nil=>exact .nil|cons e r=>exact zI6 i r [e] (fun x k=>by simp at k;subst k;exact j.mem_iff.1 (by simp)) (fun x k=>j.mem_iff.1 (by simp[k])) H (by simp)
  have m:∀x∈lI d c,x∈g:=fun x k=>w.mem_iff.1 k;exact List.Perm.eq_of_pairwise (le:=fun x y=>cfE d x y<0) (fun a b l E D o=>absurd (SO i (m a l) E (m a l) D o) (SN i (m a l))) C (za6 i) w
 have A:(FD P c.length c)[P.length]?=some (.arr 9 c.length (eP c) true):=by unfold FD;rw[dY (by simp)];simp
 have B:EF (FD P c.length c) q P.length=some d:=by
  unfold EF FD;rw[jY z];simp only[];rw[if_neg (by omega),jY u]
 have I:c.all (xM d)=true:=by
  rw[fK]at v⊢;exact fun f F=>v f (j.mem_iff.1 F)
 simp only[CR,aM];unfold XW;rw[A];simp only[yD6,B];rw[J,if_pos ⟨trivial,trivial,by omega,by omega,I,i⟩,G];congr 2;unfold Hs FD;rw[gK _ _ (by simp)];simp
section
open Go.Lib Go.Sort Go.Shelf
abbrev pE(S:List Fl):={f:Fl//f∈S}
def wS(a:List (AV×AV))(S:List Fl)(x y:pE S):Int:=cfE a x.1 y.1
theorem yc5{e:List (AV×AV)}{S:List Fl}(h:mW (cfE e) S=true):Go.Sort.SWO (Go.Proofs.ltOf (wS e S))where
 irrefl x:=decide_eq_false (SN h x.2)
 trans x y z c d:=decide_eq_true (SO h x.2 y.2 z.2 (of_decide_eq_true c) (of_decide_eq_true d))
 ntrans x y z c d:=by
  refine decide_eq_false fun k=>?_;have a:=of_decide_eq_false c;have b:=of_decide_eq_false d;obtain⟨i,f⟩:=List.getElem?_of_mem x.2;obtain⟨j,g⟩:=List.getElem?_of_mem y.2;obtain⟨l,m⟩:=List.getElem?_of_mem z.2;unfold wS at a b k;rw[tJ h f g]at a;rw[tJ h g m]at b;rw[tJ h f m]at k;omega
theorem zK9{S:List Fl}:∀{fs:List Fl},(∀f∈fs,f∈S)->∃L:List (pE S),L.map (·.1)=fs
 |[],_=>⟨[],rfl⟩|f::r,h=>by
  obtain⟨L,e⟩:=zK9 (S:=S) (fs:=r) fun g a=>h g (lC _ a);exact⟨⟨f,h f (by simp)⟩::L,by simp[e]⟩
def iM{S:List Fl}(x:pE S):List Value:=rF x.1
theorem DZ{S:List Fl}(x:pE S):(iM x).length=9:=rfl
theorem zx5{S:List Fl}[Inhabited (pE S)](a:List (pE S)):(Go.Sort.flatK iM 9 a.toArray).toList=(a.map iM).flatten:=by
 apply kL;intro i;by_cases c:i<a.length*9
 ·have d:i/9<a.length:=by omega
  have b:i%9<9:=by omega
  have f:(Go.Sort.flatK iM 9 a.toArray).toList[i]?=some ((iM a[i/9])[i%9]'(by rw[DZ];exact b)):=by
   rw[gI (by simp;exact c)];have:=Go.Sort.get_flatK iM 9 a.toArray i (by simpa using c);rw[kO _ i (by simpa using c)]at this;rw[Array.getElem_toList,this];rw[kO a.toArray (i/9) (by simpa using d),List.getElem_toArray,kO _ (i%9) (by rw[DZ];exact b)]
  have e:=QJ iM DZ a (i/9) (i%9) a[i/9] _ (by simp[d]) (gI (by rw[DZ];exact b));rw[show i/9*9+i%9=i by omega]at e;rw[f,e]
 ·rw[uM.2 (by simp;omega),uM.2 (by rw[QK iM DZ];omega)]
theorem zN4{S:List Fl}{L:List (pE S)}{a:List Fl}(h:L.map (·.1)=a):L.map iM=a.map rF:=by subst h;simp[iM]
theorem zU2{C:Cx}:∀a:List Fl,RelL C (a.map Fl.row).flatten (a.map rF).flatten
 |[]=>.nil|f::r=>RelL.append (xm2 f) (zU2 r)
theorem zU3{C:Cx}:∀(b:List Fl){a:List Value},RelL C (b.map Fl.row).flatten a->a=(b.map rF).flatten
 |[],a,h=>h.inv_nil|⟨⟨p,m,k,i⟩,⟨v,u,o,n⟩,w⟩::r,a,h=>by
  obtain⟨x,a,rfl,c,h⟩:=RelL.inv_cons (a:=.str p) h;obtain⟨y,a,rfl,d,h⟩:=RelL.inv_cons (a:=.str m) h;obtain⟨z,a,rfl,e,h⟩:=RelL.inv_cons (a:=.n k) h;obtain⟨A,a,rfl,h4,h⟩:=RelL.inv_cons (a:=.n i) h;obtain⟨B,a,rfl,h5,h⟩:=RelL.inv_cons (a:=.str v) h;obtain⟨D,a,rfl,f,h⟩:=RelL.inv_cons (a:=.str u) h;obtain⟨E,a,rfl,g,h⟩:=RelL.inv_cons (a:=.n o) h;obtain⟨F,a,rfl,j,h⟩:=RelL.inv_cons (a:=.n n) h;obtain⟨G,a,rfl,l,h⟩:=RelL.inv_cons (a:=.n w) h;rw[eD c,eD d,dK e,dK h4,eD h5,eD f,dK g,dK j,dK l,zU3 r h];rfl
theorem xf2(b:List Fl):∀u∈(b.map rF).flatten,u.oneCell'=true:=fun u a=>by
 obtain⟨l,c,a⟩:=List.mem_flatten.1 a;obtain⟨x,_,rfl⟩:=jE.1 c;simp[rF]at a;rcases a with rfl|rfl|rfl|rfl|rfl|rfl|rfl|rfl|rfl<;>rfl
theorem yS3{B:Base}{C:Cx}{h:aA}{w:World}(n:Inv B C h w){l i:Nat}{S:List Fl}[Inhabited (pE S)]{L:List (pE S)}{a:List Fl}(d:L.map (·.1)=a){r:RowAt}{u:Bool}(o:h[l]?=some (.arr 9 i (a.map Fl.row) u))(f:C.ar l i=some (some r)):Go.Sort.HoldsK iM 9 w r.block 0 L.toArray/\r.block<w.heap.size:=by
 have v:L.length=a.length:=by rw[<-d];simp
 rcases n.ok l _ o with⟨k1,_⟩|⟨y,k,k1,k2,k3,k4,k5,k6,k7,k8,x,k9,k10,k11,k12⟩;·rw[f]at k1;cases k1
 rw[f]at k1;injection k1 with k1;injection k1 with k1;subst k1;refine⟨fun j c=>?_,fM k6⟩;have e:=zU3 a k8;rw[<-zN4 d,<-zx5]at e;have g:j<(Go.Sort.flatK iM 9 L.toArray).toList.length:=by simpa using c
 have m:j<r.cap*r.size:=by rw[k11];simp at c k3;omega
 refine⟨?_,by rw[eT];exact RowAt.thaw k6 m⟩;rw[eT,cell_of_heap k6,<-uJ];have b:(k.toList.take ((a.map Fl.row).length*r.size))[j]?=some ((Go.Sort.flatK iM 9 L.toArray).toList[j]'g):=by rw[e];exact gI g
 rw[fS]at b;split at b;·rw[b,kO _ j c];simp
 ·cases b
theorem yo3:∀w,(isAgg 226).run Tryz.prog w=.ok true w:=qI (by kernel_rfl)
theorem xs4:∀w,(Go.sizeOf 226).run Tryz.prog w=.ok 9 w:=jC (by kernel_rfl)
theorem zN5:Tryz.prog.underlying 337=some (.map 116 3):=by kernel_rfl
theorem yg5:sB Tryz.prog 3=some (.n 0):=by kernel_rfl
theorem yc4{e:Type}[Inhabited e]{c:e->List Value}{k:Nat}{w:World}{a m:Nat}{b:Array e}{d:Array Obj}{j:Nat}(g:j<w.heap.size)(i:a≠j):(Go.Proofs.sortWorldK c k w a 0 m b d).heap[j]?=w.heap[j]?:=by
 have f:(Go.Proofs.sortWorldK c k w a 0 m b d).heap=(Go.Sort.putRow id w a 0 (Go.Sort.flatK c k b)).heap++d:=rfl;rw[f,II (by simpa using g),zG1,if_neg i]
theorem xu4{b:List (AV×AV)}{S:List Fl}[Inhabited (pE S)](f:mW (cfE b) S=true){L:List (pE S)}{d:List Fl}(g:L.map (·.1)=d)(r:S.Perm d):((pdq (Go.Proofs.ltOf (wS b S)) L.toArray 0 L.toArray.size (Lib.bitLen L.toArray.size) true true).toList).map (·.1)=S:=by
 obtain⟨c,e⟩:=pdq_sorts (Go.Proofs.ltOf (wS b S)) (yc5 f) L.toArray 0 L.toArray.size (Lib.bitLen L.toArray.size) true true (lD _) (bP _) (Or.inl rfl);generalize pdq (Go.Proofs.ltOf (wS b S)) L.toArray 0 L.toArray.size (Lib.bitLen L.toArray.size) true true=a at c e⊢;have u:a.toList.Perm L:=by
  have:=c.2.2;rw[show a.extract 0 L.toArray.size=a by rw[<-c.1];exact Array.extract_size]at this;simpa using this
 refine xu5 f (((u.map (·.1)).trans (by rw[g])).trans r.symm) ?_;rw[List.pairwise_map,List.pairwise_iff_getElem];intro i j k n m;have l:i<a.size:=by simpa using k
 have o:j<a.size:=by simpa using n
 have v:a.size=L.toArray.size:=c.1;have:=e i j (lD _) m (by omega);rw[kO a j o,kO a i l]at this;exact of_decide_eq_false this
theorem xt4(gv:Gv):gG Tryz.prog gv 208 CR:=by
 intro j2 C h w j3 r h' j1 o2 o F a;unfold CR at a;split at a
 ·rename_i b2 p2 o3 n1 q;split at a
  ·rename_i E;subst E;unfold XW at a;split at a
   ·rename_i p3 p1 H;split at a
    ·rename_i n j hd d3;split at a
     ·rename_i D;obtain⟨rfl,hn,h0,h3,f2,a3⟩:=D;simp only[aE,aR]at a;obtain⟨rfl,rfl⟩:=a;obtain rfl:=zw9 hd;obtain⟨b3,tg,A⟩:=zw8 d3;obtain⟨v,us,e1,I,F⟩:=F.inv_cons;obtain⟨v2,us,rfl,g2,F⟩:=F.inv_cons;have:=F.inv_nil;subst this;have g3:j1=#[v,v2]:=by apply kK;simpa using e1
      subst g3;have G:(lI j n).Perm n:=ya6 n;have a2:∀f∈lI j n,oR j f:=fun f b=>zP5 (fK.1 f2 f (G.mem_iff.1 b));generalize n3:lI j n=S at*;obtain⟨L,O⟩:=zK9 (S:=S) (fs:=n) fun f b=>G.mem_iff.2 b;have d2:L.length=n.length:=by rw[<-O];simp
      have n2:0<L.length:=by omega
      haveI:Inhabited (pE S):=⟨L[0]⟩;cases I with
      |ownnil _ _ B=>omega|own _ _ _ r B o1=>cases g2 with|fn _ _ W hs e2=>
       have i2:∃V,W=#[V]/\Rel C (.ptr q 0) V:=by
        have z:W.size=1:=by simpa using hs.symm
        refine⟨W[0],?_,e2 0 _ _ rfl (by simp[z])⟩;apply Array.ext<;>simp[z];intro i o;have:i=0:=by omega
        subst this;rfl
       obtain⟨V,rfl,g1⟩:=i2;cases g1 with|ptr _ _ l Y=>
        obtain⟨l2,d1,ce,k1,k2,k3,k4,k5,k6⟩:=o.ok q _ A.hq;rw[Y]at k1;injection k1 with k1;subst k1;obtain⟨vm,us,f1,i1,f3⟩:=RelL.inv_cons k5;have:=f3.inv_nil;subst this;cases i1 with|map _ d X=>
         obtain⟨l1,U,K,J,m2,T,m4,m5,m6,m7⟩:=o.ok b3 _ A.hm;rw[X]at J;injection J with J;subst J;have nq:r.block≠l:=fun e=>A.nq (o.inj q b2 _ _ l A.hq H Y (by simp[aU,B,e]));have nm:r.block≠d:=fun e=>A.nm (o.inj b3 b2 _ _ d A.hm H X (by simp[aU,B,e]));obtain⟨q1,q2⟩:=yS3 o O H B;have e3:Go.Proofs.CmpLays Tryz.prog 209 #[.pointer (some ⟨l,0,none⟩)] iM 9 (wS j S) r.block 0 L.toArray.size w:=fun c g m _ x y=>by
          have s1:l<(Go.Proofs.sortWorldK iM 9 w r.block 0 c m g).heap.size:=sP (fM k3) (Go.Proofs.size_sortWorldK_c iM 9 w r.block 0 c m g);have s2:d<(Go.Proofs.sortWorldK iM 9 w r.block 0 c m g).heap.size:=sP (fM T) (Go.Proofs.size_sortWorldK_c iM 9 w r.block 0 c m g);have s3:(Go.Proofs.sortWorldK iM 9 w r.block 0 c m g).heap[l]?=some (.cells d1 ce (0,0)):=by rw[yc4 (fM k3) nq];exact k3
          have s4:(Go.Proofs.sortWorldK iM 9 w r.block 0 c m g).heap[d]?=some (.map U K):=by rw[yc4 (fM T) nm];exact T
          have s5:(Go.Proofs.sortWorldK iM 9 w r.block 0 c m g).cell? ⟨l,0,none⟩=some (.map (some d)):=by rw[cell_of_heap s3,<-uJ,f1];rfl
          have a1:∀f:Fl,oR j f->∀u:World,u.heap[d]?=some (.map U K)->(Instr.lookup 337 (.map (some d)) (.agg (EA f.to_).toArray) false).run Tryz.prog u=.ok (.int .i64 (plN j f.to_)) u:=fun f b u hw=>by
           unfold oR plc at b;split at b
           ·rename_i E;obtain⟨i3,Q,P⟩:=zL4 (C:=Cx.pure C.im) zN5 zY7 zY5 yg5 m4 (fun i k v c z N=>m5 i k v c z N) (zU7 f.to_) rfl E;rw[P d u hw];injection b with b;rw[<-b,dK Q]
           ·rename_i nn E;obtain⟨i3,Q,P⟩:=zL4 (C:=Cx.pure C.im) zN5 zY7 zY5 yg5 m4 (fun i k v c z N=>m5 i k v c z N) (zU7 f.to_) rfl E;rw[P d u hw];injection b with b;rw[<-b,dK Q]
           ·cases b
          exact yx1 x.1 y.1 _ _ _ l d U K s1 s2 s5 s4 (a1 x.1 (a2 x.1 x.2)) (a1 y.1 (a2 y.1 y.2))
         have D:=AnyQ.slices_SortFunc_eq Tryz.sortFlow 9 yo3 xs4 iM DZ (fun x v I=>by simp[iM,rF]at I;rcases I with rfl|rfl|rfl|rfl|rfl|rfl|rfl|rfl|rfl<;>rfl) (wS j S) (yc5 a3) 209 #[.pointer (some ⟨l,0,none⟩)] r.block 0 r.cap L.toArray w (Go.Proofs.enters_of Tryz.func209 (by kernel_rfl) rfl) e3 q1 q2 (by simp;omega);have b1:=xu4 a3 O G;generalize pdq (Go.Proofs.ltOf (wS j S)) L.toArray 0 L.toArray.size (Lib.bitLen L.toArray.size) true true=M at D b1;rw[List.size_toArray,d2,<-hn]at D;refine D.mono fun e u hk=>?_;obtain⟨rfl,qn,g,rfl⟩:=hk;have Z:(Go.Sort.flatK iM 9 M).toList=(S.map rF).flatten:=by rw[<-zN4 b1,<-zx5]
         obtain⟨t1,t2⟩:=zg3 o (rows':=S.map Fl.row) (F:=Go.Sort.flatK iM 9 M) H B (by have:=G.length_eq;simpa[eP]using this) (fun x hx=>by obtain⟨y,_,rfl⟩:=jE.1 hx;rfl) (by rw[Z];exact zU2 _) (by rw[Z];exact xf2 _) (w':=Go.Proofs.sortWorldK iM 9 w r.block 0 qn M g) rfl rfl rfl (os:=g) rfl;exact⟨_,C,rfl,.refl C,t1,.tup [] #[] rfl (fun i l3 v h=>by simp at h),t2⟩
     ·cases a
    ·cases a
   ·cases a
  ·cases a
 ·cases a
end
def AtTr(data q p:Bs)(l:Nat)(h:aA):Prop:=∃(a:Nat)(c0 c1 c2 c3:AV)(g i:Nat)(b c d:AV)(rd:List (List AV))(e f:List (AV×AV)),h[l]?=some (.cells [c0,c1,c2,c3,.map g,.map i,.own a 0 1])/\h[a]?=some (.arr 6 0 [[b,.n 8,.sl ([.str q]::rd),c,d,.str p]] true)/\([b,c,d].all bE)=true/\bA 0 [b,c,d]=true/\h[g]?=some (.map e)/\h[i]?=some (.map f)/\iP .s (.str p) e=some (some (.str data))/\iP .s (.str p) f=some (some (.n 1))
theorem AtTr.app{data q p:Bs}{l:Nat}{h:aA}(H:AtTr data q p l h)(X:aA):AtTr data q p l (h++X):=by
 obtain⟨a,c0,c1,c2,c3,k,m,n,o,r,rd,b,c,d,e,f,h4,h5,g,i,j⟩:=H;exact⟨a,c0,c1,c2,c3,k,m,n,o,r,rd,b,c,jY d,jY e,f,h4,jY h5,jY g,i,j⟩
theorem zt4:∀a:List Seg,zU (a.map Seg.row)=some a
 |[]=>rfl|s::a=>by simp[zU,zt4 a]
section
variable{data q p:Bs}{FD:List AV->Option AV}{c8:List AV}{er:AV}
theorem zY6(f:FD [.str data]=some (.tup [.agg c8,er]))(g:c8.length=8)(i:c8.all bE=true)(j:Lib.countByte data 10<=1000){l:Nat}{h:aA}(H:AtTr data q p l h):oC FD [.ptr l 0,.str p] h=some (.sl ((dN p (Lib.countByte data 10+1)).map Seg.row),h):=by
 obtain⟨a,c0,c1,c2,c3,r,u,v,w,x,rd,k,m,b,n,o,h4,h5,c,d,e⟩:=H;simp only[oC,b,h5,c,d,e,f];rw[if_pos ⟨g,i,j⟩,xr5]
open Classical in noncomputable def CM(data q p:Bs):List AV->aA->Option (AV×aA)
 |[.ptr l 0,.n 0],h=>if AtTr data q p l h then some (.sl (eP ((dN p (Lib.countByte data 10+1)).map (cpF q))),h)else none|_,_=>none
theorem yK4(G:Gam)(z:FD [.str data]=some (.tup [.agg c8,er]))(A:c8.length=8)(B:c8.all bE=true)(F:Lib.countByte data 10<=1000)(C:G Fn.bl=some (.gen (CF (oC FD))))(K:G Fn.a8=some (.gen (oC FD)))(L:G Fn.cr=some (.gen CR)):∀j h r m,bA h.length j=true->bG h.length h=true->CM data q p j h=some (r,m)->wpM G Mc.am (jM h.length Rs.am r m) [] (aC Ks.am j) h:=by
 intro j h r m _ D d;unfold CM at d;split at d
 ·rename_i l Z;split at d
  ·rename_i H;injection d with d;injection d with M N;subst M N;have v:=H;obtain⟨a,c0,c1,c2,c3,md,mk,S,U,V,rd,W,Y,x,y,f,h4,h5,h6,h7,h8⟩:=H;generalize n:dN p (Lib.countByte data 10+1)=b;have k:b.Nodup:=by rw[<-n];exact zY8 _ _
   have a1:b.length=Lib.countByte data 10+2:=by rw[<-n];simp[dN]
   have o:∀X,oC FD [.ptr l 0,.str p] (h++X)=some (.sl (b.map Seg.row),h++X):=fun X=>by rw[<-n];exact zY6 z A B F (v.app X)
   generalize i:[S,.n 8,.sl ([.str q]::rd),U,V,.str p]=c at*;simp only[sL,List.all_nil,Bool.and_true,bR]at f;simp only[bA,bR]at h4;have u:=zs3 (q:=q) (ss:=b) (gs:=[]) (by simpa using yA0 k);simp only[jU]at u;refine yJ7 (FS:=oC FD) (FC:=CF (oC FD)) C K (esC:=esF (b.map (cpF q))) (ss:=b) i.symm ?_ x y ?_ ?_ k (by unfold big;omega) D ?_ (zs8 _) (by simp;omega) rfl L ?_;·rw[<-i];simp only[sL,List.all_nil,f.1,f.2.1,f.2.2,Bool.and_true,gH];rfl
   ·rw[<-i];simp only[CF];have g:=o [Blk.arr 9 0 [] true,.cells c,.map [],.cells [.ptr l 0,.map (h.length+2)],.cells [.ptr l 0,.map (h.length+2)],.cells c];have e:(h++[Blk.arr 9 0 [] true,.cells c,.map [],.cells [.ptr l 0,.map (h.length+2)]])++[Blk.cells [.ptr l 0,.map (h.length+2)],.cells c]=h++[Blk.arr 9 0 [] true,.cells c,.map [],.cells [.ptr l 0,.map (h.length+2)],.cells [.ptr l 0,.map (h.length+2)],.cells c]:=by simp
    rw[i,e,g];have w:(h++[Blk.arr 9 0 [] true,.cells c,.map [],.cells [.ptr l 0,.map (h.length+2)]])[h.length+2]?=some (.map []):=by simp
    simp only[w,zt4];rw[if_pos ⟨trivial,by unfold big;omega,by simp[f]⟩];have:uT q b []=some (esF (b.map (cpF q))):=u;rw[this];rfl
   ·unfold flA;exact o _
   ·rw[<-i];have O:=AM (lD h.length) h4.1;have P:=AM (lD h.length) h4.2.1;have Q:=AM (lD h.length) h4.2.2.1;simp[bA,low,O,P,Q]
   ·intro T _ ts I;have J:(flA h l c (esF (b.map (cpF q))) (esP 0 b)++T)[h.length+5]?=some (.cells [.map (h.length+4)]):=by unfold flA;simp
    have E:(flA h l c (esF (b.map (cpF q))) (esP 0 b)++T)[h.length+4]?=some (.map (esP 0 b)):=by unfold flA;simp
    exact xt5 J E (by simp;omega) (by simp;omega) (xe0 k) (zQ8 k) I
  ·cases d
 ·cases d
end
def Ks.ad:List Nat:=[0,1,3,4,6,7]
def Rs.ad:List RV:=[.cell 4 3 true]
def Dl.ad:List (List Nat):=[]
def Mc.ad:MC:=.s [Kx 3 1,Ka 4 (.alloc [.nils,.nils,.nils])] (.seq (.d [zm 10 0,Zk 11 10,zf 12 5 11,zl 13 12,zf 14 0 3,zl 15 14,iz 16 (.look .s true (.n 0)) [.t 13,.t 15],zm 9 16,ze 17 0 9,ze 18 1 9,zm 5 17,zM 6 18] (.s [zm 19 6,zm 20 19,Gf 20 false 21 2 3,Gl 20 false 22 21,Gc 20 false 23 .neq 22 2,Zp 24 20 23] (.ite (.t 24) (.d [zm 25 0,Zk 26 25,zf 27 4 26,zl 28 27,zL 29 4 3,iz 30 (.lookA [.s,.s,.i,.i] false (.agg [.nils,.nils,.nils])) [.t 28,.t 29],zs 3 4 30] .ret) .skip))) (.s [zf 32 0 3,zl 33 32,zf 34 3 3,zl 35 34,iz 36 (.bld [.str [],.n 0] [(0,1),(1,1)]) [.t 33,.t 35],Zb 37 2 [.t 36],zg 38 Fn.a2 [.t 37],zm 31 38,ze 39 0 31,ze 40 1 31,zM 7 39,zm 8 40] (.r [zm 41 7,iz 42 (.bld [.nils,.nils,.nils] [(0,1)]) [.t 41],zs 3 4 42])))
def Ks.a3:List Nat:=[0,2,3,4,5,6,7,9,10,33,34,54,55,56]
def Rs.a3:List RV:=[.tmp 2,.cell 3 5 true]
def Dl.a3:List (List Nat):=[[7,9,10,54,55,56],[9,10]]
def Ow.influence_traced:List Nat:=[1000086,1000127,1000128]
def Mc.a3_L1:MC:=.s [zb 57 .lss 56 55] (.seq (.ite (.t 57) .skip (.exit 2)) (.b 3 (.s [zi 58 9 54 56,zL 59 9 58,Ka 9 (.alloc [.str [],.str [],.n 0,.n 0,.str [],.str [],.n 0,.n 0,.n 0]),zs 9 9 59] (.seq (.both (.rge [(false,[],zm 61 6),(false,[],zf 62 4 9),(false,[],zL 63 4 62),(false,[],iz 64 (.callg Fn.ad) [.t 61,.t 63]),(true,[6],zf 65 8 9),(true,[5],zl 66 65),(false,[4],zg 67 Fn.bs [.t 64,.t 66]),(false,[],zm 60 67),(false,[],ze 68 0 60),(false,[],ze 69 1 60),(false,[],Ka 10 (.alloc [.nils,.nils,.nils])),(false,[],zs 3 10 68),(false,[],zm 11 69)]) (.rge [(false,[],zm 61 6),(false,[4],zf 62 4 9),(false,[3],zL 63 4 62),(false,[2,3],zf 65 8 9),(false,[1,2],zl 66 65),(false,[],Ka 10 (.alloc [.nils,.nils,.nils])),(false,[],iz 64 (.callg Fn.ad) [.t 61,.t 63]),(false,[],zg 67 Fn.bs [.t 64,.t 66]),(false,[],zm 60 67),(false,[],ze 68 0 60),(false,[],ze 69 1 60),(false,[],zs 3 10 68),(false,[],zm 11 69)])) (.rgd [zm 71 6,Zk 72 71,zf 73 4 72,zl 74 73,zf 75 0 9,zL 76 4 75,zm 77 6,Zk 78 77,zf 79 4 78,zl 80 79,zf 81 0 9,zL 82 4 81,iz 83 (.lookA [.s,.s,.i,.i] false (.agg [.nils,.nils,.nils])) [.t 80,.t 82],zL 84 3 10,zg 85 Fn.b3 [.t 83,.t 84],zm 70 85,ze 86 0 70,ze 87 1 70,nz (.mapupA [.s,.s,.i,.i]) [.t 74,.t 76,.t 86]]))) (.reg [zc 88 .add 56 1,zM 56 88])))
def Mc.a3_L0:MC:=.s [zb 35 .lss 34 33] (.seq (.ite (.t 35) .skip (.exit 0)) (.b 1 (.s [zm 36 34,zM 7 36] (.d [zm 37 6,Zk 38 37,zf 39 5 38,zl 40 39,zm 41 6,Zk 42 41,zf 43 1 42,zf 44 2 43,zl 45 44,zm 46 7,zi 47 6 45 46,zf 48 4 47,zf 49 0 48,zl 50 49,zm 51 7,nz (.mapup .s) [.t 40,.t 50,.t 51]] (.s [zm 52 4,zm 53 7,kz 54 (.callg Fn.am) [.t 52,.t 53],Kn 55 1 54,Kc 56 0] (.blk 2 (.loop [9,10] Mc.a3_L1))))) (.reg [zc 89 .add 34 1,zM 34 89])))
def Mc.a3:MC:=.s [Km 2 (.c .nilp),Ka 3 (.alloc [.n 0,.n 0,.n 0,.str [],.n 0])] (.s [zm 13 0,zg 14 Fn.dg [.t 13],zm 12 14,ze 15 0 12,ze 16 1 12,Ka 5 (.alloc [.n 0,.n 0,.n 0,.str [],.n 0]),zM 4 15,zs 5 5 16] (.w [zf 17 0 5,zl 18 17,zc 19 .neq 18 0] 19 (.d [zL 20 5 5,Km 2 (.c .nilp),zs 5 3 20] .ret) (.s [zm 21 4,zm 22 4,iz 23 (.callg Fn.dk) [.t 22],iz 24 .mkmap [],iz 25 .mkmap [],iz 26 (.bld [.nilp,.nils,.nils,.nils,.nilm,.nilm] [(0,1),(1,3),(4,1),(5,1)]) [.t 21,.t 23,.t 24,.t 25],iz 27 .box [.t 26],zM 6 27] (.seq (.s [zm 28 6,Zk 29 28,zf 30 1 29,zf 31 2 30,zl 32 31,Kn 33 1 32,Kc 34 0] (.blk 0 (.loop [7,9,10,54,55,56] Mc.a3_L0))) (.r [zm 90 6,Zd 91 [.n 0,.n 0,.n 0,.str [],.n 0],zM 2 90,zs 5 3 91])))))
def Ks.bu:List Nat:=[0,1,4,5,6,7,8,9,12,13,14,62,63,64]
def Rs.bu:List RV:=[.cell 4 6 true]
def Dl.bu:List (List Nat):=[[12,13,14]]
def Ow.__influence_trace__influence:List Nat:=[1000083,1000084,1000086,1000130]
def Mc.bu_L0:MC:=.s [zb 65 .lss 64 63] (.seq (.ite (.t 65) .skip (.exit 0)) (.b 1 (.s [zi 66 4 62 64,zL 67 4 66,Ka 12 (.alloc [.str [],.str [],.n 0,.n 0]),zs 4 12 67] (.s [zm 68 0,zL 69 4 12,iz 70 (.callg Fn.ad) [.t 68,.t 69],Ka 13 (.alloc [.nils,.nils,.nils]),zs 3 13 70] (.s [zf 72 1 5,zL 73 3 72,zL 74 3 13,zg 75 Fn.b3 [.t 73,.t 74],zm 71 75,ze 76 0 71,ze 77 1 71,zf 78 1 5,zs 3 78 76] (.blk 2 (.s [zf 80 2 12,zl 81 80,zc 82 .eql 81 1,zm 79 82] (.ite (.t 79) (.reg [zL 83 3 13,zs 3 6 83]) (.s [zf 85 2 12,zl 86 85,zc 87 .eql 86 3,zm 88 87,Gf 88 true 89 3 12,Gl 88 true 90 89,Gf 88 true 91 3 7,Gl 88 true 92 91,Gn 88 true 93 1 92,Gb 88 true 94 .lss 90 93,Zq 95 88 94,zm 84 95] (.ite (.t 84) (.s [zf 96 3 7,zl 97 96,zf 98 3 12,zl 99 98,zi 100 5 97 99,zL 101 5 100,Ka 14 (.alloc [.str [],.str [],.n 0,.n 0,.n 0]),zs 5 14 101] (.s [zf 102 5 5,zl 103 102,zf 104 0 14,zl 105 104,zf 106 1 14,zl 107 106,zL 108 3 13,zL 109 3 6,iz 110 (.bld [.str [],.str [],.nils,.nils,.nils,.nils,.nils,.nils] [(0,1),(1,1),(2,3),(5,3)]) [.t 105,.t 107,.t 108,.t 109],Zb 111 8 [.t 110],Zs 112 8 176 103 111,zf 113 5 5,zs 1 113 112] (.reg [zL 115 3 6,zL 116 3 13,zg 117 Fn.b3 [.t 115,.t 116],zm 114 117,ze 118 0 114,ze 119 1 114,zs 3 6 118]))) .skip)))))))) (.reg [zc 120 .add 64 1,zM 64 120])))
def Mc.bu:MC:=.s [Ka 4 (.alloc [.str [],.nils,.nils,.nils,.nils,.nils])] (.seq (.both (.rge [(false,[],zm 15 1),(false,[],zm 16 0),(false,[],Zk 17 16),(false,[],zf 18 0 17),(false,[],zl 19 18),(false,[],zm 20 0),(false,[],Zk 21 20),(false,[],zf 22 5 21),(false,[],zl 23 22),(false,[],zm 24 1),(false,[],iz 25 (.look .s false (.n 0)) [.t 23,.t 24]),(false,[],iz 26 (.callg Fn.a9) [.t 19,.t 25]),(false,[1],iz 27 (.bld [.str [],.nils,.nils,.nils,.nils,.nils] [(0,1),(4,1)]) [.t 15,.t 26]),(false,[],Ka 5 (.alloc [.str [],.nils,.nils,.nils,.nils,.nils])),(false,[],zs 6 5 27)]) (.rge [(false,[],zm 15 1),(false,[],zm 16 0),(false,[9],Zk 17 16),(false,[8],zf 18 0 17),(false,[7],zl 19 18),(false,[],zm 20 0),(false,[5],Zk 21 20),(false,[4],zf 22 5 21),(false,[3],zl 23 22),(false,[],zm 24 1),(false,[1],iz 25 (.look .s false (.n 0)) [.t 23,.t 24]),(false,[],Ka 5 (.alloc [.str [],.nils,.nils,.nils,.nils,.nils])),(false,[],iz 26 (.callg Fn.a9) [.t 19,.t 25]),(false,[],iz 27 (.bld [.str [],.nils,.nils,.nils,.nils,.nils] [(0,1),(4,1)]) [.t 15,.t 26]),(false,[],zs 6 5 27)])) (.s [Zd 28 [.nils,.nils,.nils],Zd 29 [.n 0,.n 0,.str [],.nils,.nils,.nils,.nils,.nils],Ka 6 (.alloc [.nils,.nils,.nils]),Ka 7 (.alloc [.n 0,.n 0,.str [],.nils,.nils,.nils,.nils,.nils]),zs 3 6 28,zs 8 7 29] (.seq (.s [zm 30 0,Zk 31 30,zf 32 0 31,zl 33 32,zm 34 1,iz 35 (.callg Fn.cg) [.t 33,.t 34],zM 8 35] (.s [zm 36 8,zc 37 .eql 36 4,zm 38 37,Gm 38 false 39 8,Gc 38 false 40 .eql 39 5,Zp 41 38 40] (.ite (.t 41) (.s [zm 43 0,Zk 44 43,zf 45 1 44,zf 46 0 45,zl 47 46,zm 48 1,zg 49 Fn.dm [.t 47,.t 48],zm 42 49,ze 50 0 42,ze 51 1 42,zM 9 50,zm 10 51] (.reg [zm 53 9,zg 54 Fn.bb [.t 53],zm 52 54,ze 55 0 52,ze 56 1 52,zs 8 7 55])) .skip))) (.seq (.s [zm 57 0,Zk 58 57,zf 59 0 58,zl 60 59,zm 61 1,kz 62 (.callg Fn.a8) [.t 60,.t 61],Kn 63 1 62,Kc 64 0] (.blk 0 (.loop [12,13,14] Mc.bu_L0))) (.r [zL 121 6 5,zs 6 4 121])))))
def uH:List AV->aA->Option (AV×aA)
 |[.ptr t 0,.agg sr],h=>match rE sr,h[t]? with
  |some s,some (.cellsT none [_,_,_,_,.map mo,.map mw])=>match h[mo]?,h[mw]? with
   |some (.map eo),some (.map ew)=>match iP .s (.str s.p) ew,iY sgK s.row eo with
    |some w,some (some (.agg [.sl a,.sl b,.sl c]))=>if w.isSome=true\/s.k≠2 then some (.agg [.sl a,.sl b,.sl c],h)else none|_,_=>none
   |_,_=>none
  |_,_=>none
 |_,_=>none
theorem xd2(G:Gam):∀l h r o,bA h.length l=true->bG h.length h=true->uH l h=some (r,o)->wpM G Mc.ad (jM h.length Rs.ad r o) [] (aC Ks.ad l) h:=by
 intro l h r o _ V e;unfold uH at e;split at e
 ·rename_i t sr h0;split at e
  ·rename_i s c0 c1 c2 c3 mo mw X J;split at e
   ·rename_i eo ew H I;split at e
    ·rename_i w a b c Z F;split at e
     ·rename_i S;obtain rfl:=wW X;injection e with e;injection e with q1 q2;subst q1 q2;have Y:t<h.length:=(aF.1 J).1;have W:mo<h.length:=(aF.1 H).1;have a1:mw<h.length:=(aF.1 I).1;have z:∀g,opV G g h .box (some [.agg s.row])=some (.ptr h.length 0,h++[.cells s.row]):=fun g=>jN (h:=h) (v:=.agg s.row) (by simp[AV.cells,Seg.row]);generalize j:h++[Blk.cells s.row]=f;generalize k:f++[Blk.cells [.nils,.nils,.nils]]=d;have l1:f.length=h.length+1:=by rw[<-j];simp
      have l2:d.length=h.length+2:=by rw[<-k];simp[l1]
      have y:∀i,i<h.length->d[i]?=h[i]?:=fun i v=>by rw[<-k,aX (by omega),<-j,aX v]
      have x:d[h.length]?=some (.cells s.row):=by rw[<-k,aX (by omega),<-j];simp
      have O:d[t]?=some (.cells [c0,c1,c2,c3,.map mo,.map mw]):=by rw[y t Y];exact J
      have M:∀g,opV G g d .nilck (some [.ptr t 0])=some (.ptr t 0,d):=fun g=>by rw[bW rfl];rfl
      have E:aB 1 false d (.ptr t 5)=some (.map mw):=by simp[aB,O,cut,aD]
      have D:aB 1 false d (.ptr t 4)=some (.map mo):=by simp[aB,O,cut,aD]
      have A:aB 1 false d (.ptr h.length 0)=some (.str s.p):=by simp[aB,x,cut,aD,Seg.row]
      have B:aB 1 false d (.ptr h.length 2)=some (.n s.k):=by simp[aB,x,cut,aD,Seg.row]
      have C:aB 4 true d (.ptr h.length 0)=some (.agg s.row):=by simp[aB,x,cut,aD,Seg.row]
      have L:∀g,opV G g d (.look .s true (.n 0)) (some [.map mw,.str s.p])=some (.tup [w.getD (.n 0),.bool w.isSome],d):=fun g=>by
       have:=y mw a1;rw[I]at this;rw[bW rfl];simp[bV,isKey,this,Z];cases w<;>rfl
      have K:∀g,opV G g d (.lookA [.s,.s,.i,.i] false (.agg [.nils,.nils,.nils])) (some [.map mo,.agg s.row])=some (.agg [.sl a,.sl b,.sl c],d):=fun g=>by
       have:=y mo W;rw[H]at this;have Q:s.row.length=[EK.s,.s,.i,.i].length:=rfl;simp only[sgK]at F;rw[bW rfl];simp only[bV,Q,aM,this,F];rfl
      have N:bB 3 d (.ptr f.length 0) (.agg [.sl a,.sl b,.sl c])=some (f++[.cells [.sl a,.sl b,.sl c]]):=by rw[<-k,aQ];simp[AV.cells,bE,bF]
      generalize hv:w.getD (.n 0)=b2 at*;generalize u:w.isSome=P at*;have fin:∀m n,aV m n 4=some (.ptr f.length 0)->jM h.length Rs.ad (.agg [.sl a,.sl b,.sl c]) h .ret m n (f++[.cells [.sl a,.sl b,.sl c]]):=fun m n T=>by
       have p3:(f++[Blk.cells [.sl a,.sl b,.sl c]])[f.length]?=some (.cells [.sl a,.sl b,.sl c]):=by simp
       have ld:aB 3 true (f++[Blk.cells [.sl a,.sl b,.sl c]]) (.ptr f.length 0)=some (.agg [.sl a,.sl b,.sl c]):=by simp[aB,cut,aD]
       refine⟨trivial,.agg [.sl a,.sl b,.sl c],(f++[.cells [.sl a,.sl b,.sl c]]),?_,rfl,bP _,⟨by simp;omega,fun i a3 u=>.inr ?_⟩,by simp[low,bA],V⟩;·simp[Rs.ad,cZ,T,ld,-aB]
       ·have v:i<h.length:=(aF.1 u).1;rw[aX (by omega),<-j,aX v];exact u
      rw[aT];cases P with
      |true=>
       simp[Mc.ad,aC,Ks.ad,z,j,k,M,E,D,A,C,L,K,N,-aB,-aQ];exact fin _ _ rfl|false=>
       have U:s.k≠2:=by simpa using S
       have a2:eqB s.k 2=false:=by simp[eqB,U]
       simp[a2,Mc.ad,aC,Ks.ad,z,j,k,M,E,D,A,B,C,L,K,N,-aB,-aQ];exact fin _ _ rfl
     ·cases e
    ·cases e
   ·cases e
  ·cases e
 ·cases e
def yV(LO:List AV->Option AV):List AV->aA->Option (AV×aA)
 |[.ptr t 0,.agg sr],h=>match rE sr,h[t]? with
  |some s,some (.cellsT none [_,_,_,_,.map _,.map mw])=>match h[mw]? with
   |some (.map ew)=>match iP .s (.str s.p) ew,LO [.sl [[.str s.p,.n s.i]]]with
    |some none,some (.tup [.sl a,_])=>if s.k=2 then some (.agg [.sl a,.sl [],.sl []],h)else none|_,_=>none
   |_=>none
  |_,_=>none
 |_,_=>none
theorem xd1(G:Gam)(LO:List AV->Option AV)(L:G Fn.a2=some (.pure LO)):∀j h r n,bA h.length j=true->bG h.length h=true->yV LO j h=some (r,n)->wpM G Mc.ad (jM h.length Rs.ad r n) [] (aC Ks.ad j) h:=by
 intro j h r n _ P d;unfold yV at d;split at d
 ·rename_i t sr h0;split at d
  ·rename_i s c0 c1 c2 c3 mo mw Q w;split at d
   ·rename_i ew v;split at d
    ·rename_i a er T M;split at d
     ·rename_i N;obtain rfl:=wW Q;injection d with d;injection d with Z q2;subst Z q2;have S:t<h.length:=(aF.1 w).1;have U:mw<h.length:=(aF.1 v).1;have z:∀c,opV G c h .box (some [.agg s.row])=some (.ptr h.length 0,h++[.cells s.row]):=fun c=>jN (h:=h) (v:=.agg s.row) (by simp[AV.cells,Seg.row]);generalize f:h++[Blk.cells s.row]=e;generalize g:e++[Blk.cells [.nils,.nils,.nils]]=b;have V:e.length=h.length+1:=by rw[<-f];simp
      have l2:b.length=h.length+2:=by rw[<-g];simp[V]
      have y:∀i,i<h.length->b[i]?=h[i]?:=fun i o=>by rw[<-g,aX (by omega),<-f,aX o]
      have k:b[h.length]?=some (.cells s.row):=by rw[<-g,aX (by omega),<-f];simp
      have x:b[t]?=some (.cells [c0,c1,c2,c3,.map mo,.map mw]):=by rw[y t S];exact w
      have Y:∀c,opV G c b .nilck (some [.ptr t 0])=some (.ptr t 0,b):=fun c=>by rw[bW rfl];rfl
      have K:aB 1 false b (.ptr t 5)=some (.map mw):=by simp[aB,x,cut,aD]
      have J:aB 1 false b (.ptr t 4)=some (.map mo):=by simp[aB,x,cut,aD]
      have E:aB 1 false b (.ptr h.length 0)=some (.str s.p):=by simp[aB,k,cut,aD,Seg.row]
      have F:aB 1 false b (.ptr h.length 2)=some (.n s.k):=by simp[aB,k,cut,aD,Seg.row]
      have I:aB 4 true b (.ptr h.length 0)=some (.agg s.row):=by simp[aB,k,cut,aD,Seg.row]
      have X:∀c,opV G c b (.look .s true (.n 0)) (some [.map mw,.str s.p])=some (.tup [.n 0,.F],b):=fun c=>by
       have:=y mw U;rw[v]at this;rw[bW rfl];simp[bV,isKey,this,T]
      have A:∀c,opV G c b (.bld [.str [],.n 0] [(0,1),(1,1)]) (some [.str s.p,.n s.i])=some (.agg [.str s.p,.n s.i],b):=fun c=>by rw[bW rfl];rfl
      have H:aB 1 false b (.ptr h.length 3)=some (.n s.i):=by simp[aB,k,cut,aD,Seg.row]
      have C:∀c,opV G c b (.bsl false 2) (some [.agg [.str s.p,.n s.i]])=some (.tsl [[.str s.p,.n s.i]],b):=fun c=>by
       simp;exact⟨rfl,rfl⟩
      have D:∀c,opV G c b (.call Fn.a2) (some [.tsl [[.str s.p,.n s.i]]])=some (.tup [.sl a,er],b):=fun c=>cU L rfl M (.inr rfl);have B:∀c,opV G c b (.bld [.nils,.nils,.nils] [(0,1)]) (some [.sl a])=some (.agg [.sl a,.nils,.nils],b):=fun c=>by rw[bW rfl];rfl
      have s3:bB 3 b (.ptr e.length 0) (.agg [.sl a,.nils,.nils])=some (e++[.cells [.sl a,.nils,.nils]]):=by rw[<-g,aQ];simp[AV.cells,bE,bF]
      have fin:∀l m,aV l m 4=some (.ptr e.length 0)->jM h.length Rs.ad (.agg [.sl a,.sl [],.sl []]) h .ret l m (e++[.cells [.sl a,.nils,.nils]]):=fun l m O=>by
       have p3:(e++[Blk.cells [.sl a,.nils,.nils]])[e.length]?=some (.cells [.sl a,.nils,.nils]):=by simp
       have W:aB 3 true (e++[Blk.cells [.sl a,.nils,.nils]]) (.ptr e.length 0)=some (.agg [.sl a,.nils,.nils]):=by simp[aB,cut,aD]
       refine⟨trivial,.agg [.sl a,.nils,.nils],(e++[.cells [.sl a,.nils,.nils]]),?_,rfl,bP _,⟨by simp;omega,fun i a2 u=>.inr ?_⟩,by simp[low,bA],P⟩;·simp[Rs.ad,cZ,O,W,-aB]
       ·have o:i<h.length:=(aF.1 u).1;rw[aX (by omega),<-f,aX o];exact u
      rw[aT];have a1:eqB s.k 2=true:=by simp[eqB,N]
      simp[a1,Mc.ad,aC,Ks.ad,z,f,g,Y,K,E,F,H,X,A,C,D,B,s3,-aB,-aQ,-gF];exact fin _ _ rfl
     ·cases d
    ·cases d
   ·cases d
  ·cases d
 ·cases d
def HN:List AV->aA->Option (AV×aA)
 |[.ptr t 0,.agg sr],h=>match rE sr,h[t]? with
  |some s,some (.cellsT none [_,_,_,_,.map mo,.map mw])=>match h[mo]?,h[mw]? with
   |some (.map eo),some (.map ew)=>match iP .s (.str s.p) ew,iY sgK s.row eo with
    |some w,some none=>if w.isSome=true\/s.k≠2 then some (.agg [.sl [],.sl [],.sl []],h)else none|_,_=>none
   |_,_=>none
  |_,_=>none
 |_,_=>none
theorem xd3(G:Gam):∀g h r l,bA h.length g=true->bG h.length h=true->HN g h=some (r,l)->wpM G Mc.ad (jM h.length Rs.ad r l) [] (aC Ks.ad g) h:=by
 intro g h r l _ S b;unfold HN at b;split at b
 ·rename_i t sr h0;split at b
  ·rename_i s c0 c1 c2 c3 mo mw U F;split at b
   ·rename_i eo ew D E;split at b
    ·rename_i w W C;split at b
     ·rename_i O;obtain rfl:=wW U;injection b with b;injection b with q1 q2;subst q1 q2;have V:t<h.length:=(aF.1 F).1;have T:mo<h.length:=(aF.1 D).1;have X:mw<h.length:=(aF.1 E).1;have v:∀d,opV G d h .box (some [.agg s.row])=some (.ptr h.length 0,h++[.cells s.row]):=fun d=>jN (h:=h) (v:=.agg s.row) (by simp[AV.cells,Seg.row]);generalize f:h++[Blk.cells s.row]=c;generalize e:c++[Blk.cells [.nils,.nils,.nils]]=a;have Y:c.length=h.length+1:=by rw[<-f];simp
      have l2:a.length=h.length+2:=by rw[<-e];simp[Y]
      have u:∀i,i<h.length->a[i]?=h[i]?:=fun i n=>by rw[<-e,aX (by omega),<-f,aX n]
      have o:a[h.length]?=some (.cells s.row):=by rw[<-e,aX (by omega),<-f];simp
      have L:a[t]?=some (.cells [c0,c1,c2,c3,.map mo,.map mw]):=by rw[u t V];exact F
      have J:∀d,opV G d a .nilck (some [.ptr t 0])=some (.ptr t 0,a):=fun d=>by rw[bW rfl];rfl
      have B:aB 1 false a (.ptr t 5)=some (.map mw):=by simp[aB,L,cut,aD]
      have A:aB 1 false a (.ptr t 4)=some (.map mo):=by simp[aB,L,cut,aD]
      have x:aB 1 false a (.ptr h.length 0)=some (.str s.p):=by simp[aB,o,cut,aD,Seg.row]
      have y:aB 1 false a (.ptr h.length 2)=some (.n s.k):=by simp[aB,o,cut,aD,Seg.row]
      have z:aB 4 true a (.ptr h.length 0)=some (.agg s.row):=by simp[aB,o,cut,aD,Seg.row]
      have I:∀d,opV G d a (.look .s true (.n 0)) (some [.map mw,.str s.p])=some (.tup [w.getD (.n 0),.bool w.isSome],a):=fun d=>by
       have:=u mw X;rw[E]at this;rw[bW rfl];simp[bV,isKey,this,W];cases w<;>rfl
      have H:∀d,opV G d a (.lookA [.s,.s,.i,.i] false (.agg [.nils,.nils,.nils])) (some [.map mo,.agg s.row])=some (.agg [.nils,.nils,.nils],a):=fun d=>by
       have:=u mo T;rw[D]at this;have N:s.row.length=[EK.s,.s,.i,.i].length:=rfl;simp only[sgK]at C;rw[bW rfl];simp only[bV,N,aM,this,C];rfl
      have K:bB 3 a (.ptr c.length 0) (.agg [.nils,.nils,.nils])=some (c++[.cells [.nils,.nils,.nils]]):=by rw[<-e,aQ];simp[AV.cells,bE,bF]
      generalize hv:w.getD (.n 0)=a3 at*;generalize m:w.isSome=M at*;have fin:∀j k,aV j k 4=some (.ptr c.length 0)->jM h.length Rs.ad (.agg [.sl [],.sl [],.sl []]) h .ret j k (c++[.cells [.nils,.nils,.nils]]):=fun j k P=>by
       have p3:(c++[Blk.cells [.nils,.nils,.nils]])[c.length]?=some (.cells [.nils,.nils,.nils]):=by simp
       have Z:aB 3 true (c++[Blk.cells [.nils,.nils,.nils]]) (.ptr c.length 0)=some (.agg [.nils,.nils,.nils]):=by simp[aB,cut,aD]
       refine⟨trivial,.agg [.nils,.nils,.nils],(c++[.cells [.nils,.nils,.nils]]),?_,rfl,bP _,⟨by simp;omega,fun i a2 m=>.inr ?_⟩,by simp[low,bA],S⟩;·simp[Rs.ad,cZ,P,Z,-aB]
       ·have n:i<h.length:=(aF.1 m).1;rw[aX (by omega),<-f,aX n];exact m
      rw[aT];cases M with
      |true=>
       simp[Mc.ad,aC,Ks.ad,v,f,e,J,B,A,x,z,I,H,K,-aB,-aQ];rw[e]at fin;exact fin _ _ rfl|false=>
       have Q:s.k≠2:=by simpa using O
       have a1:eqB s.k 2=false:=by simp[eqB,Q]
       simp[a1,Mc.ad,aC,Ks.ad,v,f,e,J,B,A,x,y,z,I,H,K,-aB,-aQ];rw[e]at fin;exact fin _ _ rfl
     ·cases b
    ·cases b
   ·cases b
  ·cases b
 ·cases b
def oB(LO:List AV->Option AV)(a:List AV)(h:aA):Option (AV×aA):=match uH a h with
 |some r=>some r|none=>match yV LO a h with
  |some r=>some r|none=>HN a h
theorem xd0(G:Gam)(LO:List AV->Option AV)(g:G Fn.a2=some (.pure LO)):∀b h r c,bA h.length b=true->bG h.length h=true->oB LO b h=some (r,c)->wpM G Mc.ad (jM h.length Rs.ad r c) [] (aC Ks.ad b) h:=by
 intro b h r c d f a;unfold oB at a;split at a
 ·rename_i i e;injection a with a;subst a;exact xd2 G b h r c d f e
 ·split at a
  ·rename_i i e;injection a with a;subst a;exact xd1 G LO g b h r c d f e
  ·exact xd3 G b h r c d f a
section
variable{LO:List AV->Option AV}{t mo mw:Nat}{c0 c1 c2 c3:AV}{eo ew:List (AV×AV)}{h:aA}{s:Seg}
theorem xc8(g:h[t]?=some (.cells [c0,c1,c2,c3,.map mo,.map mw]))(e:h[mo]?=some (.map eo))(f:h[mw]?=some (.map ew)){w:AV}(i:iP .s (.str s.p) ew=some (some w)){a b c:List (List AV)}(d:iY sgK s.row eo=some (some (.agg [.sl a,.sl b,.sl c]))):oB LO [.ptr t 0,.agg s.row] h=some (.agg [.sl a,.sl b,.sl c],h):=by
 have:uH [.ptr t 0,.agg s.row] h=some (.agg [.sl a,.sl b,.sl c],h):=by simp[uH,g,e,f,i,d]
 unfold oB;rw[this]
theorem xc7(c:h[t]?=some (.cells [c0,c1,c2,c3,.map mo,.map mw]))(l:h[mo]?=some (.map eo))(b:h[mw]?=some (.map ew))(d:iP .s (.str s.p) ew=some none)(j:s.k=2)(i:iY sgK s.row eo=some none){a:List (List AV)}{e:AV}(k:LO [.sl [[.str s.p,.n s.i]]]=some (.tup [.sl a,e])):oB LO [.ptr t 0,.agg s.row] h=some (.agg [.sl a,.sl [],.sl []],h):=by
 have f:uH [.ptr t 0,.agg s.row] h=none:=by simp[uH,c,l,b,d,i]
 have g:yV LO [.ptr t 0,.agg s.row] h=some (.agg [.sl a,.sl [],.sl []],h):=by simp[yV,c,b,d,k,j]
 unfold oB;rw[f,g]
theorem xc9(b:h[t]?=some (.cells [c0,c1,c2,c3,.map mo,.map mw]))(f:h[mo]?=some (.map eo))(a:h[mw]?=some (.map ew))(c:iP .s (.str s.p) ew=some none)(e:s.k≠2)(d:iY sgK s.row eo=some none):oB LO [.ptr t 0,.agg s.row] h=some (.agg [.sl [],.sl [],.sl []],h):=by
 have g:uH [.ptr t 0,.agg s.row] h=none:=by simp[uH,b,f,a,c,d]
 have i:yV LO [.ptr t 0,.agg s.row] h=none:=by
  simp only[yV,zt3,b,a,c];split;·rename_i k;simp[e]
  ·rfl
 have j:HN [.ptr t 0,.agg s.row] h=some (.agg [.sl [],.sl [],.sl []],h):=by simp[HN,b,f,a,c,d,e]
 unfold oB;rw[g,i,j]
end
def Ks.a9:List Nat:=[0,1,4,5,7,8,10,11,42,43,44,58,59]
def Rs.a9:List RV:=[.tmp 4]
def Dl.a9:List (List Nat):=[[7,8,10,58,59],[10]]
def Mc.a9_L1:MC:=.s [zb 60 .lss 59 58] (.seq (.ite (.t 60) .skip (.exit 2)) (.b 3 (.s [zm 61 59,zM 10 61] (.reg [zm 62 5,zf 63 0 7,zl 64 63,iz 65 (.bin .add) [.t 64,.c (.str [47])],zf 66 2 7,zl 67 66,zb 68 .add 65 67,zm 69 10,iz 70 (.bld [.str [],.n 0] [(0,1),(1,1)]) [.t 68,.t 69],Zb 71 2 [.t 70],Zs 72 2 24 62 71,zM 5 72])) (.reg [zc 73 .add 59 1,zM 59 73])))
def Mc.a9_L0:MC:=.s [zb 45 .lss 44 43] (.seq (.ite (.t 45) .skip (.exit 0)) (.b 1 (.s [zi 46 4 42 44,zL 47 4 46,Ka 7 (.alloc [.str [],.str [],.str [],.nils]),zs 4 7 47] (.s [zf 49 3 7,zl 50 49,zf 51 2 7,zl 52 51,zg 53 Fn.dm [.t 50,.t 52],zm 48 53,ze 54 0 48,ze 55 1 48,zM 8 54,zm 9 55] (.s [zm 56 8,zg 57 Fn.dd [.t 56,.c (.str [10])],kz 58 (.bin .add) [.t 57,.i 1],Kc 59 0] (.blk 2 (.loop [10] Mc.a9_L1))))) (.reg [zc 74 .add 44 1,zM 44 74])))
def Mc.a9:MC:=.s [kz 4 (.newnil 3) []] (.w [zm 13 0,iz 14 (.isnilp false) [.t 13],zm 15 14,Gm 15 false 16 1,Gc 15 false 17 .lss 16 0,Zp 18 15 17,zm 19 18,Gm 19 false 20 1,Gm 19 false 21 0,Gk 19 false 22 21,Gf 19 false 23 6 22,Gl 19 false 24 23,Gn 19 false 25 1 24,Gb 19 false 26 .geq 20 25,Zp 27 19 26] 27 (.r [kz 4 (.newnil 3) []]) (.s [kz 5 (.newnil 2) []] (.seq (.d [zm 28 0,Zk 29 28,zf 30 0 29,zl 31 30,zm 32 0,Zk 33 32,zf 34 1 33,zf 35 2 34,zl 36 35,zm 37 1,zi 38 6 36 37,zf 39 0 38,zl 40 39,zc 41 .add 40 1,kz 42 (.slc (some 4) false true false) [.t 31,.t 41],Kn 43 1 42,Kc 44 0] (.blk 0 (.loop [7,8,10,58,59] Mc.a9_L0))) (.s [zm 76 5,zg 77 Fn.a2 [.t 76],zm 75 77,ze 78 0 75,ze 79 1 75,zM 11 78,zm 12 79] (.r [zm 80 11,zM 4 80])))))
def Ks.b2:List Nat:=[0,1,4,5,6,7]
def Rs.b2:List RV:=[.cell 4 6 true,.cell 5 5 true]
def Dl.b2:List (List Nat):=[]
def Ow.influence_Of:List Nat:=[1000080]
def Mc.b2:MC:=.s [Ka 4 (.alloc [.str [],.nils,.nils,.nils,.nils,.nils]),Ka 5 (.alloc [.n 0,.n 0,.n 0,.str [],.n 0])] (.s [zm 9 0,zg 10 Fn.a3 [.t 9],zm 8 10,ze 11 0 8,ze 12 1 8,Ka 7 (.alloc [.n 0,.n 0,.n 0,.str [],.n 0]),zM 6 11,zs 5 7 12] (.w [zf 13 0 7,zl 14 13,zc 15 .neq 14 0] 15 (.seq (.rge [(false,[],Zd 16 [.str [],.nils,.nils,.nils,.nils,.nils]),(false,[1],zL 17 5 7),(false,[],zs 6 4 16),(false,[],zs 5 5 17)]) .ret) (.w [zm 18 6,Zk 19 18,zf 20 1 19,zf 21 1 20,zl 22 21,zm 23 1,zg 24 Fn.cw [.t 22,.t 23],Zu 25 24] 25 (.r [Zd 26 [.str [],.nils,.nils,.nils,.nils,.nils],zm 27 1,zg 28 Fn.ew [.t 27],zs 6 4 26,zs 5 5 28]) (.r [zm 29 6,zm 30 1,iz 31 (.callg Fn.bu) [.t 29,.t 30],Zd 32 [.n 0,.n 0,.n 0,.str [],.n 0],zs 6 4 31,zs 5 5 32]))))
def Ks.a2:List Nat:=[0,2,3,4,6,7,11,12,13]
def Rs.a2:List RV:=[.tmp 2,.tmp 3]
def Dl.a2:List (List Nat):=[[6,7]]
def Ow.a2:List Nat:=[1000230]
def Mc.a2_L0:MC:=.s [zb 14 .lss 13 12] (.seq (.ite (.t 14) .skip (.exit 0)) (.b 1 (.s [zi 15 2 11 13,zL 16 2 15,Ka 6 (.alloc [.str [],.n 0]),zs 2 6 16] (.s [zf 17 0 6,zl 18 17,zf 19 1 6,zl 20 19,zf 21 1 6,zl 22 21,zc 23 .add 22 1,iz 24 (.bld [.str [],.n 0,.n 0] [(0,1),(1,1),(2,1)]) [.t 18,.t 20,.t 23],Ka 7 (.alloc [.str [],.n 0,.n 0]),zs 3 7 24] (.b 2 (.s [zf 26 0 6,zl 27 26,zg 28 Fn.cl [.t 27],zc 29 .neq 28 0,zm 25 29] (.ite (.t 25) (.r [kz 2 (.newnil 3) [],Kc 3 2]) (.s [zL 31 3 7,zg 32 Fn.cp [.t 31],Zu 33 32,zm 30 33] (.ite (.t 30) (.r [kz 2 (.newnil 3) [],Kc 3 3]) .skip)))) (.reg [zm 34 4,zL 35 3 7,Zb 36 3 [.t 35],Zs 37 3 32 34 36,zM 4 37])))) (.reg [zc 38 .add 13 1,zM 13 38])))
def Mc.a2:MC:=.s [kz 2 (.newnil 3) [],Kc 3 0] (.s [zm 8 0,zn 9 1 8,iz 10 (.mksl [.str [],.n 0,.n 0] 32) [.i 0,.t 9],zM 4 10] (.seq (.s [zM 11 0,Kn 12 1 11,Kc 13 0] (.blk 0 (.loop [6,7] Mc.a2_L0))) (.r [zm 39 4,iz 40 (.callg Fn.al) [.t 39],zM 2 40,Kc 3 0])))
theorem KM{G:Gam}{f:List MK}{Q:aS}{e:List (Nat×AV)}{d:List Nat}{a c:MC}{n:Nat}{A:aA}(i:a=c)(l:A.length<=n)(m:goM G c (.loop d a n::f) Q [] (aY d e) A)(k:d.contains 999999=false:=by rfl):cY G d a n f Q e A:=by
 have h:=YC (G:=G) (ks:=f) (Q:=Q) (fr:=e) (d:=d) (a:=a) (a':=c) (n:=n) (A:=A) (T0:=[]) i l (fun T g=>by
  obtain rfl:T=[]:=List.eq_nil_iff_forall_not_mem.2 fun b j=>by cases g b j
  rw[iR];exact m) k;rwa[iR]at h
def nD:List AV->Option AV
 |[.sl [[.str q,.n i]]]=>if eH q=true/\q.length<4294967281/\0<=i/\i<1024 then some (.tup [.sl [[.str q,.n i,.n (i+1)]],.n 0])else none|_=>none
theorem xu1(x:Sp):gX [x]=[x]:=List.perm_singleton.1 (GE [x]).1
theorem yX9{G:Gam}(w:G Fn.cl=some (.pure yH))(u:G Fn.cp=some (.pure uF))(v:G Fn.al=some (.gen yR)):PW G Mc.a2 Rs.a2 Ks.a2 nD:=by
 intro L r c;unfold nD at c;split at c
 ·rename_i q i;split at c
  ·rename_i x;obtain⟨e,o,M,h4⟩:=x;injection c with c;subst c;have I:IntKind.i64.wrap (i+1)=i+1:=by simp[IntKind.wrap,IntKind.bits,IntKind.signed];omega
   have m:∀b H,opV G b H (.call Fn.cl) (some [.str q])=some (.n 0,H):=fun b H=>cU w rfl (tZ (A:=eStr) (R:=eInt) (x:=q) (r:=0) (by simp[e,o])) (.inl rfl);have k:∀b H,opV G b H (.call Fn.cp) (some [.agg [.str q,.n i,.n (i+1)]])=some (.T,H):=fun b H=>cU u (us:=[.agg [.str q,.n i,.n (i+1)]]) rfl (by
    have:jL [.str q,.n i,.n (i+1)]=some ⟨q,i,i+1⟩:=rfl;simp[uF,this,pY];omega) (.inl rfl);have J:ltB 0 1=true:=rfl;have K:ltB 1 1=false:=rfl;have O:eqB 0 0=true:=rfl;have C:∀b H,opV G b H (.mksl [.str [],.n 0,.n 0] 32) (some [.n 0,.n 1])=some (.own H.length 0 0,H++[.arr 3 0 [] true]):=fun b H=>by rw[fG rfl];simp[bC,dJ]
   rw[aT];simp[Mc.a2,aC,Ks.a2,aW,C];generalize d:[AV.str q,.n i,.n (i+1)]=a at*;have y:jL a=some ⟨q,i,i+1⟩:=by rw[<-d];rfl
   refine KM (Mc.a2_L0.eq_1) (bP _) ?_;have f:∀b,opV G b [Blk.arr 3 0 [] true,.arr 3 0 [] true,.cells [.str q,.n i],.cells a] (.app false 3 32) (some [.own 1 0 0,.tsl [a]])=some (.own 1 1 1,[.arr 3 0 [] true,.arr 3 1 [a] true,.cells [.str q,.n i],.cells a]):=fun b=>by
    have h:=tI (G:=G) (s:=b) (h:=[Blk.arr 3 0 [] true,.arr 3 0 [] true,.cells [.str q,.n i],.cells a]) (e:=fun _:Unit=>a) (n:=3) (b:=32) (l:=1) (os:=[]) (x:=()) rfl (by rw[<-d];rfl) (by omega) (by unfold big;simp);exact h
   have E:bB 3 [Blk.arr 3 0 [] true,.arr 3 0 [] true,.cells [.str q,.n i],.cells [.str [],.n 0,.n 0]] (.ptr 3 0) (.agg a)=some [.arr 3 0 [] true,.arr 3 0 [] true,.cells [.str q,.n i],.cells a]:=by rw[<-d,aQ];rfl
   have D:bB 2 [Blk.arr 3 0 [] true,.arr 3 0 [] true,.cells [.str [],.n 0]] (.ptr 2 0) (.agg [.str q,.n i])=some [.arr 3 0 [] true,.arr 3 0 [] true,.cells [.str q,.n i]]:=by rw[aQ];rfl
   have k0:aB 2 true [Blk.arr 3 0 [] true,.arr 3 0 [] true] (.fptr [.str q,.n i] 0)=some (.agg [.str q,.n i]):=rfl;have k1:aB 1 false [Blk.arr 3 0 [] true,.arr 3 0 [] true,.cells [.str q,.n i]] (.ptr 2 0)=some (.str q):=rfl;have k2:aB 1 false [Blk.arr 3 0 [] true,.arr 3 0 [] true,.cells [.str q,.n i]] (.ptr 2 1)=some (.n i):=rfl;have k3:aB 1 false [Blk.arr 3 0 [] true,.arr 3 0 [] true,.cells [.str q,.n i],.cells a] (.ptr 2 0)=some (.str q):=rfl;have j:∀b H,opV G b H (.bsl false 3) (some [.agg a])=some (.tsl [a],H):=fun b H=>by rw[<-d,gF rfl];rfl
   have B:aB 3 true [Blk.arr 3 0 [] true,.arr 3 0 [] true,.cells [.str q,.n i],.cells a] (.ptr 3 0)=some (.agg a):=by rw[<-d];rfl
   have g:∀b H,opV G b H (.bld [.str [],.n 0,.n 0] [(0,1),(1,1),(2,1)]) (some [.str q,.n i,.n (i+1)])=some (.agg a,H):=fun b H=>by rw[<-d,bW rfl];rfl
   simp[aY,J,bN,m,k,I,f,D,E,j,B,g,k0,k1,k2,k3,-gF,-aQ,-aB];refine tC (A:=[Blk.arr 3 0 [] true,.arr 3 1 [a] true]) (T0:=[.cells [.str q,.n i],.cells a]) (Mc.a2_L0.eq_1) (bP _) fun T=>?_;have F:IntKind.i64.wrap 1=1:=rfl;have l:∀b,opV G b ([Blk.arr 3 0 [] true,.arr 3 1 [a] true]++T) (.callg Fn.al) (some [.own 1 1 1])=some (.sl [a],[Blk.arr 3 0 [] true,.arr 3 1 [a] true]++T):=fun b=>by
    rw[oT v];have z:(⟨q,i,i+1⟩:Sp).row=a:=d;have n:([Blk.arr 3 0 [] true,.arr 3 1 [a] true]++T)[1]?=some (.arr 3 1 [a] true):=rfl;have e:dW jL [a]=some [⟨q,i,i+1⟩]:=by simp[dW,y]
    simp only[yR,n,e,xu1,mV,kU,aI,fE,pN,z];rfl
   generalize N:[Blk.arr 3 0 [] true,.arr 3 1 [a] true]++T=A at*;simp[aY,F,l,Rs.a2,view,cV]
  ·cases c
 ·cases c
end Go.Proofs.YtpefhfiehfkocaaGreatDoor
