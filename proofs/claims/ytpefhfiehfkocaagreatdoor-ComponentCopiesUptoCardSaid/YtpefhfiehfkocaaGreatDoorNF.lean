/- binary -/
import Derived.Test.YtpefhfiehfkocaaGreatDoorNE
import Derived.Test.YtpefhfiehfkocaaGreatDoorCA
namespace Go.Proofs.YtpefhfiehfkocaaGreatDoor
open Go.RowKit Go.IntWalk
noncomputable section
def NO:MC:=.s [zl 29 4,iz 30 (.mkfn Fn.bo) [.t 6,.t 5],zg 31 Fn.aw [.t 29,.t 30],zf 32 3 7,zs 1 32 31] (.s [zl 33 4,zl 34 5,zg 35 Fn.ar [.t 33,.t 34],zf 36 4 7,zs 1 36 35] (.s [zl 37 4,iz 38 (.mkfn Fn.bp) [.t 6,.t 5],zg 39 Fn.ax [.t 37,.t 38],zf 40 5 7,zs 1 40 39] (.s [zl 41 4,iz 42 (.mkfn Fn.bq) [.t 6,.t 5],zg 43 Fn.av [.t 41,.t 42],zf 44 6 7,zs 1 44 43] (.s [zl 45 4,iz 46 (.mkfn Fn.br) [.t 6],zg 47 Fn.ay [.t 45,.t 46],zf 48 7 7,zs 1 48 47] (.w [zl 49 4,zg 50 Fn.be [.t 49],zc 51 .neq 50 0,zm 52 51,GL 52 false 53 8 7,Gg 52 false 54 Fn.ab [.t 53],Gc 52 false 55 .neq 54 0,Zp 56 52 55] 56 (.r [Zd 57 [.n 0,.n 0,.str [],.nils,.nils,.nils,.nils,.nils],zs 8 2 57,Kc 3 17]) (.r [zL 58 8 7,zs 8 2 58,Kc 3 0]))))))
theorem yj1:Mc.bb=(.seq (.reg [Ka 2 (.alloc [.n 0,.n 0,.str [],.nils,.nils,.nils,.nils,.nils]),Kc 3 0]) (.seq (.reg [zm 8 0,zg 9 Fn.ci [.t 8],Ka 4 (.alloc [.nilp]),zs 1 4 9]) (.seq (.reg [iz 10 (.mkfn Fn.af) [.t 4],Ka 5 (.alloc [.nilf]),zs 1 5 10]) (.seq (.reg [iz 11 (.mkfn Fn.ag) [.t 4],Ka 6 (.alloc [.nilf]),zs 1 6 11]) (.seq (.seq (.reg [zm 12 0,zn 13 0 12,zc 14 .gtr 13 65536,zm 15 14,Gl 15 false 16 6,gz 15 false 17 .callv [.t 16],gz 15 false 18 (.bin .neq) [.t 17,.c (.str [98,105,110,97,114,121])],Zp 19 15 18]) (.ite (.t 19) (.seq (.reg [Zd 20 [.n 0,.n 0,.str [],.nils,.nils,.nils,.nils,.nils],zs 8 2 20,Kc 3 17]) .ret) .skip)) (.seq (.both (.rge [(false,[],zl 21 5),(false,[2],zl 23 5),(false,[1,2],zl 26 6),(false,[],Zv 22 [.t 21]),(false,[],Zv 24 [.t 23]),(false,[],zc 25 .sub 24 1),(false,[],Zv 27 [.t 26]),(false,[1],iz 28 (.bld [.n 0,.n 0,.str [],.nils,.nils,.nils,.nils,.nils] [(0,1),(1,1),(2,1)]) [.t 22,.t 25,.t 27]),(false,[],Ka 7 (.alloc [.n 0,.n 0,.str [],.nils,.nils,.nils,.nils,.nils])),(false,[],zs 8 7 28)]) (.both (.rge [(false,[],zl 21 5),(false,[2],zl 23 5),(false,[1,2,4],zl 26 6),(false,[],Zv 22 [.t 21]),(false,[],Zv 24 [.t 23]),(false,[],zc 25 .sub 24 1),(false,[],Ka 7 (.alloc [.n 0,.n 0,.str [],.nils,.nils,.nils,.nils,.nils])),(false,[],Zv 27 [.t 26]),(false,[],iz 28 (.bld [.n 0,.n 0,.str [],.nils,.nils,.nils,.nils,.nils] [(0,1),(1,1),(2,1)]) [.t 22,.t 25,.t 27]),(false,[],zs 8 7 28)]) (.both (.rge [(false,[],zl 21 5),(false,[],Zv 22 [.t 21]),(true,[2],zl 23 5),(true,[1,2],zl 26 6),(false,[],Ka 7 (.alloc [.n 0,.n 0,.str [],.nils,.nils,.nils,.nils,.nils])),(false,[],Zv 24 [.t 23]),(false,[],zc 25 .sub 24 1),(false,[],Zv 27 [.t 26]),(false,[],iz 28 (.bld [.n 0,.n 0,.str [],.nils,.nils,.nils,.nils,.nils] [(0,1),(1,1),(2,1)]) [.t 22,.t 25,.t 27]),(false,[],zs 8 7 28)]) (.rge [(false,[3],zl 21 5),(false,[2,3],zl 23 5),(false,[1,2,3],zl 26 6),(false,[],Ka 7 (.alloc [.n 0,.n 0,.str [],.nils,.nils,.nils,.nils,.nils])),(false,[],Zv 22 [.t 21]),(false,[],Zv 24 [.t 23]),(false,[],zc 25 .sub 24 1),(false,[],Zv 27 [.t 26]),(false,[],iz 28 (.bld [.n 0,.n 0,.str [],.nils,.nils,.nils,.nils,.nils] [(0,1),(1,1),(2,1)]) [.t 22,.t 25,.t 27]),(false,[],zs 8 7 28)])))) NO)))))):=rfl
abbrev z8:List AV:=[.n 0,.n 0,.str [],.nils,.nils,.nils,.nils,.nils]
def DH(z:List AV)(r:Rd)(tl:aA):aA:=.cells z::bX none r::.cells [.ptr 1 0]::.cells [.fn Fn.af [.ptr 2 0]]::.cells [.fn Fn.ag [.ptr 2 0]]::tl
section
variable{G:Gam}{z z':List AV}{r r':Rd}{tl:aA}
theorem GZ:(DH z r tl).length=5+tl.length:=by simp[DH];omega
theorem vX:(DH z r tl)[1]?=some (bX none r):=rfl
theorem UZ:(DH z r tl).set 1 (bX none r')=DH z r' tl:=rfl
theorem UV:Env (DH z r tl) 1 2 4 3:=⟨rfl,rfl,rfl⟩
theorem yi0:EnvT (DH z r tl) 1 2 4:=⟨rfl,rfl⟩
theorem zh7:aB 1 false (DH z r tl) (.ptr 2 0)=some (.ptr 1 0):=bT (l:=2) rfl rfl
theorem zi1:aB 1 false (DH z r tl) (.ptr 3 0)=some (.fn Fn.af [.ptr 2 0]):=bT (l:=3) rfl rfl
theorem yi8:aB 1 false (DH z r tl) (.ptr 4 0)=some (.fn Fn.ag [.ptr 2 0]):=bT (l:=4) rfl rfl
theorem HA{b:Nat}{a:List (List AV)}:GH (DH z r tl) 1 none r' b a []=DH z r' (tl++[.arr b 0 [] true,.arr b a.length a true]):=by unfold GH;rw[UZ];simp[DH]
theorem zh8(a:G Fn.af=some (.gen nZ))(b:r.rest.length<=1000000):dE G Fn.af [.ptr 2 0] (DH z r tl)=some (.n (rdNum 0 65536 r).1,DH z (rdNum 0 65536 r).2 tl):=by rw[JR a (tg':=none) (l:=1) (tg:=none) rfl vX b,UZ]
theorem zh9(a:G Fn.ag=some (.gen qS))(b:r.rest.length<=1000000):dE G Fn.ag [.ptr 2 0] (DH z r tl)=some (.str (bZ 65536 r).1,DH z (bZ 65536 r).2 tl):=by rw[JS a (tg':=none) (l:=1) (tg:=none) rfl vX b,UZ]
theorem yi7{b a:Blk}:(DH z r (b::tl)).set 5 a=DH z r (a::tl):=rfl
theorem UW{b:Blk}:(DH z r (b::tl))[5]?=some b:=rfl
theorem zi0:(DH z r tl)[0]?=some (.cells z):=rfl
theorem yi3(hm:G Fn.aw=some (.gen yN))(b:r.rest.length<=1000000)(_:Bool):dE G Fn.aw [.ptr 1 0,.fn Fn.bo [.ptr 4 0,.ptr 3 0]] (DH z r tl)=some (.own (6+tl.length) (bJ (eX 65536) r).1.length (bJ (eX 65536) r).1.length,DH z (bJ (eX 65536) r).2 (tl++[.arr 5 0 [] true,.arr 5 (bJ (eX 65536) r).1.length (dM (bJ (eX 65536) r).1) true])):=by
 rw[mA hm];have a:=Env.of (UV (z:=z) (r:=r) (tl:=tl));simp only[yN,aM,a,LB vX b,HA,kG];rw[GZ,show 5+tl.length+1=6+tl.length by omega];rfl
theorem yi2(hm:G Fn.ar=some (.gen yM))(b:r.rest.length<=1000000)(_:Bool):dE G Fn.ar [.ptr 1 0,.fn Fn.af [.ptr 2 0]] (DH z r tl)=some (.own (6+tl.length) (bJ fY r).1.length (bJ fY r).1.length,DH z (bJ fY r).2 (tl++[.arr 1 0 [] true,.arr 1 (bJ fY r).1.length (fW (bJ fY r).1) true])):=by
 rw[mA hm];have a:(DH z r tl)[2]?=some (.cells [.ptr 1 0]):=rfl;simp only[yM,aM,a,LB vX b,HA,kG];rw[GZ,show 5+tl.length+1=6+tl.length by omega];rfl
theorem yi4(hm:G Fn.ax=some (.gen yO))(b:r.rest.length<=1000000)(_:Bool):dE G Fn.ax [.ptr 1 0,.fn Fn.bp [.ptr 4 0,.ptr 3 0]] (DH z r tl)=some (.own (6+tl.length) (bJ fN r).1.length (bJ fN r).1.length,DH z (bJ fN r).2 (tl++[.arr 3 0 [] true,.arr 3 (bJ fN r).1.length (gQ (bJ fN r).1) true])):=by
 rw[mA hm];have a:=Env.of (UV (z:=z) (r:=r) (tl:=tl));simp only[yO,aM,a,LB vX b,HA,kG];rw[GZ,show 5+tl.length+1=6+tl.length by omega];rfl
theorem yi5(hm:G Fn.av=some (.gen yP))(b:r.rest.length<=1000000)(_:Bool):dE G Fn.av [.ptr 1 0,.fn Fn.bq [.ptr 4 0,.ptr 3 0]] (DH z r tl)=some (.own (6+tl.length) (bJ gB r).1.length (bJ gB r).1.length,DH z (bJ gB r).2 (tl++[.arr 2 0 [] true,.arr 2 (bJ gB r).1.length (gZ (bJ gB r).1) true])):=by
 rw[mA hm];have a:=Env.of (UV (z:=z) (r:=r) (tl:=tl));simp only[yP,aM,a,LB vX b,HA,kG];rw[GZ,show 5+tl.length+1=6+tl.length by omega];rfl
theorem yi6(hm:G Fn.ay=some (.gen yQ))(b:r.rest.length<=1000000)(_:Bool):dE G Fn.ay [.ptr 1 0,.fn Fn.br [.ptr 4 0]] (DH z r tl)=some (.own (6+tl.length) (bJ gE r).1.length (bJ gE r).1.length,DH z (bJ gE r).2 (tl++[.arr 2 0 [] true,.arr 2 (bJ gE r).1.length (iU (bJ gE r).1) true])):=by
 rw[mA hm];have a:=EnvT.of (yi0 (z:=z) (r:=r) (tl:=tl));simp only[yQ,aM,a,LB vX b,HA,kG];rw[GZ,show 5+tl.length+1=6+tl.length by omega];rfl
end
theorem AN{c:Type}{one:Rd->c×Rd}{ok:c->Prop}(h:∀r:Rd,r.rest.length<=1000000->ok (one r).1)(b:pI one):∀(n:Nat)(r:Rd),r.rest.length<=1000000->∀x∈(bK one n r).1,ok x
 |0,_,_,x,hx=>by cases hx|n+1,r,a,x,hx=>by
  rw[bK]at hx;split at hx;·cases hx
  ·rcases dD.1 hx with rfl|hx;·exact h r a
   ·exact AN h b n _ (b r a) x hx
theorem KZ{a:Type}{one:Rd->a×Rd}(r:Rd):(bJ one r).1.length<=65536:=by
 have b:=zN3 (one:=one) (rdNum 0 65536 r).1.toNat (rdNum 0 65536 r).2;have c:=xS (lo:=0) (hi:=65536) (by omega) (by omega) (r:=r);unfold bJ;omega
theorem xT{m:Int}(a:0<=m)(hm:m<=100000)(r:Rd):(bZ m r).1.length<=100000:=by
 unfold bZ;split;·simp
 ·split
  ·split;·simp
   ·split;·simp
    ·split;·simp
     ·simp;omega
  ·simp
  ·simp
theorem ze3{a:Int}(b:0<=a)(c:a<=65536)(r:Rd):lT (rdNum 0 a r).1=true:=by
 have:=xS (lo:=0) (hi:=a) b (by omega) (r:=r);unfold lT;simp;omega
theorem ze4{hi:Int}(a:0<=hi)(b:hi<=65536)(r:Rd):-1000000000000<=(rdNum 0 hi r).1/\(rdNum 0 hi r).1<=1000000000000:=by
 have:=xS (lo:=0) (hi:=hi) a (by omega) (r:=r);omega
theorem xl3{mh mk me mp:Int}(_:0<=mp)(_:mp<=65536)(b:Rd)(l:b.rest.length<=1000000):OkB (rQ mh mk me mp b).1.2:=by
 have o:=rU mh b l;have q:=jR 0 mk _ o;have s:=jR 0 me _ q;have d:=rU 65536 _ s;have i:=xZ (MW mp) _ d;have j:=xZ TR _ i;have k:=xZ TT _ j;have u:=xZ TQ _ k;simp only[rQ];refine⟨?_,?_,?_,?_,?_,?_,?_,?_,?_,?_,?_⟩
 ·unfold EY;simp only[bR,fD,fK];refine⟨by have:=KZ (one:=eX mp) (bZ 65536 (rdNum 0 me (rdNum 0 mk (bZ mh b).2).2).2).2;omega,?_⟩;refine AN (ok:=fun p=>AS p=true) (fun r c=>?_) (MW mp) _ _ (jR _ _ _ d);have e:=ze4 (hi:=65536) (by omega) (by omega) (rdNum 0 mp (bZ 65536 (bZ 65536 r).2).2).2;have g:=ze4 (hi:=65536) (by omega) (by omega) (rdNum 0 65536 (rdNum 0 mp (bZ 65536 (bZ 65536 r).2).2).2).2;unfold AS;simp only[bR,fD];exact⟨⟨⟨e.1,e.2⟩,g.1⟩,g.2⟩
 ·have:=xT (m:=65536) (by omega) (by omega) (rdNum 0 me (rdNum 0 mk (bZ mh b).2).2).2;simp only;omega
 ·exact AN (ok:=fun p=>p.obj.length<=100000/\p.sym.length<=100000) (fun r c=>⟨xT (by omega) (by omega) _,xT (by omega) (by omega) _⟩) (MW mp) _ _ (jR _ _ _ d)
 ·have:=KZ (one:=fY) (bJ (eX mp) (bZ 65536 (rdNum 0 me (rdNum 0 mk (bZ mh b).2).2).2).2).2;simp only;omega
 ·exact AN (ok:=fun a=>lT a=true) (fun r c=>ze3 (by omega) (by omega) _) TR _ _ (jR _ _ _ i)
 ·have:=KZ (one:=fN) (bJ fY (bJ (eX mp) (bZ 65536 (rdNum 0 me (rdNum 0 mk (bZ mh b).2).2).2).2).2).2;simp only;omega
 ·exact AN (ok:=fun x=>x.lib.length<=100000/\x.sym.length<=100000/\lT x.pos=true) (fun r c=>⟨xT (by omega) (by omega) _,xT (by omega) (by omega) _,ze3 (by omega) (by omega) _⟩) TT _ _ (jR _ _ _ j)
 ·have:=KZ (one:=gB) (bJ fN (bJ fY (bJ (eX mp) (bZ 65536 (rdNum 0 me (rdNum 0 mk (bZ mh b).2).2).2).2).2).2).2;simp only;omega
 ·exact AN (ok:=fun x=>x.sym.length<=100000/\lT x.pos=true) (fun r c=>⟨xT (by omega) (by omega) _,ze3 (by omega) (by omega) _⟩) TQ _ _ (jR _ _ _ k)
 ·have:=KZ (one:=gE) (bJ gB (bJ fN (bJ fY (bJ (eX mp) (bZ 65536 (rdNum 0 me (rdNum 0 mk (bZ mh b).2).2).2).2).2).2).2).2;simp only;omega
 ·refine AN (ok:=fun x:Bs×Bs=>x.1.length<=100000/\x.2.length<=1000000) (fun r c=>⟨xT (by omega) (by omega) _,?_⟩) zZ9 _ _ (jR _ _ _ u);have:=xT (m:=65536) (by omega) (by omega) (bZ 65536 r).2;simp only[gE];omega
theorem HB{z a:List AV}{r:Rd}{X:aA}{k:Nat}{v:AV}(b:v.cells=[v])(c:bE v=true)(e:k<a.length):bB 1 (DH z r (.cells a::X)) (.ptr 5 k) v=some (DH z r (.cells (a.set k v)::X)):=by
 have d:k+1<=a.length:=by omega
 simp[bB,b,c,UW,d,bF,yi7]
theorem yi1{z a:List AV}{r:Rd}{X:aA}(h:a.length=8):aB 8 true (DH z r (.cells a::X)) (.ptr 5 0)=some (.agg a):=by
 have b:cut a 0 8=a:=PH h;simp only[aB,UW];rw[b];simp[aD,h]
theorem UY{z a:List AV}{r:Rd}{X:aA}(c:z.length=8)(h:a.length=8)(b:a.all bE=true):bB 8 (DH z r X) (.ptr 0 0) (.agg a)=some (DH a r X):=by
 have:=qM (h:=DH z r X) (l:=0) (n:=8) (vs:=z) (us:=a) zi0 c h (by omega) b;rw[this];rfl
theorem UX{z:List AV}{r:Rd}{X:aA}(h:z.length=8):aB 8 true (DH z r X) (.ptr 0 0)=some (.agg z):=by
 have a:cut z 0 8=z:=PH h;simp only[aB,zi0];rw[a];simp[aD,h]
def rB(d:Bin×Int):AV:=.tup [.agg d.1.cells,.n d.2]
theorem zp3(h:aA):cV h [.agg z8,.n 17]=some [.agg bin0.cells,.n 17]:=by simp[cV,view,Bin.cells,bin0,dM,fW,gQ,gZ,iU]
theorem yj0{G:Gam}(m3:G Fn.aw=some (.gen yN))(m1:G Fn.ar=some (.gen yM))(m4:G Fn.ax=some (.gen yO))(m5:G Fn.av=some (.gen yP))(m6:G Fn.ay=some (.gen yQ))(hC:G Fn.be=some (.gen (bO BT)))(hK:G Fn.ab=some (.pure BR))(d3 i:Bs)(k e:Int)(s:Rd)(b1:s.rest.length<=1000000)(b:Bin)(g:Rd)(j:b=⟨k,e,i,(bJ (eX 65536) s).1,(bJ fY (bJ (eX 65536) s).2).1,(bJ fN (bJ fY (bJ (eX 65536) s).2).2).1,(bJ gB (bJ fN (bJ fY (bJ (eX 65536) s).2).2).2).1,(bJ gE (bJ gB (bJ fN (bJ fY (bJ (eX 65536) s).2).2).2).2).1⟩)(o:g=(bJ gE (bJ gB (bJ fN (bJ fY (bJ (eX 65536) s).2).2).2).2).2)(c3:oQ b=true)(c1:List (Nat×AV)):goM G NO [] (aJ Rs.bb (rB (if mZ g≠0\/oM b≠0 then(bin0,17)else(b,0)))) c1 [(0,.str d3),(2,.ptr 0 0),(3,.n 0),(4,.ptr 2 0),(5,.ptr 3 0),(6,.ptr 4 0),(7,.ptr 5 0)] (DH z8 s [.cells [.n k,.n e,.str i,.nils,.nils,.nils,.nils,.nils]]):=by
 have U:=xZ (MW 65536) _ b1;have B:=xZ TR _ U;have v:=xZ TT _ B;have u:=xZ TQ _ v;obtain⟨p,F,e4⟩:∃a q,bJ (eX 65536) s=(a,q):=⟨_,_,rfl⟩;rw[e4]at U B v u j o;obtain⟨f,I,e5⟩:∃a q,bJ fY F=(a,q):=⟨_,_,rfl⟩;simp only at U B v u j o;rw[e5]at B v u j o;obtain⟨m,J,e6⟩:∃a q,bJ fN I=(a,q):=⟨_,_,rfl⟩;simp only at B v u j o;rw[e6]at v u j o;obtain⟨x,K,e7⟩:∃a q,bJ gB J=(a,q):=⟨_,_,rfl⟩;simp only at v u j o;rw[e7]at u j o;obtain⟨n,e1,e8⟩:∃a q,bJ gE K=(a,q):=⟨_,_,rfl⟩;simp only at u j o;rw[e8]at j o;simp only at j o;subst o;have g3:=fun tl=>yi3 (G:=G) (z:=z8) (tl:=tl) m3 b1 false;rw[e4]at g3;have g1:=fun tl=>yi2 (G:=G) (z:=z8) (tl:=tl) m1 U false;rw[e5]at g1;have g4:=fun tl=>yi4 (G:=G) (z:=z8) (tl:=tl) m4 B false;rw[e6]at g4;have g5:=fun tl=>yi5 (G:=G) (z:=z8) (tl:=tl) m5 v false;rw[e7]at g5;have g6:=fun tl=>yi6 (G:=G) (z:=z8) (tl:=tl) m6 u false;rw[e8]at g6;have D:∀(f:FuncId)(a2:List AV)(h:aA),opV G false h (.call f) (some a2)=dE G f a2 h:=fun _ _ _=>rfl;have k3:opV G false (DH z8 s [.cells [.n k,.n e,.str i,.nils,.nils,.nils,.nils,.nils]]) (.call Fn.aw) (some [.ptr 1 0,.fn Fn.bo [.ptr 4 0,.ptr 3 0]])=some (.own 7 p.length p.length,DH z8 F [.cells [.n k,.n e,.str i,.nils,.nils,.nils,.nils,.nils],.arr 5 0 [] true,.arr 5 p.length (dM p) true]):=by rw[D,g3];rfl
 have t3:bB 1 (DH z8 F [.cells [.n k,.n e,.str i,.nils,.nils,.nils,.nils,.nils],.arr 5 0 [] true,.arr 5 p.length (dM p) true]) (.ptr 5 3) (.own 7 p.length p.length)=some (DH z8 F [.cells [.n k,.n e,.str i,.own 7 p.length p.length,.nils,.nils,.nils,.nils],.arr 5 0 [] true,.arr 5 p.length (dM p) true]):=HB rfl rfl (by simp);have k1:opV G false (DH z8 F [.cells [.n k,.n e,.str i,.own 7 p.length p.length,.nils,.nils,.nils,.nils],.arr 5 0 [] true,.arr 5 p.length (dM p) true]) (.call Fn.ar) (some [.ptr 1 0,.fn Fn.af [.ptr 2 0]])=some (.own 9 f.length f.length,DH z8 I [.cells [.n k,.n e,.str i,.own 7 p.length p.length,.nils,.nils,.nils,.nils],.arr 5 0 [] true,.arr 5 p.length (dM p) true,.arr 1 0 [] true,.arr 1 f.length (fW f) true]):=by rw[D,g1];rfl
 have t1:bB 1 (DH z8 I [.cells [.n k,.n e,.str i,.own 7 p.length p.length,.nils,.nils,.nils,.nils],.arr 5 0 [] true,.arr 5 p.length (dM p) true,.arr 1 0 [] true,.arr 1 f.length (fW f) true]) (.ptr 5 4) (.own 9 f.length f.length)=some (DH z8 I [.cells [.n k,.n e,.str i,.own 7 p.length p.length,.own 9 f.length f.length,.nils,.nils,.nils],.arr 5 0 [] true,.arr 5 p.length (dM p) true,.arr 1 0 [] true,.arr 1 f.length (fW f) true]):=HB rfl rfl (by simp);have k4:opV G false (DH z8 I [.cells [.n k,.n e,.str i,.own 7 p.length p.length,.own 9 f.length f.length,.nils,.nils,.nils],.arr 5 0 [] true,.arr 5 p.length (dM p) true,.arr 1 0 [] true,.arr 1 f.length (fW f) true]) (.call Fn.ax) (some [.ptr 1 0,.fn Fn.bp [.ptr 4 0,.ptr 3 0]])=some (.own 11 m.length m.length,DH z8 J [.cells [.n k,.n e,.str i,.own 7 p.length p.length,.own 9 f.length f.length,.nils,.nils,.nils],.arr 5 0 [] true,.arr 5 p.length (dM p) true,.arr 1 0 [] true,.arr 1 f.length (fW f) true,.arr 3 0 [] true,.arr 3 m.length (gQ m) true]):=by rw[D,g4];rfl
 have t4:bB 1 (DH z8 J [.cells [.n k,.n e,.str i,.own 7 p.length p.length,.own 9 f.length f.length,.nils,.nils,.nils],.arr 5 0 [] true,.arr 5 p.length (dM p) true,.arr 1 0 [] true,.arr 1 f.length (fW f) true,.arr 3 0 [] true,.arr 3 m.length (gQ m) true]) (.ptr 5 5) (.own 11 m.length m.length)=some (DH z8 J [.cells [.n k,.n e,.str i,.own 7 p.length p.length,.own 9 f.length f.length,.own 11 m.length m.length,.nils,.nils],.arr 5 0 [] true,.arr 5 p.length (dM p) true,.arr 1 0 [] true,.arr 1 f.length (fW f) true,.arr 3 0 [] true,.arr 3 m.length (gQ m) true]):=HB rfl rfl (by simp);have k5:opV G false (DH z8 J [.cells [.n k,.n e,.str i,.own 7 p.length p.length,.own 9 f.length f.length,.own 11 m.length m.length,.nils,.nils],.arr 5 0 [] true,.arr 5 p.length (dM p) true,.arr 1 0 [] true,.arr 1 f.length (fW f) true,.arr 3 0 [] true,.arr 3 m.length (gQ m) true]) (.call Fn.av) (some [.ptr 1 0,.fn Fn.bq [.ptr 4 0,.ptr 3 0]])=some (.own 13 x.length x.length,DH z8 K [.cells [.n k,.n e,.str i,.own 7 p.length p.length,.own 9 f.length f.length,.own 11 m.length m.length,.nils,.nils],.arr 5 0 [] true,.arr 5 p.length (dM p) true,.arr 1 0 [] true,.arr 1 f.length (fW f) true,.arr 3 0 [] true,.arr 3 m.length (gQ m) true,.arr 2 0 [] true,.arr 2 x.length (gZ x) true]):=by rw[D,g5];rfl
 have t5:bB 1 (DH z8 K [.cells [.n k,.n e,.str i,.own 7 p.length p.length,.own 9 f.length f.length,.own 11 m.length m.length,.nils,.nils],.arr 5 0 [] true,.arr 5 p.length (dM p) true,.arr 1 0 [] true,.arr 1 f.length (fW f) true,.arr 3 0 [] true,.arr 3 m.length (gQ m) true,.arr 2 0 [] true,.arr 2 x.length (gZ x) true]) (.ptr 5 6) (.own 13 x.length x.length)=some (DH z8 K [.cells [.n k,.n e,.str i,.own 7 p.length p.length,.own 9 f.length f.length,.own 11 m.length m.length,.own 13 x.length x.length,.nils],.arr 5 0 [] true,.arr 5 p.length (dM p) true,.arr 1 0 [] true,.arr 1 f.length (fW f) true,.arr 3 0 [] true,.arr 3 m.length (gQ m) true,.arr 2 0 [] true,.arr 2 x.length (gZ x) true]):=HB rfl rfl (by simp);have k6:opV G false (DH z8 K [.cells [.n k,.n e,.str i,.own 7 p.length p.length,.own 9 f.length f.length,.own 11 m.length m.length,.own 13 x.length x.length,.nils],.arr 5 0 [] true,.arr 5 p.length (dM p) true,.arr 1 0 [] true,.arr 1 f.length (fW f) true,.arr 3 0 [] true,.arr 3 m.length (gQ m) true,.arr 2 0 [] true,.arr 2 x.length (gZ x) true]) (.call Fn.ay) (some [.ptr 1 0,.fn Fn.br [.ptr 4 0]])=some (.own 15 n.length n.length,DH z8 g [.cells [.n k,.n e,.str i,.own 7 p.length p.length,.own 9 f.length f.length,.own 11 m.length m.length,.own 13 x.length x.length,.nils],.arr 5 0 [] true,.arr 5 p.length (dM p) true,.arr 1 0 [] true,.arr 1 f.length (fW f) true,.arr 3 0 [] true,.arr 3 m.length (gQ m) true,.arr 2 0 [] true,.arr 2 x.length (gZ x) true,.arr 2 0 [] true,.arr 2 n.length (iU n) true]):=by rw[D,g6];rfl
 obtain⟨X,y⟩:∃X:aA,X=[.arr 5 0 [] true,.arr 5 p.length (dM p) true,.arr 1 0 [] true,.arr 1 f.length (fW f) true,.arr 3 0 [] true,.arr 3 m.length (gQ m) true,.arr 2 0 [] true,.arr 2 x.length (gZ x) true,.arr 2 0 [] true,.arr 2 n.length (iU n) true]:=⟨_,rfl⟩;obtain⟨d,L⟩:∃d:List AV,d=[.n k,.n e,.str i,.own 7 p.length p.length,.own 9 f.length f.length,.own 11 m.length m.length,.own 13 x.length x.length,.own 15 n.length n.length]:=⟨_,rfl⟩;have t6:bB 1 (DH z8 g [.cells [.n k,.n e,.str i,.own 7 p.length p.length,.own 9 f.length f.length,.own 11 m.length m.length,.own 13 x.length x.length,.nils],.arr 5 0 [] true,.arr 5 p.length (dM p) true,.arr 1 0 [] true,.arr 1 f.length (fW f) true,.arr 3 0 [] true,.arr 3 m.length (gQ m) true,.arr 2 0 [] true,.arr 2 x.length (gZ x) true,.arr 2 0 [] true,.arr 2 n.length (iU n) true]) (.ptr 5 7) (.own 15 n.length n.length)=some (DH z8 g (.cells d::X)):=by rw[y,L];exact HB rfl rfl (by simp)
 have W:d.length=8:=by rw[L];rfl
 have c2:d.all bE=true:=by rw[L];rfl
 have M:∀z,view (DH z g (.cells d::X)) (.agg d)=some (.agg b.cells):=fun z=>by
  have w:∀(l c:Nat)(sz:Nat)(S:List (List AV)),(DH z g (.cells d::X))[l]?=some (.arr sz c S true)->c=S.length->view (DH z g (.cells d::X)) (.own l c c)=some (.sl S):=fun l c sz S h1 h2=>by simp only[view,xV h1 h2,dI]
  have w1:=w 7 p.length 5 (dM p) (by rw[y];rfl) (by simp);have w2:=w 9 f.length 1 (fW f) (by rw[y];rfl) (by simp);have w3:=w 11 m.length 3 (gQ m) (by rw[y];rfl) (by simp);have w4:=w 13 x.length 2 (gZ x) (by rw[y];rfl) (by simp);have w5:=w 15 n.length 2 (iU n) (by rw[y];rfl) (by simp);generalize DH z g (.cells d::X)=H at*;rw[L,j];simp only[view,cV,Bin.cells]at w1 w2 w3 w4 w5⊢;simp[w1,w2,w3,w4,w5]
 have C:opV G false (DH z8 g (.cells d::X)) (.call Fn.be) (some [.ptr 1 0])=some (.n (mZ g),DH z8 g (.cells d::X)):=by
  rw[dV hC];simp only[bO,BT,vX,bX];rfl
 have V:opV G false (DH z8 g (.cells d::X)) (.call Fn.ab) (some [.agg d])=some (.n (oM b),DH z8 g (.cells d::X)):=cU hK (us:=[.agg b.cells]) (by simp only[cV,M]) (by simp only[BR,DR];rw[if_pos c3]) (.inl rfl);have l8:aB 8 true (DH z8 g (.cells d::X)) (.ptr 5 0)=some (.agg d):=yi1 W;have s8:bB 8 (DH z8 g (.cells d::X)) (.ptr 0 0) (.agg d)=some (DH d g (.cells d::X)):=UY rfl W c2;have b3:bB 8 (DH z8 g (.cells d::X)) (.ptr 0 0) (.agg z8)=some (DH z8 g (.cells d::X)):=UY rfl rfl rfl;have f8:aB 8 true (DH d g (.cells d::X)) (.ptr 0 0)=some (.agg d):=UX W;have a3:aB 8 true (DH z8 g (.cells d::X)) (.ptr 0 0)=some (.agg z8):=UX rfl;have v1:view (DH d g (.cells d::X)) (.tup [.agg d,.n 0])=some (rB (b,0)):=by
  simp only[view,cV]at M⊢;rw[M d];rfl
 have v0:view (DH z8 g (.cells d::X)) (.tup [.agg z8,.n 17])=some (rB (bin0,17)):=by rw[view,zp3];rfl
 have Y:=fun r tl=>zh7 (z:=z8) (r:=r) (tl:=tl);have a1:=fun r tl=>zi1 (z:=z8) (r:=r) (tl:=tl);have Z:=zh7 (z:=z8) (r:=g) (tl:=.cells d::X);unfold NO;generalize DH z8 g (.cells d::X)=H1 at*;generalize DH d g (.cells d::X)=H2 at*;have bz:∀st h,opV G st h (.bld z8 []) (some [])=some (.agg z8,h):=fun st h=>by rw[bW rfl];rfl
 by_cases E:mZ g=0
 ·by_cases Q:oM b=0
  ·rw[if_neg (by simp[E,Q])];rw[E]at C;rw[Q]at V;generalize rB (b,0)=b2 at*;simp[Y,Z,a1,k3,t3,k1,t1,k4,t4,k5,t5,k6,t6,C,l8,V,s8,aJ,Rs.bb,cZ,eR,fA,f8,-aB,-aQ];simpa using v1
  ·rw[if_pos (.inr Q)];have d2:eqB (oM b) 0=false:=gM.2 Q;rw[E]at C;generalize rB (bin0,17)=b2 at*;simp[Y,Z,a1,k3,t3,k1,t1,k4,t4,k5,t5,k6,t6,C,l8,V,d2,eB,b3,aJ,Rs.bb,cZ,eR,fA,a3,-aB,-aQ];simpa using v0
 ·rw[if_pos (.inl E)];have d1:eqB (mZ g) 0=false:=gM.2 E;generalize rB (bin0,17)=b2 at*;simp[Y,Z,a1,k3,t3,k1,t1,k4,t4,k5,t5,k6,t6,C,d1,eB,b3,aJ,Rs.bb,cZ,eR,fA,a3,-aB,-aQ];simpa using v0
def sC:List AV->Option AV
 |[.str s]=>if s.length<=1000000 then some (rB (PI 65536 65536 65536 65536 s))else none|_=>none
theorem yi9{G:Gam}(hR:G Fn.ci=some (.gen NT))(h1:G Fn.af=some (.gen nZ))(h2:G Fn.ag=some (.gen qS))(m3:G Fn.aw=some (.gen yN))(m1:G Fn.ar=some (.gen yM))(m4:G Fn.ax=some (.gen yO))(m5:G Fn.av=some (.gen yP))(m6:G Fn.ay=some (.gen yQ))(hC:G Fn.be=some (.gen (bO BT)))(hK:G Fn.ab=some (.pure BR)):PW G Mc.bb Rs.bb Ks.bb sC:=by
 intro i1 r d;unfold sC at d;split at d
 ·rename_i s;split at d
  ·rename_i M;injection d with d;subst d;have Q:opV G false [.cells z8] (.call Fn.ci) (some [.str s])=some (.ptr 1 0,[.cells z8,bX none ⟨s,0⟩]):=by rw[dV hR];rfl
   obtain⟨i,e,p⟩:∃a q,bZ 65536 ⟨s,0⟩=(a,q):=⟨_,_,rfl⟩;have W:e.rest.length<=1000000:=by have:=rU 65536 ⟨s,0⟩ M;rw[p]at this;exact this
   obtain⟨B,k,E⟩:∃a q,rdNum 0 65536 e=(a,q):=⟨_,_,rfl⟩;have X:k.rest.length<=1000000:=by have:=jR 0 65536 e W;rw[E]at this;exact this
   have J:=ze4 (hi:=65536) (by omega) (by omega) k;obtain⟨j,y,u⟩:∃a q,rdNum 0 65536 k=(a,q):=⟨_,_,rfl⟩;have Y:y.rest.length<=1000000:=by have:=jR 0 65536 k X;rw[u]at this;exact this
   rw[u]at J;have wv:IntKind.i64.wrap (j-1)=j-1:=i64_in _ ⟨by simp only at J;omega,by simp only at J;omega⟩;obtain⟨C,l,F⟩:∃a q,bZ 65536 y=(a,q):=⟨_,_,rfl⟩;have b3:l.rest.length<=1000000:=by have:=rU 65536 y Y;rw[F]at this;exact this
   have hB:=xl3 (mh:=65536) (mk:=65536) (me:=65536) (mp:=65536) (by omega) (by omega) ⟨s,0⟩ M;obtain⟨b,L⟩:∃b,b=(rQ 65536 65536 65536 65536 ⟨s,0⟩).1.2:=⟨_,rfl⟩;obtain⟨g,a3⟩:∃r,r=(rQ 65536 65536 65536 65536 ⟨s,0⟩).2:=⟨_,rfl⟩;have hh:(rQ 65536 65536 65536 65536 ⟨s,0⟩).1.1=i:=by simp only[rQ,p]
   rw[<-L]at hB;have a2:=L;have c1:=a3;simp only[rQ,p,E,u,F]at a2 c1;have tl:=fun g3=>yj0 (G:=G) m3 m1 m4 m5 m6 hC hK s C B (j-1) l b3 b g a2 c1 (xd8 hB) g3;have D:=fun tl=>zh9 (G:=G) (z:=z8) (r:=⟨s,0⟩) (tl:=tl) h2 M;rw[p]at D;have Z:=fun tl=>zh8 (G:=G) (z:=z8) (r:=e) (tl:=tl) h1 W;rw[E]at Z;have d2:=fun tl=>zh8 (G:=G) (z:=z8) (r:=k) (tl:=tl) h1 X;rw[u]at d2;have d3:=fun tl=>zh9 (G:=G) (z:=z8) (r:=y) (tl:=tl) h2 Y;rw[F]at d3;have K:[Blk.cells z8,bX none ⟨s,0⟩,.cells [.ptr 1 0],.cells [.fn Fn.af [.ptr 2 0]],.cells [.fn Fn.ag [.ptr 2 0]]]=DH z8 ⟨s,0⟩ []:=rfl;have aN:∀o h,opV G o h (.alloc z8) (some [])=some (.ptr h.length 0,h++[.cells z8]):=fun o h=>by rw[fG rfl];rfl
   have c2:=fun r tl=>yi8 (z:=z8) (r:=r) (tl:=tl);have h3:=fun r tl=>zi1 (z:=z8) (r:=r) (tl:=tl);unfold PI;rw[<-L,<-a3,hh,yj1,aT];have cond:(65536<s.length\/i≠EN\/mZ g≠0\/oM b≠0)↔((65536<s.length\/i≠EN)\/(mZ g≠0\/oM b≠0)):=by rw[or_assoc]
   have a1:∀r tl,aB 8 true (DH z8 r tl) (.ptr 0 0)=some (.agg z8):=fun r tl=>UX rfl;have f1:∀r tl,bB 8 (DH z8 r tl) (.ptr 0 0) (.agg z8)=some (DH z8 r tl):=fun r tl=>UY rfl rfl rfl;have f2:∀h,view h (.tup [.agg z8,.n 17])=some (rB (bin0,17)):=fun h=>by rw[view,zp3];rfl
   have bz:∀o h,opV G o h (.bld z8 []) (some [])=some (.agg z8,h):=fun o h=>by rw[bW rfl];rfl
   by_cases q1:65536<s.length
   ·have v:ltB 65536 (s.length:Int)=true:=cH.2 (by omega);rw[if_pos (.inl q1)];have V:=f2 (DH z8 ⟨s,0⟩ []);have I:=a1 ⟨s,0⟩ [];have U:=f1 ⟨s,0⟩ [];generalize rB (bin0,17)=c3 at*;simp[Ks.bb,aC,Q,bF,K,aW,v,eB,U,aJ,Rs.bb,cZ,eR,fA,I,-aB];simpa using V
   ·have v:ltB 65536 (s.length:Int)=false:=dQ.2 (by omega);by_cases w:i=EN
    ·have S:(i==[98,105,110,97,114,121])=true:=by rw[w];rfl
     have ec:(if 65536<s.length\/i≠EN\/mZ g≠0\/oM b≠0 then(bin0,(17:Int))else(b,0))=(if mZ g≠0\/oM b≠0 then(bin0,17)else(b,0)):=by
      by_cases c:mZ g≠0\/oM b≠0;·rw[if_pos c,if_pos (.inr (.inr c))]
      ·rw[if_neg c,if_neg (by rintro(h|h|h);exact q1 h;exact h w;exact c h)]
     rw[ec];generalize rB (if mZ g≠0\/oM b≠0 then(bin0,(17:Int))else(b,0))=c3 at*;have f3:∀r,(DH z8 r []).length=5:=fun r=>rfl;have g2:∀r,DH z8 r []++[.cells z8]=DH z8 r [.cells z8]:=fun r=>rfl;have s5:bB 8 (DH z8 l [.cells z8]) (.ptr 5 0) (.agg [.n B,.n (j-1),.str C,.nils,.nils,.nils,.nils,.nils])=some (DH z8 l [.cells [.n B,.n (j-1),.str C,.nils,.nils,.nils,.nils,.nils]]):=by
      have:=qM (h:=DH z8 l [.cells z8]) (l:=5) (n:=8) (vs:=z8) (us:=[.n B,.n (j-1),.str C,.nils,.nils,.nils,.nils,.nils]) UW rfl rfl (by omega) rfl;rw[this];rfl
     generalize NO=T at*;simp[Ks.bb,aC,Q,bF,K,aW,v,c2,h3,kA,D,Z,d2,d3,eC,S,wv,f3,g2,eB,s5,-aB];exact⟨tl _,tl _,tl _⟩
    ·have S:(i==[98,105,110,97,114,121])=false:=by simpa[EN]using w
     rw[if_pos (.inr (.inl w))];have V:=f2 (DH z8 e []);have I:=a1 e [];have U:=f1 e [];generalize rB (bin0,17)=c3 at*;simp[Ks.bb,aC,Q,bF,K,aW,v,c2,kA,D,eC,S,eB,U,aJ,Rs.bb,cZ,eR,fA,I,-aB];simpa using V
  ·cases d
 ·cases d
section
open Go.Lib Go.Sort Go.Shelf
set_option maxHeartbeats 4000000 in set_option maxRecDepth 100000 in theorem yx5(b c:Nat)(x y z:Int)(w:World)(hx:w.cell? ⟨b,0,none⟩=some (.int .i64 x))(hy:w.cell? ⟨b,1,none⟩=some (.int .i64 y))(hz:w.cell? ⟨b,2,none⟩=some (.int .i64 z))(_:3<=c):Calls Tryz.prog 210 #[.slice (some ⟨b,0,none⟩) 3 c] w fun e w'=>e=.returned (.int .i64 (orI [x,y,z]))/\w'=w:=by
 by_cases kx:x=0;case' neg=>
  have f1:(x==0)=false:=by simpa using kx
  have f2:(x !=0)=true:=by simpa using kx
  rw[show orI [x,y,z]=x from by simp[orI,kx]];go_enter Tryz.func210,Tryz.ntmps210;go_wp2;refine wp_loop_rounds 4 ?_;rw[rounds_succ];go_wp2;go_ret;exact⟨rfl,rfl⟩
 subst kx;by_cases ky:y=0;case' neg=>
  have f1:(y==0)=false:=by simpa using ky
  have f2:(y !=0)=true:=by simpa using ky
  rw[show orI [0,y,z]=y from by simp[orI,ky]];go_enter Tryz.func210,Tryz.ntmps210;go_wp2;refine wp_loop_rounds 4 ?_;rw[rounds_succ];go_wp2;rw[rounds_succ];go_wp2;go_ret;exact⟨rfl,rfl⟩
 subst ky;by_cases kz:z=0;case' neg=>
  have f1:(z==0)=false:=by simpa using kz
  have f2:(z !=0)=true:=by simpa using kz
  rw[show orI [0,0,z]=z from by simp[orI,kz]];go_enter Tryz.func210,Tryz.ntmps210;go_wp2;refine wp_loop_rounds 4 ?_;rw[rounds_succ];go_wp2;rw[rounds_succ];go_wp2;rw[rounds_succ];go_wp2;go_ret;exact⟨rfl,rfl⟩
 subst kz;rw[show orI [0,0,0]=0 from rfl];go_enter Tryz.func210,Tryz.ntmps210;go_wp2;refine wp_loop_rounds 4 ?_;rw[rounds_succ];go_wp2;rw[rounds_succ];go_wp2;rw[rounds_succ];go_wp2;rw[rounds_succ];go_wp2;go_ret;exact⟨rfl,rfl⟩
set_option maxHeartbeats 4000000 in set_option maxRecDepth 100000 in theorem PA(b c:Nat)(x y z u:Int)(w:World)(hx:w.cell? ⟨b,0,none⟩=some (.int .i64 x))(hy:w.cell? ⟨b,1,none⟩=some (.int .i64 y))(hz:w.cell? ⟨b,2,none⟩=some (.int .i64 z))(hu:w.cell? ⟨b,3,none⟩=some (.int .i64 u))(_:4<=c):Calls Tryz.prog 210 #[.slice (some ⟨b,0,none⟩) 4 c] w fun e w'=>e=.returned (.int .i64 (orI [x,y,z,u]))/\w'=w:=by
 by_cases kx:x=0;case' neg=>
  have f1:(x==0)=false:=by simpa using kx
  have f2:(x !=0)=true:=by simpa using kx
  rw[show orI [x,y,z,u]=x from by simp[orI,kx]];go_enter Tryz.func210,Tryz.ntmps210;go_wp2;refine wp_loop_rounds 5 ?_;rw[rounds_succ];go_wp2;go_ret;exact⟨rfl,rfl⟩
 subst kx;by_cases ky:y=0;case' neg=>
  have f1:(y==0)=false:=by simpa using ky
  have f2:(y !=0)=true:=by simpa using ky
  rw[show orI [0,y,z,u]=y from by simp[orI,ky]];go_enter Tryz.func210,Tryz.ntmps210;go_wp2;refine wp_loop_rounds 5 ?_;rw[rounds_succ];go_wp2;rw[rounds_succ];go_wp2;go_ret;exact⟨rfl,rfl⟩
 subst ky;by_cases kz:z=0;case' neg=>
  have f1:(z==0)=false:=by simpa using kz
  have f2:(z !=0)=true:=by simpa using kz
  rw[show orI [0,0,z,u]=z from by simp[orI,kz]];go_enter Tryz.func210,Tryz.ntmps210;go_wp2;refine wp_loop_rounds 5 ?_;rw[rounds_succ];go_wp2;rw[rounds_succ];go_wp2;rw[rounds_succ];go_wp2;go_ret;exact⟨rfl,rfl⟩
 subst kz;by_cases ku:u=0;case' neg=>
  have f1:(u==0)=false:=by simpa using ku
  have f2:(u !=0)=true:=by simpa using ku
  rw[show orI [0,0,0,u]=u from by simp[orI,ku]];go_enter Tryz.func210,Tryz.ntmps210;go_wp2;refine wp_loop_rounds 5 ?_;rw[rounds_succ];go_wp2;rw[rounds_succ];go_wp2;rw[rounds_succ];go_wp2;rw[rounds_succ];go_wp2;go_ret;exact⟨rfl,rfl⟩
 subst ku;rw[show orI [0,0,0,0]=0 from rfl];go_enter Tryz.func210,Tryz.ntmps210;go_wp2;refine wp_loop_rounds 5 ?_;rw[rounds_succ];go_wp2;rw[rounds_succ];go_wp2;rw[rounds_succ];go_wp2;rw[rounds_succ];go_wp2;rw[rounds_succ];go_wp2;go_ret;exact⟨rfl,rfl⟩
end
section
open Go.Lib Go.Sort Go.Shelf
def EA(s:Seg):List Value:=[.string ⟨s.p.toArray⟩,.string ⟨s.m.toArray⟩,.int .i64 s.k,.int .i64 s.i]
def rF(f:Fl):List Value:=[.string ⟨f.to_.p.toArray⟩,.string ⟨f.to_.m.toArray⟩,.int .i64 f.to_.k,.int .i64 f.to_.i,.string ⟨f.fr.p.toArray⟩,.string ⟨f.fr.m.toArray⟩,.int .i64 f.fr.k,.int .i64 f.fr.i,.int .i64 f.rt]
theorem zU7{C:Cx}(s:Seg):RelL C s.row (EA s).toArray.toList:=.cons (.str _) (.cons (.str _) (.cons (.int _ _) (.cons (.int _ _) .nil)))
theorem xm2{C:Cx}(f:Fl):RelL C f.row (rF f):=.cons (.str _) (.cons (.str _) (.cons (.int _ _) (.cons (.int _ _) (.cons (.str _) (.cons (.str _) (.cons (.int _ _) (.cons (.int _ _) (.cons (.int _ _) .nil))))))))
def xr2:Array Field:=match Tryz.prog.underlying 116 with
 |some (.struct a)=>a|_=>#[]
theorem zY7:Tryz.prog.underlying 116=some (.struct xr2):=by kernel_rfl
theorem zY5:gN Tryz.prog 100 116=some [.s,.s,.i,.i]:=by kernel_rfl
set_option maxHeartbeats 16000000 in set_option maxRecDepth 100000 in theorem yx7(fB:Bs->Bs->Int)(fI:Int->Int->Int)(hs:∀(a b:Bs)W',Calls Tryz.prog 125 #[.string ⟨a.toArray⟩,.string ⟨b.toArray⟩] W' fun e w'=>e=.returned (.int .i64 (fB a b))/\w'=W')(hi:∀(a b:Int)W',Calls Tryz.prog 211 #[.int .i64 a,.int .i64 b] W' fun e w'=>e=.returned (.int .i64 (fI a b))/\w'=W')(p p' m m':Bs)(k k' i i':Int)(hne:¬p=p')(W:World):Calls Tryz.prog 212 #[.agg #[.string ⟨p.toArray⟩,.string ⟨m.toArray⟩,.int .i64 k,.int .i64 i],.agg #[.string ⟨p'.toArray⟩,.string ⟨m'.toArray⟩,.int .i64 k',.int .i64 i']] W fun e w'=>e=.returned (.int .i64 (orI [fB p p',fB m m',fI k k',fI i i']))/\GrW W w':=by
 go_enter Tryz.func212,Tryz.ntmps212;go_wp2;go_region_held3(fun w'=>w'.cell? ⟨W.heap.size,0,none⟩=some (.string ⟨p.toArray⟩)/\w'.cell? ⟨W.heap.size,1,none⟩=some (.string ⟨m.toArray⟩)/\w'.cell? ⟨W.heap.size,2,none⟩=some (.int .i64 k)/\w'.cell? ⟨W.heap.size,3,none⟩=some (.int .i64 i)/\w'.cell? ⟨W.heap.size+1,0,none⟩=some (.string ⟨p'.toArray⟩)/\w'.cell? ⟨W.heap.size+1,1,none⟩=some (.string ⟨m'.toArray⟩)/\w'.cell? ⟨W.heap.size+1,2,none⟩=some (.int .i64 k')/\w'.cell? ⟨W.heap.size+1,3,none⟩=some (.int .i64 i'))(go_keep)(first|(go_at_call 125;refine(hs _ _ _).mono ?_;rintro e w'⟨rfl,rfl⟩)|(go_at_call 211;refine(hi _ _ _).mono ?_;rintro e w'⟨rfl,rfl⟩)|(go_at_call 210;refine(PA _ _ (fB p p') (fB m m') (fI k k') (fI i i') _ (by(try simp only[World.cell?_drew]);rw[jV (by simp)];rfl) (by(try simp only[World.cell?_drew]);rw[jV (by simp)];rfl) (by(try simp only[World.cell?_drew]);rw[jV (by simp)];rfl) (by(try simp only[World.cell?_drew]);rw[jV (by simp)];rfl) (by omega)).mono ?_;rintro e w'⟨rfl,rfl⟩));all_goals go_wp2
 all_goals go_ret
 all_goals exact⟨rfl,by repeat(first|exact GrW.refl _|apply GrW.alloc|apply GrW.drew)⟩
set_option maxHeartbeats 16000000 in set_option maxRecDepth 100000 in theorem yx8(fB:Bs->Bs->Int)(fI:Int->Int->Int)(hs:∀(a b:Bs)W',Calls Tryz.prog 125 #[.string ⟨a.toArray⟩,.string ⟨b.toArray⟩] W' fun e w'=>e=.returned (.int .i64 (fB a b))/\w'=W')(hi:∀(a b:Int)W',Calls Tryz.prog 211 #[.int .i64 a,.int .i64 b] W' fun e w'=>e=.returned (.int .i64 (fI a b))/\w'=W')(p m m':Bs)(k k' i i':Int)(hne:¬m=m')(W:World):Calls Tryz.prog 212 #[.agg #[.string ⟨p.toArray⟩,.string ⟨m.toArray⟩,.int .i64 k,.int .i64 i],.agg #[.string ⟨p.toArray⟩,.string ⟨m'.toArray⟩,.int .i64 k',.int .i64 i']] W fun e w'=>e=.returned (.int .i64 (orI [fB p p,fB m m',fI k k',fI i i']))/\GrW W w':=by
 go_enter Tryz.func212,Tryz.ntmps212;go_wp2;go_region_held3(fun w'=>w'.cell? ⟨W.heap.size,0,none⟩=some (.string ⟨p.toArray⟩)/\w'.cell? ⟨W.heap.size,1,none⟩=some (.string ⟨m.toArray⟩)/\w'.cell? ⟨W.heap.size,2,none⟩=some (.int .i64 k)/\w'.cell? ⟨W.heap.size,3,none⟩=some (.int .i64 i)/\w'.cell? ⟨W.heap.size+1,0,none⟩=some (.string ⟨p.toArray⟩)/\w'.cell? ⟨W.heap.size+1,1,none⟩=some (.string ⟨m'.toArray⟩)/\w'.cell? ⟨W.heap.size+1,2,none⟩=some (.int .i64 k')/\w'.cell? ⟨W.heap.size+1,3,none⟩=some (.int .i64 i'))(go_keep)(first|(go_at_call 125;refine(hs _ _ _).mono ?_;rintro e w'⟨rfl,rfl⟩)|(go_at_call 211;refine(hi _ _ _).mono ?_;rintro e w'⟨rfl,rfl⟩)|(go_at_call 210;refine(PA _ _ (fB p p) (fB m m') (fI k k') (fI i i') _ (by(try simp only[World.cell?_drew]);rw[jV (by simp)];rfl) (by(try simp only[World.cell?_drew]);rw[jV (by simp)];rfl) (by(try simp only[World.cell?_drew]);rw[jV (by simp)];rfl) (by(try simp only[World.cell?_drew]);rw[jV (by simp)];rfl) (by omega)).mono ?_;rintro e w'⟨rfl,rfl⟩));all_goals go_wp2
 all_goals go_ret
 all_goals exact⟨rfl,by repeat(first|exact GrW.refl _|apply GrW.alloc|apply GrW.drew)⟩
set_option maxHeartbeats 16000000 in set_option maxRecDepth 100000 in theorem yx9(fB:Bs->Bs->Int)(fI:Int->Int->Int)(hs:∀(a b:Bs)W',Calls Tryz.prog 125 #[.string ⟨a.toArray⟩,.string ⟨b.toArray⟩] W' fun e w'=>e=.returned (.int .i64 (fB a b))/\w'=W')(hi:∀(a b:Int)W',Calls Tryz.prog 211 #[.int .i64 a,.int .i64 b] W' fun e w'=>e=.returned (.int .i64 (fI a b))/\w'=W')(p m:Bs)(k k' i i':Int)(hne:¬k=k')(W:World):Calls Tryz.prog 212 #[.agg #[.string ⟨p.toArray⟩,.string ⟨m.toArray⟩,.int .i64 k,.int .i64 i],.agg #[.string ⟨p.toArray⟩,.string ⟨m.toArray⟩,.int .i64 k',.int .i64 i']] W fun e w'=>e=.returned (.int .i64 (orI [fB p p,fB m m,fI k k',fI i i']))/\GrW W w':=by
 go_enter Tryz.func212,Tryz.ntmps212;go_wp2;go_region_held3(fun w'=>w'.cell? ⟨W.heap.size,0,none⟩=some (.string ⟨p.toArray⟩)/\w'.cell? ⟨W.heap.size,1,none⟩=some (.string ⟨m.toArray⟩)/\w'.cell? ⟨W.heap.size,2,none⟩=some (.int .i64 k)/\w'.cell? ⟨W.heap.size,3,none⟩=some (.int .i64 i)/\w'.cell? ⟨W.heap.size+1,0,none⟩=some (.string ⟨p.toArray⟩)/\w'.cell? ⟨W.heap.size+1,1,none⟩=some (.string ⟨m.toArray⟩)/\w'.cell? ⟨W.heap.size+1,2,none⟩=some (.int .i64 k')/\w'.cell? ⟨W.heap.size+1,3,none⟩=some (.int .i64 i'))(go_keep)(first|(go_at_call 125;refine(hs _ _ _).mono ?_;rintro e w'⟨rfl,rfl⟩)|(go_at_call 211;refine(hi _ _ _).mono ?_;rintro e w'⟨rfl,rfl⟩)|(go_at_call 210;refine(PA _ _ (fB p p) (fB m m) (fI k k') (fI i i') _ (by(try simp only[World.cell?_drew]);rw[jV (by simp)];rfl) (by(try simp only[World.cell?_drew]);rw[jV (by simp)];rfl) (by(try simp only[World.cell?_drew]);rw[jV (by simp)];rfl) (by(try simp only[World.cell?_drew]);rw[jV (by simp)];rfl) (by omega)).mono ?_;rintro e w'⟨rfl,rfl⟩));all_goals go_wp2
 all_goals go_ret
 all_goals exact⟨rfl,by repeat(first|exact GrW.refl _|apply GrW.alloc|apply GrW.drew)⟩
set_option maxHeartbeats 16000000 in set_option maxRecDepth 100000 in theorem yy0(fB:Bs->Bs->Int)(fI:Int->Int->Int)(hs:∀(a b:Bs)W',Calls Tryz.prog 125 #[.string ⟨a.toArray⟩,.string ⟨b.toArray⟩] W' fun e w'=>e=.returned (.int .i64 (fB a b))/\w'=W')(hi:∀(a b:Int)W',Calls Tryz.prog 211 #[.int .i64 a,.int .i64 b] W' fun e w'=>e=.returned (.int .i64 (fI a b))/\w'=W')(p m:Bs)(k i i':Int)(hne:¬i=i')(W:World):Calls Tryz.prog 212 #[.agg #[.string ⟨p.toArray⟩,.string ⟨m.toArray⟩,.int .i64 k,.int .i64 i],.agg #[.string ⟨p.toArray⟩,.string ⟨m.toArray⟩,.int .i64 k,.int .i64 i']] W fun e w'=>e=.returned (.int .i64 (orI [fB p p,fB m m,fI k k,fI i i']))/\GrW W w':=by
 go_enter Tryz.func212,Tryz.ntmps212;go_wp2;go_region_held3(fun w'=>w'.cell? ⟨W.heap.size,0,none⟩=some (.string ⟨p.toArray⟩)/\w'.cell? ⟨W.heap.size,1,none⟩=some (.string ⟨m.toArray⟩)/\w'.cell? ⟨W.heap.size,2,none⟩=some (.int .i64 k)/\w'.cell? ⟨W.heap.size,3,none⟩=some (.int .i64 i)/\w'.cell? ⟨W.heap.size+1,0,none⟩=some (.string ⟨p.toArray⟩)/\w'.cell? ⟨W.heap.size+1,1,none⟩=some (.string ⟨m.toArray⟩)/\w'.cell? ⟨W.heap.size+1,2,none⟩=some (.int .i64 k)/\w'.cell? ⟨W.heap.size+1,3,none⟩=some (.int .i64 i'))(go_keep)(first|(go_at_call 125;refine(hs _ _ _).mono ?_;rintro e w'⟨rfl,rfl⟩)|(go_at_call 211;refine(hi _ _ _).mono ?_;rintro e w'⟨rfl,rfl⟩)|(go_at_call 210;refine(PA _ _ (fB p p) (fB m m) (fI k k) (fI i i') _ (by(try simp only[World.cell?_drew]);rw[jV (by simp)];rfl) (by(try simp only[World.cell?_drew]);rw[jV (by simp)];rfl) (by(try simp only[World.cell?_drew]);rw[jV (by simp)];rfl) (by(try simp only[World.cell?_drew]);rw[jV (by simp)];rfl) (by omega)).mono ?_;rintro e w'⟨rfl,rfl⟩));all_goals go_wp2
 all_goals go_ret
 all_goals exact⟨rfl,by repeat(first|exact GrW.refl _|apply GrW.alloc|apply GrW.drew)⟩
set_option maxHeartbeats 4000000 in set_option maxRecDepth 100000 in theorem yy1(p m:Bs)(k i:Int)(W:World):Calls Tryz.prog 212 #[.agg #[.string ⟨p.toArray⟩,.string ⟨m.toArray⟩,.int .i64 k,.int .i64 i],.agg #[.string ⟨p.toArray⟩,.string ⟨m.toArray⟩,.int .i64 k,.int .i64 i]] W fun e w'=>e=.returned (.int .i64 0)/\GrW W w':=by
 go_enter Tryz.func212,Tryz.ntmps212;go_wp2;go_ret;exact⟨rfl,by repeat(first|exact GrW.refl _|apply GrW.alloc|apply GrW.drew)⟩
theorem yx6(x y:Seg)(W:World):Calls Tryz.prog 212 #[.agg (EA x).toArray,.agg (EA y).toArray] W fun e j=>e=.returned (.int .i64 (pP x y))/\GrW W j:=by
 have q:∀(a b:Bs)c,Calls Tryz.prog 125 #[.string ⟨a.toArray⟩,.string ⟨b.toArray⟩] c fun e j=>e=.returned (.int .i64 (Lib.compareBytes a b))/\j=c:=fun a b c=>by
  have h:Calls Tryz.prog 125 #[.string ⟨a.toArray⟩,.string ⟨b.toArray⟩] c fun e j=>e=.returned (.int .i64 (Lib.compareBytes (ByteArray.mk a.toArray).data.toList (ByteArray.mk b.toArray).data.toList))/\j=c:=Tryz.strings_Compare ⟨a.toArray⟩ ⟨b.toArray⟩ c;simpa using h
 have o:∀(a b:Int)c,Calls Tryz.prog 211 #[.int .i64 a,.int .i64 b] c fun e j=>e=.returned (.int .i64 (Lib.compareInt a b))/\j=c:=fun a b c=>WX a b c;obtain⟨p,m,k,i⟩:=x;obtain⟨B,l,g,d⟩:=y;by_cases s:p=B
 ·subst s;by_cases u:m=l
  ·subst u;by_cases v:k=g
   ·subst v;by_cases w:i=d
    ·subst w;rw[show pP ⟨p,m,k,i⟩ ⟨p,m,k,i⟩=0 from if_pos rfl];exact yy1 p m k i W
    ·rw[show pP ⟨p,m,k,i⟩ ⟨p,m,k,d⟩=_ from if_neg (fun e=>w (by injection e))];exact yy0 _ _ q o p m k i d w W
   ·rw[show pP ⟨p,m,k,i⟩ ⟨p,m,g,d⟩=_ from if_neg (fun e=>v (by injection e))];exact yx9 _ _ q o p m k g i d v W
  ·rw[show pP ⟨p,m,k,i⟩ ⟨p,l,g,d⟩=_ from if_neg (fun e=>u (by injection e))];exact yx8 _ _ q o p m l k g i d u W
 ·rw[show pP ⟨p,m,k,i⟩ ⟨B,l,g,d⟩=_ from if_neg (fun e=>s (by injection e))];exact yx7 _ _ q o p B m l k g i d s W
end
def Ks.b7:List Nat:=[0,1,2,3,4,5,9,10,11,12]
def Rs.b7:List RV:=[]
def Dl.b7:List (List Nat):=[[9]]
def Mc.b7_L0:MC:=.s [zb 13 .lss 12 11] (.seq (.ite (.t 13) .skip (.exit 0)) (.b 1 (.s [zi 14 4 10 12,zL 15 4 14,Ka 9 (.alloc [.str [],.str [],.n 0,.n 0]),zs 4 9 15] (.reg [zf 16 1 4,zl 17 16,zL 18 4 5,zL 19 4 9,zm 20 3,iz 21 (.bld [.str [],.str [],.n 0,.n 0,.str [],.str [],.n 0,.n 0,.n 0] [(0,4),(4,4),(8,1)]) [.t 18,.t 19,.t 20],nz (.mapupA [.s,.s,.i,.i,.s,.s,.i,.i,.i]) [.t 17,.t 21,.c (.T)]])) (.reg [zc 22 .add 12 1,zM 12 22])))
def Mc.b7:MC:=.s [Kx 4 0,Kx 5 1] (.s [zM 10 2,Kn 11 1 10,Kc 12 0] (.blk 0 (.loop [9] Mc.b7_L0)))
def Ks.bl:List Nat:=[0,1,2,3,5,6,11,12,13]
def Rs.bl:List RV:=[]
def Dl.bl:List (List Nat):=[[5,6]]
def Ow._origin_flows__copy:List Nat:=[1000084,1000291]
def Mc.bl_L0:MC:=.s [zb 14 .lss 13 12] (.seq (.ite (.t 14) .skip (.exit 0)) (.b 1 (.s [zi 15 4 11 13,zL 16 4 15,Ka 5 (.alloc [.str [],.str [],.n 0,.n 0]),zs 4 5 16] (.s [zL 17 4 5,Ka 6 (.alloc [.str [],.str [],.n 0,.n 0]),zs 4 6 17] (.s [zf 18 2 3,zl 19 18,iz 20 (.iadr 1) [.t 19,.i 0],zl 21 20,zf 22 0 6,zs 1 22 21] (.reg [zL 23 2 2,zL 24 4 5,zL 25 4 6,Zb 26 4 [.t 25],iz 27 (.callg Fn.b7) [.t 23,.t 24,.t 26,.i 1]])))) (.reg [zc 28 .add 13 1,zM 13 28])))
def Mc.bl:MC:=.s [Kx 2 0,Kx 3 1] (.s [zf 7 0 2,zl 8 7,zf 9 5 3,zl 10 9,kz 11 (.callg Fn.a8) [.t 8,.t 10],Kn 12 1 11,Kc 13 0] (.blk 0 (.loop [5,6] Mc.bl_L0)))
def flK:List EK:=[.s,.s,.i,.i,.s,.s,.i,.i,.i]
def BZ:List AV->aA->Option (AV×aA)
 |[.agg [.ptr _ 0,.map m],.agg i,.tsl [e],.n g],h=>match rE i,rE e,h[m]? with
  |some a,some b,some (.map c)=>(kZ flK (Fl.row ⟨a,b,g⟩) (.T) c).map fun d=>(.tup [],h.set m (.map d))|_,_,_=>none
 |_,_=>none
theorem xz7{n:Nat}{a:List (Nat×AV)}{A T0:aA}(b:A.length<=n):∃T,trunc n a (A++T0)=A++T:=by
 unfold trunc;split;·exact⟨T0.take (n-A.length),by rw[uN];rw[lN b]⟩
 ·exact⟨T0,rfl⟩
theorem tC{G:Gam}{e:List MK}{Q:aS}{b:List (Nat×AV)}{d:List Nat}{a c:MC}{n:Nat}{A T0:aA}(i:a=c)(j:A.length<=n)(k:∀T,goM G c (.loop d a n::e) Q [] (aY d b) (A++T))(hd:d.contains 999999=false:=by rfl):cY G d a n e Q b (A++T0):=by
 obtain⟨T,g⟩:=@xz7 n (aY d b) A T0 j;refine bQ i ?_ hd;rw[g];exact k T
theorem yn8(G:Gam):∀j h r l,bA h.length j=true->bG h.length h=true->BZ j h=some (r,l)->wpM G Mc.b7 (iO h.length Rs.b7 r l) [] (aC Ks.b7 j) h:=by
 intro j h r l _ V d;unfold BZ at d;split at d
 ·rename_i t m tz fr i h0;split at d
  ·rename_i a b q S U hm;simp only[bS,aR]at d;obtain⟨k,W,rfl,rfl⟩:=d;obtain rfl:=wW S;obtain rfl:=wW U;have w:m<h.length:=(aF.1 hm).1;have C:∀c,opV G c h .box (some [.agg [.ptr t 0,.map m]])=some (.ptr h.length 0,h++[.cells [.ptr t 0,.map m]]):=fun c=>jN (h:=h) (v:=.agg [.ptr t 0,.map m]) (by simp[AV.cells]);have D:∀c,opV G c (h++[.cells [.ptr t 0,.map m]]) .box (some [.agg a.row])=some (.ptr (h.length+1) 0,h++[.cells [.ptr t 0,.map m],.cells a.row]):=fun c=>by
    have:=jN (G:=G) (s:=c) (h:=h++[Blk.cells [.ptr t 0,.map m]]) (v:=.agg a.row) (by simp[AV.cells,Seg.row]);simpa using this
   generalize g:h++[Blk.cells [.ptr t 0,.map m],.cells a.row]=A at*;have v:A.length=h.length+2:=by rw[<-g];simp
   have y:∀s,trunc (h.length+2) s A=A:=fun s=>fJ (by rw[v]);have L:A[h.length]?=some (.cells [.ptr t 0,.map m]):=by rw[<-g];simp
   have M:A[h.length+1]?=some (.cells a.row):=by rw[<-g];simp
   have u:A[m]?=some (.map q):=by rw[<-g,aX w];exact hm
   generalize e:A++[Blk.cells b.row]=B at*;have l3:∀z,bB 4 (A++[.cells z]) (.ptr A.length 0) (.agg b.row)=if z.length=4 then some B else bB 4 (A++[.cells z]) (.ptr A.length 0) (.agg b.row):=fun z=>by
    split
    ·rename_i o;rw[<-e,aQ];rcases z with _|⟨z0,_|⟨z1,_|⟨z2,_|⟨z3,_|⟨z4,z⟩⟩⟩⟩⟩<;>first|(simp at o;done)|simp[AV.cells,Seg.row,bE,bF]
    ·rfl
   have F:aB 1 false B (.ptr h.length 1)=some (.map m):=by
    have:B[h.length]?=some (.cells [.ptr t 0,.map m]):=by rw[<-e,aX (by omega)];exact L
    simp[aB,this,cut,aD]
   have I:aB 4 true B (.ptr (h.length+1) 0)=some (.agg a.row):=by
    have:B[h.length+1]?=some (.cells a.row):=by rw[<-e,aX (by omega)];exact M
    simp[aB,this,cut,aD,Seg.row]
   have J:aB 4 true B (.ptr A.length 0)=some (.agg b.row):=by
    have:B[A.length]?=some (.cells b.row):=by rw[<-e];simp
    simp[aB,this,cut,aD,Seg.row]
   have E:B[m]?=some (.map q):=by rw[<-e,aX (aF.1 u).1];exact u
   have K:∀c,opV G c B (.bld [.str [],.str [],.n 0,.n 0,.str [],.str [],.n 0,.n 0,.n 0] [(0,4),(4,4),(8,1)]) (some [.agg a.row,.agg b.row,.n i])=some (.agg (Fl.row ⟨a,b,i⟩),B):=fun c=>by rw[bW rfl];rfl
   have p:∀c,opV G c B (.mapupA flK) (some [.map m,.agg (Fl.row ⟨a,b,i⟩),.T])=some (.junk,B.set m (.map k)):=fun c=>by
    have:(⟨a,b,i⟩:Fl).row.length=flK.length:=rfl;have Q:rP flK (Fl.row ⟨a,b,i⟩)=true:=rfl;rw[fG rfl];simp only[bC,Q,this,frz,view,owns,dC,E,W,and_self,aM,dI]
   rw[aT];simp[Mc.b7,aC,Ks.b7,C,D];refine dT ?_;simp only[aY];rw[show A.length=h.length+2 from v,y];refine bQ (Mc.b7_L0.eq_1) ?_;simp only[aY];rw[y];have Y:bN 4 A (.tsl [b.row]) (.n 0)=some (.fptr b.row 0):=rfl;have Z:aB 4 true A (.fptr b.row 0)=some (.agg b.row):=rfl;have a1:ltB 0 1=true:=rfl;have a3:ltB 1 1=false:=rfl;have a2:IntKind.i64.wrap 1=1:=rfl;have s3:∀z:List AV,z.length=4->bB 4 (A++[.cells z]) (.ptr A.length 0) (.agg b.row)=some B:=fun z o=>by rw[l3 z,if_pos o]
   have s4:=s3 [AV.str [],AV.str [],AV.int IntKind.i64 0,AV.int IntKind.i64 0] rfl;simp only[flK]at p;simp[a1,Y,Z,s4,F,I,J,K,p,a2,-aQ,-aB];have X:B.set m (.map k)=h.set m (.map k)++[.cells [.ptr t 0,.map m],.cells a.row,.cells b.row]:=by rw[<-e,<-g,jT,oI _ _ w];rfl
   rw[X];refine tC (Mc.b7_L0.eq_1) (by simp) fun T=>?_;simp only[aY];simp;refine⟨trivial,rfl,by simp,KU,rfl,?_⟩;rw[gT];exact KX V rfl
  ·cases d
 ·cases d
theorem oT{G:Gam}{c:Bool}{h:aA}{f:FuncId}{F:List AV->aA->Option (AV×aA)}{a:List AV}(b:G f=some (.gen F)):opV G c h (.callg f) (some a)=F a h:=by rw[fG rfl];simp only[bC,dE,b]
def Seg.at_(s:Seg)(q:Bs):Seg:={s with p:=q}
def uT(q:Bs):List Seg->List (AV×AV)->Option (List (AV×AV))
 |[],a=>some a|s::b,a=>(kZ flK (Fl.row ⟨s,s.at_ q,1⟩) (.T) a).bind (uT q b)
def zU:List (List AV)->Option (List Seg)
 |[]=>some []|r::a=>match rE r,zU a with
  |some s,some b=>some (s::b)|_,_=>none
theorem zt5:∀{b:List (List AV)}{a:List Seg},zU b=some a->b=a.map Seg.row
 |[],a,h=>by simp only[zU,aE]at h;subst h;rfl|r::b,a,h=>by
  simp only[zU]at h;split at h
  ·rename_i s e c d;obtain rfl:=wW c;obtain rfl:=zt5 d;injection h with h;subst h;rfl
  ·cases h
open Classical in def CF(g:List AV->aA->Option (AV×aA)):List AV->aA->Option (AV×aA)
 |[.agg [.ptr t 0,.map m],.agg [a,b,.sl ([.str q]::rd),c,d,.str p]],h=>match g [.ptr t 0,.str p] (h++[.cells [.ptr t 0,.map m],.cells [a,b,.sl ([.str q]::rd),c,d,.str p]]),h[m]? with
  |some (.sl k,H),some (.map i)=>match zU k with
   |some e=>if H=h++[.cells [.ptr t 0,.map m],.cells [a,b,.sl ([.str q]::rd),c,d,.str p]]/\e.length<big/\([a,b,c,d].all bE)=true then(uT q e i).map fun j=>(.tup [],h.set m (.map j))else none|none=>none
  |_,_=>none
 |_,_=>none
theorem zs4{G:Gam}(F:G Fn.b7=some (.gen BZ)){h:aA}{m t:Nat}{q p:Bs}{x0 x1 x3 x4:AV}{rd:List (List AV)}{segs:List Seg}{a0 a1:AV}(l:m<h.length)(X:segs.length<big){es':List (AV×AV)}{Q:aS}(E:∀L M T,Q .normal L M (h.set m (.map es')++T)):∀(i a:List Seg)(b:List (AV×AV))(w y:AV)(T:aA),segs=a++i->uT q i b=some es'->cY G [5,6] Mc.bl_L0 (h.length+2) [MK.blk 0] Q [(0,a0),(1,a1),(2,.ptr h.length 0),(3,.ptr (h.length+1) 0),(5,w),(6,y),(11,.sl (segs.map Seg.row)),(12,.n (segs.length:Int)),(13,.n (a.length:Int))] ((h.set m (.map b)++[.cells [.ptr t 0,.map m],.cells [x0,x1,.sl ([.str q]::rd),x3,x4,.str p]])++T)
 |[],a,b,w,y,T,g,o=>by
  obtain rfl:b=es':=by simpa[uT]using o
  have v:ltB (a.length:Int) (segs.length:Int)=false:=by rw[g];simp[ltB]
  refine tC (Mc.bl_L0.eq_1) (by simp) fun T=>?_;simp[aY,v];exact E _ _ _|s::i,a,b,w,y,T,g,o=>by
  simp only[uT,zN]at o;obtain⟨k,Y,Z⟩:=o;have b3:segs.length=a.length+i.length+1:=by rw[g];simp;omega
  have ih:=zs4 (t:=t) (q:=q) (p:=p) (x0:=x0) (x1:=x1) (x3:=x3) (x4:=x4) (rd:=rd) (a0:=a0) (a1:=a1) F l X E i (a++[s]) k;have v:ltB (a.length:Int) (segs.length:Int)=true:=cH.2 (by omega);have hw:=iJ (i:=a.length) (by omega);have W:(segs.map Seg.row)[a.length]?=some s.row:=by rw[g];simp
  refine tC (Mc.bl_L0.eq_1) (by simp) fun T=>?_;simp only[aY];generalize e:(h.set m (.map b)++[.cells [.ptr t 0,.map m],.cells [x0,x1,.sl ([.str q]::rd),x3,x4,.str p]])++T=A at*;have S:A[h.length]?=some (.cells [.ptr t 0,.map m]):=by rw[<-e];simp
  have U:A[h.length+1]?=some (.cells [x0,x1,.sl ([.str q]::rd),x3,x4,.str p]):=by rw[<-e];simp
  have V:A[m]?=some (.map b):=by rw[<-e,jT,aX (by simpa using l),fL l]
  generalize c:A++[Blk.cells s.row]=B at*;generalize u:B++[Blk.cells s.row]=C at*;generalize d:B++[Blk.cells (s.at_ q).row]=D at*;have i1:bN 4 A (.sl (segs.map Seg.row)) (.n (a.length:Int))=some (.fptr s.row 0):=by
   simp only[bN];rw[if_pos (by omega),qV,W];rfl
  have i2:aB 4 true A (.fptr s.row 0)=some (.agg s.row):=rfl;have s4:bB 4 (A++[.cells [AV.str [],AV.str [],AV.int IntKind.i64 0,AV.int IntKind.i64 0]]) (.ptr A.length 0) (.agg s.row)=some B:=by rw[<-c,aQ];simp[AV.cells,Seg.row,bE,bF]
  have l5:aB 4 true B (.ptr A.length 0)=some (.agg s.row):=by
   have:B[A.length]?=some (.cells s.row):=by rw[<-c];simp
   simp[aB,this,cut,aD,Seg.row]
  have s5:bB 4 (B++[.cells [AV.str [],AV.str [],AV.int IntKind.i64 0,AV.int IntKind.i64 0]]) (.ptr B.length 0) (.agg s.row)=some C:=by rw[<-u,aQ];simp[AV.cells,Seg.row,bE,bF]
  have b2:A.length<B.length:=by rw[<-c];simp
  have b1:h.length+2<=A.length:=by rw[<-e];simp
  have l6:aB 1 false C (.ptr (h.length+1) 2)=some (.sl ([.str q]::rd)):=by
   have:C[h.length+1]?=some (.cells [x0,x1,.sl ([.str q]::rd),x3,x4,.str p]):=by rw[<-u,<-c,aX (by simp;omega),aX (by omega)];exact U
   simp[aB,this,cut,aD]
  have i7:bN 1 C (.sl ([.str q]::rd)) (.n 0)=some (.fptr [.str q] 0):=rfl;have l7:aB 1 false C (.fptr [.str q] 0)=some (.str q):=rfl;have s6:bB 1 C (.ptr B.length 0) (.str q)=some D:=by rw[<-d,<-u,aQ];simp[AV.cells,Seg.row,Seg.at_,bE,bF]
  have l8:aB 2 true D (.ptr h.length 0)=some (.agg [.ptr t 0,.map m]):=by
   have:D[h.length]?=some (.cells [.ptr t 0,.map m]):=by rw[<-d,<-c,aX (by simp;omega),aX (by omega)];exact S
   simp[aB,this,cut,aD]
  have l9:aB 4 true D (.ptr A.length 0)=some (.agg s.row):=by
   have:D[A.length]?=some (.cells s.row):=by rw[<-d,aX (by omega),<-c];simp
   simp[aB,this,cut,aD,Seg.row]
  have l10:aB 4 true D (.ptr B.length 0)=some (.agg (s.at_ q).row):=by
   have:D[B.length]?=some (.cells (s.at_ q).row):=by rw[<-d];simp
   simp[aB,this,cut,aD,Seg.row]
  have I:∀j,opV G j D (.bsl false 4) (some [.agg (s.at_ q).row])=some (.tsl [(s.at_ q).row],D):=fun j=>by
   simp[Seg.row,Seg.at_];exact⟨rfl,rfl⟩
  have K:D[m]?=some (.map b):=by rw[<-d,<-c,aX (by simp;omega),aX (by omega)];exact V
  have J:∀j,opV G j D (.callg Fn.b7) (some [.agg [.ptr t 0,.map m],.agg s.row,.tsl [(s.at_ q).row],.n 1])=some (.tup [],D.set m (.map k)):=fun j=>by
   rw[oT F];simp only[BZ,zt3,K,Y,dI]
  simp[v,hw,i1,i2,s4,l5,s5,l6,i7,l7,s6,l8,l9,l10,I,J,-aQ,-aB];have a2:D.set m (.map k)=(h.set m (.map k)++[.cells [.ptr t 0,.map m],.cells [x0,x1,.sl ([.str q]::rd),x3,x4,.str p]])++(T++[.cells s.row,.cells (s.at_ q).row]):=by
   rw[<-d,<-c,<-e];simp only[jT];rw[oI _ _ (by simpa using l),mN];rfl
  rw[a2];have a3:=ih (.ptr A.length 0) (.ptr B.length 0) (T++[.cells s.row,.cells (s.at_ q).row]) (by rw[g];simp) Z;simpa using a3
theorem yA1(G:Gam)(u:List AV->aA->Option (AV×aA))(L:G Fn.b7=some (.gen BZ))(V:G Fn.a8=some (.gen u)):∀k h r l,bA h.length k=true->bG h.length h=true->CF u k h=some (r,l)->wpM G Mc.bl (iO h.length Rs.bl r l) [] (aC Ks.bl k) h:=by
 intro k h r l _ Q a;unfold CF at a;split at a
 ·rename_i t m c d q rd g j p Z;split at a
  ·rename_i a2 H v K hm;split at a
   ·rename_i s hd;split at a
    ·rename_i M;obtain⟨rfl,S,a1⟩:=M;obtain rfl:=zt5 hd;simp only[bS,aR]at a;obtain⟨w,U,rfl,rfl⟩:=a;have B:m<h.length:=(aF.1 hm).1;have C:∀b,opV G b h .box (some [.agg [.ptr t 0,.map m]])=some (.ptr h.length 0,h++[.cells [.ptr t 0,.map m]]):=fun b=>jN (h:=h) (v:=.agg [.ptr t 0,.map m]) (by simp[AV.cells]);have D:∀b,opV G b (h++[.cells [.ptr t 0,.map m]]) .box (some [.agg [c,d,.sl ([.str q]::rd),g,j,.str p]])=some (.ptr (h.length+1) 0,h++[.cells [.ptr t 0,.map m],.cells [c,d,.sl ([.str q]::rd),g,j,.str p]]):=fun b=>by
      have:=jN (G:=G) (s:=b) (h:=h++[Blk.cells [.ptr t 0,.map m]]) (v:=.agg [c,d,.sl ([.str q]::rd),g,j,.str p]) (by simp[AV.cells]);simp
     have y:=zs4 (q:=q) (p:=p) (t:=t) (x0:=c) (x1:=d) (x3:=g) (x4:=j) (rd:=rd) (segs:=s) (a0:=.agg [.ptr t 0,.map m]) (a1:=.agg [c,d,.sl ([.str q]::rd),g,j,.str p]) L B S (es':=w) (Q:=iO h.length Rs.bl (.tup []) (h.set m (.map w))) (fun X Y T=>⟨trivial,rfl,by simp,KU,rfl,by rw[gT];exact KX Q rfl⟩) s [] v .junk .junk [] rfl U;have W:h.set m (.map v)=h:=by
      apply kL;intro i;by_cases e:m=i;·subst e;rw[fL B,hm]
      ·rw[eY e]
     rw[W,iR]at y;generalize o:h++[Blk.cells [.ptr t 0,.map m],.cells [c,d,.sl ([.str q]::rd),g,j,.str p]]=A at*;have J:A.length=h.length+2:=by rw[<-o];simp
     have F:aB 1 false A (.ptr h.length 0)=some (.ptr t 0):=by
      have:A[h.length]?=some (.cells [.ptr t 0,.map m]):=by rw[<-o];simp
      simp[aB,this,cut,aD]
     have I:aB 1 false A (.ptr (h.length+1) 5)=some (.str p):=by
      have:A[h.length+1]?=some (.cells [c,d,.sl ([.str q]::rd),g,j,.str p]):=by rw[<-o];simp
      simp[aB,this,cut,aD]
     have E:∀b,opV G b A (.callg Fn.a8) (some [.ptr t 0,.str p])=some (.sl (s.map Seg.row),A):=fun b=>by rw[oT V,K]
     rw[aT];simp[Mc.bl,aC,Ks.bl,C,D,F,I,E,-aB];simpa[J]using y
    ·cases a
   ·cases a
  ·cases a
 ·cases a
def sgK:List EK:=[.s,.s,.i,.i]
def AU:Nat->List Seg->List (AV×AV)->Option (List (AV×AV))
 |_,[],a=>some a|i,s::b,a=>(kZ sgK s.row (.n (i:Int)) a).bind (AU (i+1) b)
theorem xz8{n:Nat}{c:List (Nat×AV)}{A T0:aA}(d:A.length<=n):∃T,trunc n c (A++T0)=A++T/\∀b∈T,b∈T0:=by
 unfold trunc;split;·exact⟨T0.take (n-A.length),by rw[uN];rw[lN d],fun b a=>sN a⟩
 ·exact⟨T0,rfl,fun b a=>a⟩
theorem YC{G:Gam}{ks:List MK}{Q:aS}{fr:List (Nat×AV)}{d:List Nat}{a a':MC}{n:Nat}{A T0:aA}(e:a=a')(g:A.length<=n)(i:∀T,(∀b∈T,b∈T0)->goM G a' (.loop d a n::ks) Q [] (aY d fr) (A++T))(hd:d.contains 999999=false:=by rfl):cY G d a n ks Q fr (A++T0):=by
 obtain⟨T,c,hm⟩:=@xz8 n (aY d fr) A T0 g;refine bQ e ?_ hd;rw[c];exact i T hm
theorem zx0{G:Gam}{A:aA}{q mp:Nat}{segs:List Seg}{a0 a1 a4 a5 a6 a10 a11 a38 a49 a65 a88:AV}(w:A[q]?=some (.cells [.map mp]))(k:mp<A.length)(M:mp≠q)(hn:segs.length<big){es':List (AV×AV)}{Q:aS}(L:∀X T,(∀b∈T,gR 0 b=true)->Q .normal X [(0,a0),(1,a1),(4,a4),(5,a5),(6,a6),(7,.ptr q 0),(8,.junk),(9,.junk),(10,a10),(11,a11),(38,a38),(49,a49),(65,a65),(75,.sl (segs.map Seg.row)),(76,.n (segs.length:Int)),(77,.n (segs.length:Int)),(88,a88)] (A.set mp (.map es')++T)):∀(i a:List Seg)(d:List (AV×AV))(C E:AV)(T:aA),(∀b∈T,gR 0 b=true)->segs=a++i->AU a.length i d=some es'->cY G [8,9] Mc.am_L0 A.length [MK.blk 1] Q [(0,a0),(1,a1),(4,a4),(5,a5),(6,a6),(7,.ptr q 0),(8,C),(9,E),(10,a10),(11,a11),(38,a38),(49,a49),(65,a65),(75,.sl (segs.map Seg.row)),(76,.n (segs.length:Int)),(77,.n (a.length:Int)),(88,a88)] (A.set mp (.map d)++T)
 |[],a,d,C,E,T,p,g,l=>by
  obtain rfl:d=es':=by simpa[AU]using l
  obtain rfl:segs=a:=by simpa using g
  have y:ltB (segs.length:Int) (segs.length:Int)=false:=by simp[ltB]
  refine YC (Mc.am_L0.eq_1) (by simp) fun T v=>?_;have u:∀b∈T,gR 0 b=true:=fun b c=>p b (v b c);simp[aY];exact L _ _ u|s::i,a,d,C,E,T,p,g,l=>by
  simp only[AU,zN]at l;obtain⟨j,S,a2⟩:=l;have b3:segs.length=a.length+i.length+1:=by rw[g];simp;omega
  have ih:=zx0 (G:=G) w k M hn L i (a++[s]) j;have y:ltB (a.length:Int) (segs.length:Int)=true:=cH.2 (by omega);have hw:=iJ (i:=a.length) (by omega);have hg:(segs.map Seg.row)[a.length]?=some s.row:=by rw[g];simp
  have a3:q<A.length:=(aF.1 w).1;refine YC (Mc.am_L0.eq_1) (by simp) fun T v=>?_;have u:∀b∈T,gR 0 b=true:=fun b c=>p b (v b c);simp only[aY];generalize o:A.set mp (.map d)++T=B at*;generalize e:B++[Blk.cells s.row]=D at*;have I:B[q]?=some (.cells [.map mp]):=by rw[<-o,aX (by rw[gT];exact a3),eY M];exact w
  have F:B[mp]?=some (.map d):=by rw[<-o,aX (by rw[gT];exact k),fL k]
  have i1:bN 4 B (.sl (segs.map Seg.row)) (.n (a.length:Int))=some (.fptr s.row 0):=by
   simp only[bN];rw[if_pos (by omega),qV,hg];rfl
  have i2:aB 4 true B (.fptr s.row 0)=some (.agg s.row):=rfl;have s4:bB 4 (B++[.cells [AV.str [],AV.str [],AV.int IntKind.i64 0,AV.int IntKind.i64 0]]) (.ptr B.length 0) (.agg s.row)=some D:=by rw[<-e,aQ];simp[AV.cells,Seg.row,bE,bF]
  have Y:q<B.length:=(aF.1 I).1;have Z:mp<B.length:=(aF.1 F).1;have l6:aB 1 false D (.ptr q 0)=some (.map mp):=AF (by rw[<-e,aX Y];exact I);have l9:aB 4 true D (.ptr B.length 0)=some (.agg s.row):=by
   have:D[B.length]?=some (.cells s.row):=by rw[<-e];simp
   simp[aB,this,cut,aD,Seg.row]
  have V:D[mp]?=some (.map d):=by rw[<-e,aX Z];exact F
  have W:∀U,opV G U D (.mapupA [.s,.s,.i,.i]) (some [.map mp,.agg s.row,.n (a.length:Int)])=some (.junk,D.set mp (.map j)):=fun U=>by
   have J:s.row.length=sgK.length:=rfl;have K:rP sgK s.row=true:=rfl;simp only[sgK]at J K S;rw[fG rfl];simp only[bC,K,J,frz,view,owns,dC,V,S,and_self,aM,dI]
  simp[y,hw,i1,i2,s4,l6,l9,W,-aQ,-aB];have b1:D.set mp (.map j)=A.set mp (.map j)++(T++[.cells s.row]):=by
   rw[<-e,<-o];simp only[jT];rw[oI _ _ (by rw[gT];exact k),mN]
  rw[b1];have b2:=ih (.n (a.length:Int)) (.ptr B.length 0) (T++[.cells s.row]) (fun b c=>by
   rcases iK.1 c with c|c;·exact u b c
   ·rcases gU.1 c with rfl;rfl) (by rw[g];simp) (by simpa using a2);simpa using b2
def Ks.bv:List Nat:=[0,1,2,3,6,7,8]
def Rs.bv:List RV:=[]
def Dl.bv:List (List Nat):=[[6,999999]]
def Mc.bv_L0:MC:=.s [zb 9 .lss 8 7] (.seq (.ite (.t 9) .skip (.exit 0)) (.b 1 (.s [zm 10 8,zM 6 10] (.reg [zl 11 2,zl 12 3,zm 13 0,zm 14 6,iz 15 (.bld [.str [],.str [],.n 0,.n 0] [(0,1),(2,1),(3,1)]) [.t 12,.t 13,.t 14],Zb 16 4 [.t 15],Zs 17 4 48 11 16,zs 1 2 17])) (.reg [zc 18 .add 8 1,zM 8 18])))
def Mc.bv:MC:=.s [zM 7 1,Kc 8 0] (.blk 0 (.loop [6,999999] Mc.bv_L0))
theorem yp1{G:Gam}{s:Bool}{h:aA}{n b:Nat}{x:AV}{rows new:List (List AV)}(hx:rowsOf h x=some new)(e:dH n new=true)(g:dH n rows=true)(d:new≠[])(a:(rows.length+new.length)*b<=dJ)(c:rows.length+new.length<=dJ):opV G s h (.app false n b) (some [.tsl rows,x])=some (.own h.length 0 (rows.length+new.length),h++[.arr n 0 (rows++new) true]):=by
 rw[fG rfl];simp only[bC,lZ,bM,bH,hx,e,aM,nH,if_neg d];rw[if_pos ⟨a,c,g⟩]
def qJ(p:Bs)(k i:Int):List AV:=[.str p,.str [],.n k,.n i]
def jQ(a:List AV)(p:Bs)(k:Int)(i:Nat):List (List AV):=a::(List.range i).map fun(j:Nat)=>qJ p k (j:Int)
theorem zZ5{a:Type}{h:List a}{l:Nat}{b:a}(c:h[l]?=some b):h.set l b=h:=by
 obtain⟨d,e⟩:=aF.1 c;rw[<-e];exact List.set_getElem_self _
theorem xr8{a:Type}{A:List a}{x y:a}{n:Nat}(b:n=A.length):(A++[x]).set n y=A++[y]:=by subst b;simp
theorem zZ7{a:List AV}{p:Bs}{k:Int}{i:Nat}:(jQ a p k i).length=i+1:=by simp[jQ]
theorem xs2{a:List AV}{p:Bs}{k:Int}{i:Nat}:jQ a p k i++[qJ p k (i:Int)]=jQ a p k (i+1):=by simp[jQ,List.range_succ]
def sgH(h:aA)(l:Nat)(a:List AV)(p:Bs)(k:Int):Nat->aA
 |0=>h|i+1=>h.set l (.cells [.own h.length i (i+2)])++[.arr 4 i (jQ a p k (i+1)) true]
def HT:List AV->aA->Option (AV×aA)
 |[.n k,.n n,.ptr l 0,.ptr q 0],h=>match h[l]?,h[q]? with
  |some (.cellsT none [.tsl [a]]),some (.cellsT none [.str p])=>if a.length=4/\0<=n/\n<=100000/\l≠q then some (.tup [],sgH h l a p k n.toNat)else none|_,_=>none
 |_,_=>none
theorem zZ6(G:Gam)(h:aA)(l q:Nat)(a:List AV)(p:Bs)(k:Int)(b:Nat)(u:a.length=4)(e:h[l]?=some (.cells [.tsl [a]]))(g:h[q]?=some (.cells [.str p]))(s:l≠q)(K:b<=100000):∀(m i:Nat),i+m=b->cY G [6,999999] Mc.bv_L0 h.length [.blk 0] (eF Rs.bv (.tup []) (sgH h l a p k b)) [(0,.n k),(1,.n (b:Int)),(2,.ptr l 0),(3,.ptr q 0),(6,.junk),(7,.n (b:Int)),(8,.n (i:Int))] (sgH h l a p k i)
 |0,i,J=>by
  have o:ltB (i:Int) (b:Int)=false:=dQ.2 (by omega);obtain rfl:i=b:=by omega
  refine xD (Mc.bv_L0.eq_1) ?_;generalize sgH h l a p k i=H at*;simp[eF,Rs.bv]|m+1,i,J=>by
  have o:ltB (i:Int) (b:Int)=true:=cH.2 (by omega);have M:=iJ (i:=i) (by unfold big;omega);have c:l<h.length:=(aF.1 e).1;have L:q<h.length:=(aF.1 g).1;have Q:=zZ6 G h l q a p k b u e g s K m (i+1) (by omega);have C:(sgH h l a p k i)[q]?=some (.cells [.str p]):=by cases i with
   |zero=>exact g|succ i=>simp only[sgH];rw[aX (by simpa using L),eY s];exact g
  have U:aB 1 false (sgH h l a p k i) (.ptr q 0)=some (.str p):=AF C;have w:∀d H,opV G d H (.bld [.str [],.str [],.n 0,.n 0] [(0,1),(2,1),(3,1)]) (some [.str p,.n k,.n (i:Int)])=some (.agg (qJ p k (i:Int)),H):=fun d H=>by rw[bW rfl];rfl
  have y:∀d H,opV G d H (.bsl false 4) (some [.agg (qJ p k (i:Int))])=some (.tsl [qJ p k (i:Int)],H):=fun d H=>by
   simp[qJ];exact⟨rfl,rfl⟩
  have S:∃X,aB 1 false (sgH h l a p k i) (.ptr l 0)=some X/\opV G false (sgH h l a p k i) (.app false 4 48) (some [X,.tsl [qJ p k (i:Int)]])=some (.own h.length i (i+2),(sgH h l a p k (i+1)).set l (.cells [X])):=by cases i with
   |zero=>
    refine⟨.tsl [a],AF e,?_⟩;rw[yp1 (rows:=[a]) (new:=[qJ p k 0]) rfl rfl (by simp[dH,u]) (by simp) (by simp[dJ]) (by simp[dJ])];have j:(sgH h l a p k (0+1)).set l (.cells [.tsl [a]])=(h++[.arr 4 0 (jQ a p k 1) true]:aA):=by
     show(h.set l (.cells [.own h.length 0 2])++[.arr 4 0 (jQ a p k 1) true]:aA).set l (.cells [.tsl [a]])=_;rw[oI _ _ (by simpa using c),mN,zZ5 e]
    rw[j];rfl|succ i=>
    have B:(sgH h l a p k (i+1))[l]?=some (.cells [.own h.length i (i+2)]):=by
     show(h.set l (.cells [.own h.length i (i+2)])++[.arr 4 i (jQ a p k (i+1)) true]:aA)[l]?=_;rw[aX (by rw[gT];exact c),fL c]
    have D:(sgH h l a p k (i+1))[h.length]?=some (.arr 4 i (jQ a p k (i+1)) true):=by
     show(h.set l (.cells [.own h.length i (i+2)])++[.arr 4 i (jQ a p k (i+1)) true]:aA)[h.length]?=_;rw[dY (by rw[gT];exact bP _)];simp
    refine⟨.own h.length i (i+2),AF B,?_⟩;have:=SK (G:=G) (s:=false) (h:=sgH h l a p k (i+1)) (l:=h.length) (n:=4) (b:=48) (ver:=i) (k:=i+2) (x:=.tsl [qJ p k ((i+1:Nat):Int)]) (new:=[qJ p k ((i+1:Nat):Int)]) rfl D (by rw[zZ7]) rfl (by simp) (by simp[dJ];omega) (by simp[dJ];omega);rw[this,xs2];have j:(sgH h l a p k (i+1+1)).set l (.cells [.own h.length i (i+2)])=(h.set l (.cells [.own h.length i (i+2)])++[.arr 4 (i+1) (jQ a p k (i+1+1)) true]:aA):=by
     show(h.set l (.cells [.own h.length (i+1) (i+1+2)])++[.arr 4 (i+1) (jQ a p k (i+1+1)) true]:aA).set l (.cells [.own h.length i (i+2)])=_;rw[oI _ _ (by rw[gT];exact c),mN]
    have E:(sgH h l a p k (i+1)).set h.length (.arr 4 (i+1) (jQ a p k (i+1+1)) true)=(h.set l (.cells [.own h.length i (i+2)])++[.arr 4 (i+1) (jQ a p k (i+1+1)) true]:aA):=by
     show(h.set l (.cells [.own h.length i (i+2)])++[.arr 4 i (jQ a p k (i+1)) true]:aA).set h.length _=_;exact xr8 (by rw[gT])
    rw[j,<-E];rfl
  obtain⟨X,V,v⟩:=S;have W:bB 1 ((sgH h l a p k (i+1)).set l (.cells [X])) (.ptr l 0) (.own h.length i (i+2))=some (sgH h l a p k (i+1)):=by
   have F:((sgH h l a p k (i+1)).set l (.cells [X]))[l]?=some (.cells [X]):=fL (by simp only[sgH];simp;omega);have I:(sgH h l a p k (i+1))[l]?=some (.cells [.own h.length i (i+2)]):=by
    show(h.set l (.cells [.own h.length i (i+2)])++[.arr 4 i (jQ a p k (i+1)) true]:aA)[l]?=_;rw[aX (by rw[gT];exact c),fL c]
   rw[aQ,F];simp[AV.cells,bE,bF,zZ5 I]
  refine xD (Mc.bv_L0.eq_1) ?_;generalize qJ p k (i:Int)=a2 at*;generalize a1:(sgH h l a p k (i+1)).set l (.cells [X])=Z at*;generalize sgH h l a p k (i+1)=H2 at*;generalize sgH h l a p k i=Y at*;simp[o,M,V,U,w,y,v,W,-aB,-aQ];refine QP ?_;simpa using Q
theorem xs0(G:Gam):GW G Mc.bv Rs.bv Ks.bv HT:=by
 intro v h r y a;unfold HT at a;split at a
 ·rename_i k n l q;split at a
  ·rename_i u p i j;split at a
   ·rename_i o;injection a with a;injection a with e g;subst e g;obtain⟨b,c,w,d⟩:=o;obtain⟨N,rfl⟩:=Int.eq_ofNat_of_zero_le c;have s:=zZ6 G h l q u p k N b i j d (by omega) N 0 (by omega);rw[aT];simp[Mc.bv,aC,Ks.bv];simpa[sgH]using s
   ·cases a
  ·cases a
 ·cases a
def Ks.cg:List Nat:=[0,1,4]
def Rs.cg:List RV:=[.tmp 4]
def Dl.cg:List (List Nat):=[]
def Mc.cg:MC:=.s [Kc 4 0] (.w [zm 5 0,iz 6 (.isnilp false) [.t 5]] 6 (.r [Kc 4 0]) (.r [zm 7 0,Zk 8 7,zf 9 5 8,zl 10 9,zm 11 1,iz 12 (.look .s false (.n 0)) [.t 10,.t 11],zM 4 12]))
def Ks.a8:List Nat:=[0,1,3,4,5,6,7,8,9,10,12,14,17,39,64,65,66]
def Rs.a8:List RV:=[.tmp 4]
def Dl.a8:List (List Nat):=[[17]]
def Ow.__origin_Tracer__Segments:List Nat:=[1000083]
def Mc.a8_L0:MC:=.s [zb 67 .lss 66 65] (.seq (.ite (.t 67) .skip (.exit 1)) (.b 2 (.s [zi 68 3 64 66,zL 69 3 68,Ka 17 (.alloc [.str [],.nils,.nils]),zs 3 17 69] (.rgd [zl 70 6,zl 71 3,zf 72 0 17,zl 73 72,zf 74 1 17,zL 75 2 74,zg 76 Fn.d3 [.t 71,.t 73,.t 75],Zs 77 4 48 70 76,zs 1 6 77])) (.reg [zc 78 .add 66 1,zM 66 78])))
def Mc.a8:MC:=.s [Kx 3 1,kz 4 (.newnil 4) []] (.s [zl 18 3,iz 19 (.bld [.str [],.str [],.n 0,.n 0] [(0,1),(2,1)]) [.t 18,.i 1],Ka 5 (.alloc [.str [],.str [],.n 0,.n 0]),zs 4 5 19] (.s [zL 20 4 5,Zb 21 4 [.t 20],Ka 6 (.alloc [.nils]),zs 1 6 21] (.s [iz 22 (.mkfn Fn.bv) [.t 6,.t 3],zM 7 22] (.s [zm 23 0,zl 24 3,iz 25 (.callg Fn.cg) [.t 23,.t 24],zM 8 25] (.w [zm 26 8,zc 27 .eql 26 0] 27 (.r [kz 4 (.newnil 4) []]) (.d [zm 28 0,Zk 29 28,zf 30 4 29,zl 31 30,zl 32 3,iz 33 (.look .s false (.str [])) [.t 31,.t 32],zM 9 33] (.s [zm 35 9,zg 36 Fn.bb [.t 35],zm 34 36,ze 37 0 34,ze 38 1 34,Ka 10 (.alloc [.n 0,.n 0,.str [],.nils,.nils,.nils,.nils,.nils]),zs 8 10 37,zm 11 38] (.seq (.s [zM 39 8] (.blk 0 (.s [zc 41 .eql 39 1,zm 40 41] (.ite (.t 40) (.reg [zm 42 7,zm 43 9,zg 44 Fn.dd [.t 43,.c (.str [10])],zc 45 .add 44 1,Zv 46 [.t 42,.i 2,.t 45]]) (.s [zc 48 .eql 39 2,zm 47 48] (.ite (.t 47) (.s [zm 50 9,zg 51 Fn.ed [.t 50],zm 49 51,ze 52 0 49,ze 53 1 49,Ka 12 (.alloc [.nils,.nils]),zs 2 12 52,zm 13 53] (.r [zl 54 3,zL 55 2 12,zg 56 Fn.d3 [.t 54,.c (.str []),.t 55],zM 4 56])) (.s [zc 58 .eql 39 3,zm 57 58] (.ite (.t 57) (.s [zm 60 9,zg 61 Fn.ee [.t 60],zm 59 61,ze 62 0 59,ze 63 1 59,zM 14 62,zm 15 63] (.s [nz (.st 1) [.t 6,.c .nils]] (.s [zM 64 14,Kn 65 1 64,Kc 66 0] (.blk 1 (.loop [17] Mc.a8_L0))))) (.s [zc 80 .eql 39 4,zm 79 80] (.ite (.t 79) (.s [zm 81 7,Zv 82 [.t 81,.i 4,.i 1]] (.reg [zm 83 7,zf 84 3 10,zl 85 84,zn 86 1 85,Zv 87 [.t 83,.i 3,.t 86]])) (.s [zc 89 .eql 39 5,zm 88 89] (.ite (.t 88) (.reg [zm 90 7,zf 91 3 10,zl 92 91,zn 93 1 92,Zv 94 [.t 90,.i 3,.t 93]]) .skip)))))))))))) (.r [zl 95 6,zM 4 95])))))))))
abbrev Ob:=List AV×aA
abbrev Obs:=List (Ob×Ob)
def kE(a:Obs):Prop:=∀p∈a,p.1=p.2
theorem xL{a b:Obs}(h:kE (a++b)):kE a/\kE b:=⟨fun p c=>h p (zI _ c),fun p c=>h p (List.mem_append_right _ c)⟩
theorem ZV:∀{b:Obs},b.map (·.1)=b.map (·.2)->kE b
 |[],_,p,a=>by cases a|q::r,h,p,a=>by
  simp only[fE,List.cons.injEq]at h;rcases dD.1 a with rfl|a;·exact h.1
  ·exact ZV h.2 p a
abbrev Orc:=Bool->AO->List AV->aA->Option ((Ob×Ob)×AV×aA)
def fP(G:Gam)(O:Orc):Prop:=∀s o b h a R H',O s o b h=some (a,R,H')->a.1=a.2->if s&&!o.loud then iN G h o b=some R/\H'=h else fV G h o b=some (R,H')
def goO(O:Orc)(G:Gam)(b:Bool)(i:MI)(e:Nat->Option AV)(h:aA):Option ((AV×aA)×Obs):=match iF e i.args with
 |some a=>match O b i.o a h with
  |some (c,R,H')=>some ((R,H'),[c])|none=>(if b&&!i.o.loud then(iN G h i.o a).map fun v=>(v,h)else fV G h i.o a).map fun r=>(r,[])
 |none=>none
def ND(O:Orc)(G:Gam)(a:Bool)(i:MI)(e:Nat->Option AV)(h:aA):Option ((AV×aA)×Obs):=match i.g with
 |none=>goO O G a i e h|some (t,c)=>match e t with
  |some (.bool b)=>if b=c then goO O G a i e h else some ((rV,h),[])|some (.tup [])=>some ((rV,h),[])|_=>none
theorem zz3{O:Orc}{G:Gam}(hO:fP G O){g:Bool}{i:MI}{e:Nat->Option AV}{h:aA}{r:AV×aA}{d:Obs}(a:goO O G g i e h=some (r,d))(k:kE d):(match iF e i.args with
  |some c=>if g&&!i.o.loud then(iN G h i.o c).map fun v=>(v,h)else fV G h i.o c|none=>none)=some r:=by
 unfold goO at a;split at a
 ·rename_i c p;split at a
  ·rename_i o R H' l;simp only[aE,aR]at a;obtain⟨rfl,rfl⟩:=a;have k1:=hO _ _ _ _ _ _ _ l (k o (by simp));split
   ·rename_i b;rw[if_pos b]at k1;obtain⟨k5,k6⟩:=k1;rw[k5,k6];rfl
   ·rename_i b;rw[if_neg b]at k1;exact k1
  ·simp only[bS,aR]at a;obtain⟨r',j,rfl,_⟩:=a;exact j
 ·cases a
theorem zf2{O:Orc}{G:Gam}(hO:fP G O){l:Bool}{i:MI}{e:Nat->Option AV}{h:aA}{r:AV×aA}{k:Obs}(a:ND O G l i e h=some (r,k))(j:kE k):dG G l i e h=some r:=by
 unfold ND at a;unfold dG;dsimp only;split at a;·rename_i g;simp only[g];exact zz3 hO a j
 ·rename_i t o g;simp only[g];split at a
  ·rename_i b c;simp only[c];split at a;·rename_i d;rw[if_pos d];exact zz3 hO a j
   ·rename_i d;rw[if_neg d];simp only[aE,aR]at a;rw[<-a.1]
  ·rename_i c;simp only[c];simp only[aE,aR]at a;rw[<-a.1]
  ·cases a
def TL(O:Orc)(G:Gam)(m:MI)(a b:List (Nat×AV))(h:aA):Option (AV×Obs):=if m.o.loud then none else(ND O G true m (aV a b) h).map fun q=>(q.1.1,q.2)
theorem zY3{O:Orc}{G:Gam}(hO:fP G O){m:MI}{c d:List (Nat×AV)}{v:AV}{h:aA}{g:Obs}(a:TL O G m c d h=some (v,g))(j:kE g):m.o.loud=false/\dG G true m (aV c d) h=some (v,h):=by
 unfold TL at a;cases b:m.o.loud with
 |true=>rw[b]at a;cases a|false=>
  rw[b]at a;simp only[bM,bH,bS,aR]at a;obtain⟨⟨⟨u,k⟩,l⟩,i,e,h4⟩:=a;dsimp only at e h4;subst e h4;have h5:=zf2 hO i j;have:=yb8 b h5;subst this;exact⟨rfl,h5⟩
def obV(u v:AV):Ob×Ob:=(([u],[]),([v],[]))
theorem zP1{u v:AV}(h:(obV u v).1=(obV u v).2):u=v:=by
 unfold obV at h;injection h with h _;injection h
def zX(O:Orc)(G:Gam)(h:aA):List PX->Option Obs
 |[]=>some []|x::r=>if x.n !=0 then zX O G h r else match TL O G x.m x.env x.fr h with
  |some (u,a)=>(zX O G h r).map fun l=>obV u x.v::(a++l)|none=>none
theorem zP2{a:Ob×Ob}{b:Obs}(h:kE (a::b)):a.1=a.2/\kE b:=⟨h a (by simp),fun p c=>h p (by simp[c])⟩
theorem PZ{O:Orc}{G:Gam}(hO:fP G O){h:aA}:∀{l:List PX}{a:Obs},zX O G h l=some a->kE a->mX h (l.map (PX.pd G))
 |[],_,_,_=>trivial|⟨0,m,e,f,v⟩::r,a,hd,b=>by
  simp only[zX,bne_self_eq_false,bM,bH]at hd;split at hd
  ·rename_i u s i;simp only[bS]at hd;obtain⟨q,c,rfl⟩:=hd;obtain⟨j,o⟩:=zP2 b;obtain⟨k,p⟩:=xL o;have d:u=v:=zP1 j;subst d;exact⟨(zY3 hO i k).2,PZ hO c p⟩
  ·cases hd|⟨n+1,m,e,f,v⟩::r,a,hd,b=>by
  have g:((n+1)!=0)=true:=by simp
  simp only[zX,g,aM]at hd;exact PZ hO (l:=r) hd b
def BA(O:Orc)(G:Gam)(d:aA):List ME->List PX->List (Nat×AV)->List (Nat×AV)->aA->Option ((List (Nat×AV)×List (Nat×AV)×aA)×Obs)
 |[],c,a,b,h=>(zX O G h c).map fun k=>((a,b,h),k)|(e,j,m)::i,c,a,b,h=>match zX O G h c with
  |none=>none|some k=>match ND O G true m (aV a b) h with
   |none=>none|some ((v,g),l)=>match(if e then(TL O G m a b d).map fun u=>obV u.1 v::u.2 else some [])with
    |none=>none|some o=>match(match m.dst with
      |none=>BA O G d i (xJ m a b v j++vD c) a b g|some t=>if m.kept then BA O G d i (xJ m a b v j++vD c) a (upd t v b) g else BA O G d i (xJ m a b v j++vD c) ((t,v)::a) b g)with
     |none=>none|some (r,p)=>some (r,k++(l++(o++p)))
theorem TJ{O:Orc}{G:Gam}(hO:fP G O){y:aA}{Q:List (Nat×AV)->List (Nat×AV)->aA->Prop}:∀{s:List ME}{o:List PX}{d i g j:List (Nat×AV)}{h k:aA}{l:Obs},BA O G y s o d i h=some ((g,j,k),l)->kE l->Q g j k->jP G y s Q (o.map (PX.pd G)) d i h
 |[],o,d,i,g,j,h,k,l,a,q,b=>by
  simp only[BA,bS,aR]at a;obtain⟨X,B,⟨rfl,rfl,rfl⟩,rfl⟩:=a;exact⟨PZ hO B q,b⟩|(e,W,m)::s,o,d,i,g,j,h,k,l,a,q,b=>by
  simp only[BA]at a;split at a;·cases a
  ·rename_i Y hd;split at a;·cases a
   ·rename_i v B Z I;split at a;·cases a
    ·rename_i a1 C;split at a;·cases a
     ·rename_i r a2 c;simp only[aE,aR]at a;obtain⟨rfl,rfl⟩:=a;obtain⟨J,L⟩:=xL q;obtain⟨K,S⟩:=xL L;obtain⟨M,w⟩:=xL S;refine⟨PZ hO hd J,?_⟩;rw[zf2 hO I K];refine⟨fun D=>?_,?_⟩
      ·subst D;simp only[aM,bS]at C;obtain⟨⟨u,ou⟩,F,rfl⟩:=C;obtain⟨U,V⟩:=zP2 M;have E:u=v:=zP1 U;subst E;exact(zY3 hO F V).2
      ·rw[ZT,RZ,<-List.map_append];split at c;·rename_i hm;simp only[hm];exact TJ hO c w b
       ·rename_i t hm;simp only[hm];split at c;·rename_i p;rw[if_pos p];exact TJ hO c w b
        ·rename_i p;rw[if_neg p];exact TJ hO c w b
def xW(O:Orc)(G:Gam)(c:Bool):List MI->List (Nat×AV)->List (Nat×AV)->aA->Option ((List (Nat×AV)×List (Nat×AV)×aA)×Obs)
 |[],a,b,h=>some ((a,b,h),[])|i::e,a,b,h=>match ND O G c i (aV a b) h with
  |none=>none|some ((v,d),g)=>match(match i.dst with
    |none=>xW O G c e a b d|some t=>if i.kept then xW O G c e a (upd t v b) d else xW O G c e ((t,v)::a) b d)with
   |none=>none|some (r,j)=>some (r,g++j)
theorem MP{O:Orc}{G:Gam}(hO:fP G O){s:Bool}:∀{o:List MI}{c e d g:List (Nat×AV)}{h j:aA}{k:Obs},xW O G s o c e h=some ((d,g,j),k)->kE k->run G s o (.ok c e h)=.ok d g j
 |[],c,e,d,g,h,j,k,a,q=>by
  simp only[xW,aE,aR]at a;obtain⟨⟨rfl,rfl,rfl⟩,_⟩:=a;rfl|i::o,c,e,d,g,h,j,k,a,q=>by
  simp only[xW]at a;split at a;·cases a
  ·rename_i v y B u;split at a;·cases a
   ·rename_i r C b;simp only[aE,aR]at a;obtain⟨rfl,rfl⟩:=a;obtain⟨w,p⟩:=xL q;simp only[run,EE,zf2 hO u w,iD];split at b;·rename_i hm;simp only[hm];exact MP hO b p
    ·rename_i t hm;simp only[hm];split at b;·rename_i l;rw[if_pos l];exact MP hO b p
     ·rename_i l;rw[if_neg l];exact MP hO b p
abbrev kF:=List StX×Obs
abbrev TV:=List (Nat×AV)->List (Nat×AV)->aA->Option kF
def JA(f:StX->Option kF):List StX->Option kF
 |[]=>some ([],[])|o::b=>match f o with
  |some (l,a)=>(JA f b).map fun q=>(l++q.1,a++q.2)|none=>none
theorem WF{f:StX->Option kF}:∀{L:List StX}{q:kF},JA f L=some q->kE q.2->∀o∈L,∃l a,f o=some (l,a)/\kE a/\∀x∈l,x∈q.1
 |[],q,h,_,o,b=>by cases b|p::v,q,h,j,o,b=>by
  simp only[JA]at h;split at h
  ·rename_i l a i;simp only[bS]at h;obtain⟨r,d,rfl⟩:=h;obtain⟨s,u⟩:=xL j;rcases dD.1 b with rfl|b;·exact⟨l,a,i,s,fun x hx=>zI _ hx⟩
   ·obtain⟨k,c,e,h4,g⟩:=WF d u o b;exact⟨k,c,e,h4,fun x hx=>List.mem_append_right _ (g x hx)⟩
  ·cases h
def DQ(k:TV):StX->Option kF
 |(.normal,a,b,h)=>k a b h|o=>some ([o],[])
def UT(r:Option kF)(k:List StX->Option kF):Option kF:=match r with
 |some (L,a)=>(k L).map fun q=>(q.1,a++q.2)|none=>none
theorem yf8{r:Option kF}{k:List StX->Option kF}{q:kF}(h:UT r k=some q)(d:kE q.2):∃L a b,r=some (L,a)/\kE a/\k L=some b/\kE b.2/\b.1=q.1:=by
 unfold UT at h;split at h
 ·rename_i L a;simp only[bS]at h;obtain⟨b,c,rfl⟩:=h;obtain⟨e,g⟩:=xL d;exact⟨L,a,b,rfl,e,c,g,rfl⟩
 ·cases h
def RM(T:TV)(a:List Nat)(n:Nat):Nat->List (Nat×AV)->aA->Option kF
 |0,_,_=>none|N+1,b,h=>UT (T [] (aY a b) (nU a n (aY a b) h)) fun L=>JA (DQ fun _ b h=>RM T a n N b h) L
def zP6(r:Option StX):Option kF:=match r with
 |some o=>some ([o],[])|none=>none
theorem xf5{r:Option StX}{q:kF}(h:zP6 r=some q):∃o,r=some o/\q=([o],[]):=by cases r with
 |none=>cases h|some o=>injection h with h;exact⟨o,rfl,h.symm⟩
noncomputable def iA(O:Orc)(G:Gam)(N:Nat):MC->TV
 |.skip=>fun e d h=>some ([(.normal,e,d,h)],[])|.reg i=>fun _ d h=>(xW O G false i [] d h).map fun q=>([(.normal,q.1.1,q.1.2.1,q.1.2.2)],q.2)|.rgd i=>fun _ d h=>(xW O G true i [] d h).map fun q=>([(.normal,q.1.1,q.1.2.1,q.1.2.2)],q.2)|.rge i=>fun _ d h=>(BA O G h i [] [] d h).map fun q=>([(.normal,q.1.1,q.1.2.1,q.1.2.2)],q.2)|.seq a b=>fun e d h=>UT (iA O G N a e d h) fun L=>JA (DQ (iA O G N b)) L|.ite c a b=>fun e d h=>match gO (aV e d) c with
  |some (.T)=>iA O G N a e d h|some (.F)=>iA O G N b e d h|_=>none
 |.blk id a=>fun e d h=>(iA O G N a e d h).map fun q=>(q.1.map (OU id),q.2)|.loop k a=>fun _ d h=>RM (iA O G N a) k h.length N d h|.exit id=>fun e d h=>some ([(.exit id,e,d,h)],[])|.ret=>fun e d h=>some ([(.ret,e,d,h)],[])|.rgf g v a b=>fun e d h=>zP6 (iI G N (.rgf g v a b) e d h)|.rgn g p s i=>fun _ d h=>match gO (aV [] d) g with
  |some (.ptr l 0)=>(match iG h l with
   |some j=>(IX G p s i d j).map fun L=>(L,[])|none=>none)|_=>none
 |.both a b=>fun e d h=>match iA O G N a e d h,iA O G N b e d h with
  |some (L,o),some (M,u)=>some (L++M,o++u)|_,_=>none
 |.bad=>fun _ _ _=>none
theorem zL6{T:aS->List (Nat×AV)->List (Nat×AV)->aA->Prop}{R:TV}(s:∀{Q:aS}{c b:List (Nat×AV)}{h:aA}{q:kF},R c b h=some q->kE q.2->(∀o∈q.1,sI Q o)->T Q c b h){p:List Nat}{n:Nat}{Q:aS}:∀(N:Nat){c b:List (Nat×AV)}{h:aA}{q:kF},RM R p n N b h=some q->kE q.2->(∀o∈q.1,sI Q o)->gS T p n Q N c b h
 |0,_,_,_,_,g,_,_=>by cases g|N+1,c,b,h,q,g,j,k=>by
  simp only[RM]at g;simp only[gS];obtain⟨L,a,I,u,y,v,B,e⟩:=yf8 g j;refine s u y fun o w=>?_;obtain⟨l,D,d,C,h4⟩:=WF v B o w;obtain⟨x,E,f,F⟩:=o;cases x with
  |normal=>exact zL6 s N d C fun o j=>k o (e▸h4 o j)|exit i=>
   simp only[DQ,aE,aR]at d;obtain⟨rfl,rfl⟩:=d;exact k _ (e▸h4 _ (by simp))|ret=>
   simp only[DQ,aE,aR]at d;obtain⟨rfl,rfl⟩:=d;exact k _ (e▸h4 _ (by simp))
theorem tP{O:Orc}{G:Gam}(hO:fP G O){N:Nat}:∀(c:MC){Q:aS}{p s:List (Nat×AV)}{h:aA}{q:kF},iA O G N c p s h=some q->kE q.2->(∀o∈q.1,sI Q o)->wpM G c Q p s h
 |.skip,Q,p,s,h,q,d,k,j=>by simp only[iA,aE]at d;subst d;exact j _ (gU.2 rfl)|.reg y,Q,p,s,h,q,d,k,j=>by
  simp only[iA,bS]at d;obtain⟨⟨⟨e,f,v⟩,C⟩,u,rfl⟩:=d;exact lS (.reg y) (N:=N) (x:=.normal) (env':=e) (fr':=f) (h':=v) (by simp only[iI,MP hO u k,oW]) (j _ (gU.2 rfl))|.rgd y,Q,p,s,h,q,d,k,j=>by
  simp only[iA,bS]at d;obtain⟨⟨⟨e,f,v⟩,C⟩,u,rfl⟩:=d;exact lS (.rgd y) (N:=N) (x:=.normal) (env':=e) (fr':=f) (h':=v) (by simp only[iI,MP hO u k,oW]) (j _ (gU.2 rfl))|.rge y,Q,p,s,h,q,d,k,j=>by
  simp only[iA,bS]at d;obtain⟨⟨⟨e,f,v⟩,C⟩,u,rfl⟩:=d;simp only[wpM];exact TJ hO u k (j _ (gU.2 rfl))|.seq a b,Q,p,s,h,q,d,k,j=>by
  simp only[iA]at d;simp only[wpM];obtain⟨L,C,q',u,J,E,K,D⟩:=yf8 d k;refine tP hO a u J fun o I=>?_;obtain⟨l,a',B,X,h4⟩:=WF E K o I;obtain⟨x,e,f,v⟩:=o;cases x with
  |normal=>exact tP hO b B X fun o k=>j o (D▸h4 o k)|exit i=>
   simp only[DQ,aE,aR]at B;obtain⟨rfl,rfl⟩:=B;exact j _ (D▸h4 _ (by simp))|ret=>
   simp only[DQ,aE,aR]at B;obtain⟨rfl,rfl⟩:=B;exact j _ (D▸h4 _ (by simp))
 |.ite c a b,Q,p,s,h,q,d,k,j=>by
  simp only[iA]at d;simp only[wpM];split at d;·rename_i F;rw[F];exact tP hO a d k j
  ·rename_i F;rw[F];exact tP hO b d k j
  ·cases d|.blk id a,Q,p,s,h,q,d,k,j=>by
  simp only[iA,bS]at d;obtain⟨⟨S,C⟩,u,rfl⟩:=d;simp only[wpM];refine tP hO a u k fun o I=>?_;have w:=j _ (jE.2 ⟨o,I,rfl⟩);obtain⟨x,e,f,v⟩:=o;cases x with
  |normal=>exact w|ret=>exact w|exit i=>
   simp only[sI,OU]at w;simp only[sI,oL];split<;>rename_i M;·rw[if_pos M]at w;exact w
   ·rw[if_neg M]at w;exact w
 |.loop a2 a,Q,p,s,h,q,d,k,j=>by
  simp only[iA]at d;simp only[wpM];exact⟨N,zL6 (T:=wpM G a) (fun d k j=>tP hO a d k j) N d k j⟩|.exit id,Q,p,s,h,q,d,k,j=>by simp only[iA,aE]at d;subst d;exact j _ (gU.2 rfl)|.ret,Q,p,s,h,q,d,k,j=>by simp only[iA,aE]at d;subst d;exact j _ (gU.2 rfl)|.rgf g Y a b,Q,p,s,h,q,d,k,j=>by
  simp only[iA]at d;obtain⟨o,u,rfl⟩:=xf5 d;obtain⟨x,e,f,v⟩:=o;exact lS (.rgf g Y a b) (N:=N) u (j _ (gU.2 rfl))|.rgn g U W y,Q,p,s,h,q,d,k,j=>by
  simp only[iA]at d;refine rS (N:=N) (.rgn g U W y) (L:=q.1) ?_ j;simp only[iW];split at d
  ·rename_i l V;split at d
   ·rename_i a1 hm;simp only[bS]at d;obtain⟨L,u,rfl⟩:=d;rw[V];simp only[hm];exact u
   ·cases d
  ·cases d|.both a b,Q,p,s,h,q,d,k,j=>by
  simp only[iA]at d;split at d
  ·rename_i S a3 Z b1 u E;injection d with d;subst d;obtain⟨J,K⟩:=xL k;exact⟨tP hO a u J fun o k=>j o (zI _ k),tP hO b E K fun o k=>j o (List.mem_append_right _ k)⟩
  ·cases d|.bad,Q,p,s,h,q,d,k,j=>by cases d
def zK8(b:List RV)(a:AV->aA->Option (AV×aA))(x:Option kF):Option (List (Option (AV×aA))×List Ob):=x.map fun q=>(q.1.map (wY b a),q.2.map (·.1))
def zV8(r:AV×aA)(x:Option kF):Option (List (Option (AV×aA))×List Ob):=x.map fun q=>(q.1.map fun _=>some r,q.2.map (·.2))
structure ComesV(O:Orc)(G:Gam)(N:Nat)(mc:MC)(ks:List Nat)(rs:List RV)(args:List AV)(h:aA)(post:AV->aA->Option (AV×aA))(r:AV×aA):Prop where
 is:(iA O G N mc [] (aC ks args) h).isSome=true
 eq:zK8 rs post (iA O G N mc [] (aC ks args) h)=zV8 r (iA O G N mc [] (aC ks args) h)
theorem PB{O:Orc}{G:Gam}(hO:fP G O){N:Nat}{j:MC}{u:List Nat}{e:List RV}{k:List AV}{h:aA}{d:AV->aA->Option (AV×aA)}{r:AV×aA}(C:ComesV O G N j u e k h d r){Q:aS}(B:∀x g i c,(match x with|.exit _=>False|_=>True)->(∃v,cZ (aV g i) c e=some v/\d v c=some r)->Q x g i c):wpM G j Q [] (aC u k) h:=by
 obtain⟨w,p⟩:=C;cases s:iA O G N j [] (aC u k) h with
 |none=>rw[s]at w;cases w|some q=>
  rw[s]at p;simp only[zK8,zV8,dI,aE,aR]at p;obtain⟨y,h4⟩:=p;refine tP hO j s (ZV h4) fun o b=>?_;have h5:wY e d o=some r:=by
   have:∀(L:List StX),L.map (wY e d)=L.map (fun _=>some r)->∀o∈L,wY e d o=some r:=fun L=>by induction L with
    |nil=>intro _ o b;cases b|cons a l D=>
     intro hm o b;simp only[fE,List.cons.injEq]at hm;rcases dD.1 b with rfl|b;·exact hm.1
     ·exact D hm.2 o b
   exact this q.1 y o b
  obtain⟨x,g,i,c⟩:=o;obtain⟨k1,k2⟩:=zw5 h5;exact B x g i c k1 k2
def WQ:AO->Option FuncId
 |.call f|.callg f=>some f|_=>none
def xO(f:FuncId)(b:List AV->aA->Option (List AV×aA×AV×aA)):Orc:=fun s o a h=>match WQ o with
 |some g=>if g=f/\(s&&!o.loud)=false then(b a h).map fun q=>(((a,h),(q.1,q.2.1)),q.2.2.1,q.2.2.2)else none|none=>none
def oU(O b:Orc):Orc:=fun s o a h=>match O s o a h with
 |some r=>some r|none=>b s o a h
def xP:Orc:=fun _ _ _ _=>none
theorem FL{G:Gam}:fP G xP:=fun _ _ _ _ _ _ _ h=>by cases h
theorem rM{G:Gam}{O b:Orc}(h:fP G O)(d:fP G b):fP G (oU O b):=fun s o j g i R H' a c=>by
 unfold oU at a;split at a
 ·rename_i r e;injection a with a;subst a;exact h _ _ _ _ _ _ _ e c
 ·exact d _ _ _ _ _ _ _ a c
theorem yu7{o:AO}{f:FuncId}(h:WQ o=some f):o=.call f\/o=.callg f:=by
 cases o<;>simp[WQ]at h;·subst h;exact .inl rfl
 ·subst h;exact .inr rfl
theorem FK{G:Gam}{f:FuncId}{F:List AV->aA->Option (AV×aA)}(hG:G f=some (.gen F)){c:List AV->aA->Option (List AV×aA×AV×aA)}(l:∀d h A H R H',c d h=some (A,H,R,H')->F A H=some (R,H')):fP G (xO f c):=fun s o d h u R H' a b=>by
 unfold xO at a;split at a
 ·rename_i g k;split at a
  ·rename_i i;obtain⟨rfl,j⟩:=i;simp only[bS,aR]at a;obtain⟨⟨A,H,q,p⟩,e,rfl,rfl,rfl⟩:=a;have k1:=l _ _ _ _ _ _ e;simp only[aR]at b;obtain⟨rfl,rfl⟩:=b;rw[if_neg (by rw[j];simp)];rcases yu7 k with rfl|rfl;·simp only[fV,cG,AO.quiet,bM,bH,bC,dE,hG];exact k1
   ·simp only[fV,cG,AO.quiet,bM,bH,bC,dE,hG];exact k1
  ·cases a
 ·cases a
def mD(f:FuncId)(c:List AV->Option (List AV×AV)):Orc:=fun _ o b h=>match o with
 |.call g=>if g=f then(match cV h b,eZ b with
  |some a,[]=>(c a).map fun q=>(((a,[]),(q.1,[])),q.2,h)|_,_=>none)else none|_=>none
theorem nO{G:Gam}{f:FuncId}{F:List AV->Option AV}(hG:G f=some (.pure F)){e:List AV->Option (List AV×AV)}(l:∀i A R,e i=some (A,R)->F A=some R):fP G (mD f e):=fun s o i h u R H' a b=>by
 unfold mD at a;split at a
 ·rename_i g;split at a
  ·rename_i k;subst k;split at a
   ·rename_i v c d;simp only[bS,aR]at a;obtain⟨⟨p,q⟩,j,rfl,rfl,rfl⟩:=a;have k1:=l _ _ _ j;simp only[aR,and_true]at b;subst b;split
    ·refine⟨?_,rfl⟩;simp only[iN,AO.quiet,bM,bH,hG,c,k1,d];split<;>simp
    ·simp only[fV,cG,AO.quiet,bM,bH,bC,dE,hG,c,k1,d];split<;>simp
   ·cases a
  ·cases a
 ·cases a
def FJ(d:BinOp)(b:Int)(a:List AV×AV):Orc:=fun _ o e h=>match o,e with
 |.bin p,[x,.int k c]=>if p=d/\c=b then some ((([x,.int k c],[]),(a.1,[])),a.2,h)else none|_,_=>none
theorem SM{G:Gam}{g:BinOp}{b x:Int}{r:Bool}(e:bY g (.n x) (.n b)=some (.bool r)):fP G (FJ g b ([.n x,.n b],.bool r)):=fun s o l h j R H' a d=>by
 unfold FJ at a;split at a
 ·split at a
  ·rename_i p y k c i;obtain⟨rfl,rfl⟩:=i;simp only[aE,aR]at a;obtain⟨rfl,rfl,rfl⟩:=a;simp only[aR,and_true]at d;rw[d];split
   ·refine⟨?_,rfl⟩;simp[iN,AO.quiet,bV,e]
   ·simp[fV,cG,AO.quiet,bV,e]
  ·cases a
 ·cases a
open Classical in def fC(A:List AV)(H:aA)(R:AV)(H':aA):List AV->aA->Option (AV×aA):=fun a h=>if a=A/\h=H then some (R,H')else none
open Classical in def eU(A:List AV)(R:AV):List AV->Option AV:=fun a=>if a=A then some R else none
theorem qH{A:List AV}{H:aA}{R:AV}{H':aA}:fC A H R H' A H=some (R,H'):=by unfold fC;rw[if_pos ⟨rfl,rfl⟩]
theorem nS{A:List AV}{R:AV}:eU A R A=some R:=by unfold eU;rw[if_pos rfl]
theorem FY{A a:List AV}{H h:aA}{R r:AV}{H' c:aA}(b:fC A H R H' a h=some (r,c)):a=A/\h=H/\r=R/\c=H':=by
 unfold fC at b;split at b
 ·rename_i d;simp only[aE,aR]at b;exact⟨d.1,d.2,b.1.symm,b.2.symm⟩
 ·cases b
theorem zW7{A a:List AV}{R r:AV}(b:eU A R a=some r):a=A/\r=R:=by
 unfold eU at b;split at b
 ·rename_i c;injection b with b;exact⟨c,b.symm⟩
 ·cases b
def sF(F b:List AV->aA->Option (AV×aA)):List AV->aA->Option (AV×aA):=fun a h=>match F a h with
 |some r=>some r|none=>b a h
theorem zQ5{P:Program}{gv:Gv}{f:FuncId}{F b:List AV->aA->Option (AV×aA)}(h:gG P gv f F)(k:gG P gv f b):gG P gv f (sF F b):=fun B C e w c r o j d g i a=>by
 unfold sF at a;split at a
 ·rename_i r' l;injection a with a;subst a;exact h B C e w c _ _ j d g i l
 ·exact k B C e w c _ _ j d g i a
theorem QC{P:Program}{gv:Gv}{T:FuncId->Option FE}{f:FuncId}{x:Ent}(hx:entry P gv T f=some x)(hd:x.df=none):∃(e:FE)(a:Func)(c:Code),P.funcs[f]?=some a/\a.body=some c/\(x.ks.all fun k=>decide (k<a.ntmps))=true/\lE P a.results.toList=some x.rs/\(bU P gv x.ks a.ntmps e.ow c e.dl).1=x.mc:=by
 unfold entry at hx;split at hx;·cases hx
 ·rename_i e _;split at hx;·cases hx
  ·rename_i a g;split at hx;·cases hx
   ·rename_i c d;split at hx;·cases hx
    ·rename_i j i;split at hx
     ·rename_i b;simp only[bR]at b;split at hx
      ·unfold KB at hx;split at hx
       ·split at hx
        ·split at hx
         ·split at hx
          ·split at hx
           ·simp only[aE]at hx;subst hx;cases hd
           ·cases hx
          ·cases hx
         ·cases hx
        ·cases hx
       ·cases hx
      ·simp only[aE]at hx;subst hx;exact⟨e,a,c,g,d,b.1,i,rfl⟩
     ·cases hx
section
variable{P:Program}(hm:P.follows .mixedOrders=true){gv:Gv}{T:FuncId->Option FE}{f:FuncId}{x:Ent}(hx:entry P gv T f=some x)(hd:x.df=none){G:Gam}(hG:GamOK P gv G){O:Orc}(hO:fP G O){N:Nat}{A:List AV}{H H':aA}{R:AV}
include hm hx hd hG hO
theorem zd0(g:ComesV O G N x.mc x.ks x.rs A H pG (R,H')):gG P gv f (fC A H R H'):=by
 obtain⟨e,s,c,i,d,j,o,k⟩:=QC hx hd;refine mB hm hG i d (ow:=e.ow) (dl:=e.dl) j o k fun p h r w l=>?_;obtain⟨rfl,rfl,rfl,rfl⟩:=FY l;refine PB hO g fun y q u B a b=>?_;obtain⟨v,k1,k2⟩:=b;simp only[pG,aE,aR]at k2;obtain⟨rfl,rfl⟩:=k2;exact⟨a,k1,rfl⟩
theorem zd1(g:ComesV O G N x.mc x.ks x.rs A H pZ (R,H')):gG P gv f (fC A H R H'):=by
 obtain⟨e,s,c,i,d,j,o,k⟩:=QC hx hd;refine zy8 hm hG i d (ow:=e.ow) (dl:=e.dl) j o k fun p h r w l=>?_;obtain⟨rfl,rfl,rfl,rfl⟩:=FY l;refine PB hO g fun y q u B a b=>⟨a,?_⟩;obtain⟨v,k1,k2⟩:=b;exact⟨v,k1,k2⟩
theorem zW9(g:ComesV O G N x.mc x.ks x.rs A H (pZL H.length) (R,H')):gG P gv f (fC A H R H'):=by
 obtain⟨e,E,c,i,d,j,o,k⟩:=QC hx hd;refine uY hm hG i d (ow:=e.ow) (dl:=e.dl) j o k fun C h r I _ _ l=>?_;obtain⟨rfl,rfl,rfl,rfl⟩:=FY l;refine PB hO g fun y D F J a b=>⟨a,?_⟩;obtain⟨v,k1,k2⟩:=b;unfold pZL at k2;split at k2
 ·rename_i u h4 p;simp only[bS,aR]at k2;obtain⟨h5,k3,rfl,rfl⟩:=k2;obtain⟨_,q,s,w,B⟩:=KT (rs:=[.tmp 0]) (e:=fun _=>some u) rfl k3;exact⟨v,h4,k1,p,q,s,w,B⟩
 ·cases k2
theorem rR(g:ComesV O G N x.mc x.ks x.rs A [] pK (R,[])):dP P gv f (eU A R):=by
 obtain⟨e,s,c,i,d,j,o,k⟩:=QC hx hd;refine zT0 hm hG i d (ow:=e.ow) (dl:=e.dl) j o k fun p r l=>?_;obtain⟨rfl,rfl⟩:=zW7 l;refine PB hO g fun y q u w a b=>⟨a,?_⟩;obtain⟨v,k1,k2⟩:=b;simp only[pK,bS]at k2;obtain⟨r,k3,k4⟩:=k2;simp only[aR]at k4;obtain⟨rfl,_⟩:=k4;exact⟨v,k1,k3⟩
end
theorem zN6{e i:Type}{F g:e->i}{c:i}:∀{L:List e},L.map F=L.map g->(∀a,g a=c)->∀o∈L,F o=c
 |[],_,_,o,b=>by cases b|a::l,h,d,o,b=>by
  simp only[fE,List.cons.injEq]at h;rcases dD.1 b with rfl|b;·rw[h.1,d]
  ·exact zN6 h.2 d o b
def tO(O:Orc)(G:Gam)(N:Nat)(x:Ent)(d:DfE)(A:List AV)(H:aA):Option (List (Option (AV×aA))×Obs):=match run G false d.is0 (.ok [] (aC x.ks A) H)with
 |.ok _ a b=>(match dG G false d.m1 (aV [] a) b with
  |some (.fn g c,_)=>if g=d.g then(iA O G N x.mc [] a b).map fun q=>(q.1.map (XQ G x.rs d c H.length),q.2)else none|_=>none)|.bad=>none
def RG(x:Option (List (Option (AV×aA))×Obs)):Option (List (Option (AV×aA))×List Ob):=x.map fun q=>(q.1,q.2.map (·.1))
def TC(r:AV×aA)(x:Option (List (Option (AV×aA))×Obs)):Option (List (Option (AV×aA))×List Ob):=x.map fun q=>(q.1.map fun _=>some r,q.2.map (·.2))
theorem zW8{P:Program}(hm:P.follows .mixedOrders=true){gv:Gv}{T:FuncId->Option FE}{f:FuncId}{x:Ent}{d:DfE}(hx:entry P gv T f=some x)(hd:x.df=some d){G:Gam}(hG:GamOK P gv G){O:Orc}(hO:fP G O){N:Nat}{A:List AV}{H H':aA}{R:AV}(a:(tO O G N x d A H).isSome=true)(b:RG (tO O G N x d A H)=TC (R,H') (tO O G N x d A H)):gG P gv f (fC A H R H'):=by
 unfold entry at hx;split at hx;·cases hx
 ·rename_i e _;split at hx;·cases hx
  ·rename_i D Q;split at hx;·cases hx
   ·rename_i b2 M;split at hx;·cases hx
    ·rename_i rs a1;split at hx
     ·rename_i l;simp only[bR]at l;split at hx
      ·unfold KB at hx;split at hx
       ·rename_i e1 e2 o1 t d2 b3 a3 a2;split at hx
        ·rename_i y gn _ U;split at hx
         ·rename_i gc S;split at hx
          ·rename_i d3 V;split at hx
           ·rename_i j;simp only[bR,mM]at j;obtain⟨⟨⟨⟨q,s⟩,u⟩,v⟩,w⟩:=j;simp only[aE]at hx;subst hx;simp only[aE]at hd;subst hd;refine zy7 hm hG Q M (ow:=e.ow) (dl:=e.dl) a2 l.1 q a1 rfl rfl rfl U S V (by simpa using s) u (enters_of v) (gow:=y.ow) rfl fun b1 h r F _ _ Y=>?_;obtain⟨rfl,rfl,rfl,rfl⟩:=FY Y;unfold tO at a b;split at a
            ·rename_i B i h0 p;simp only[p]at b;split at a
             ·rename_i g' vs I g;simp only[g]at b;split at a
              ·rename_i k;rw[if_pos k]at b;subst k;have:=yb7 w g;subst this;refine⟨B,i,_,vs,p,g,?_⟩;cases c:iA O G N (bU P gv e.ks D.ntmps e.ow a3 e.dl).1 [] i I with
               |none=>rw[c]at a;cases a|some e3=>
                rw[c]at b;simp only[RG,TC,dI,aE,aR,List.map_map]at b;obtain⟨L,h4⟩:=b;refine tP hO _ c (ZV h4) fun o X=>?_;have J:=zN6 L (c:=some (r,F)) (fun _=>rfl) o X;obtain⟨f2,d1,fr,hh⟩:=o;obtain⟨k0,k1⟩:=zw4 J;split at k1
                ·rename_i C E K Z;split at k1
                 ·rename_i f1 hv;simp only[bS,aR]at k1;obtain⟨h5,W,rfl,rfl⟩:=k1;exact⟨k0,C,E,K,Z,KT hv W⟩
                 ·cases k1
                ·cases k1
              ·cases a
             ·cases a
            ·cases a
           ·cases hx
          ·cases hx
         ·cases hx
        ·cases hx
       ·cases hx
      ·simp only[aE]at hx;subst hx;cases hd
     ·cases hx
theorem zy3{h:aA}{l b d n:Nat}{tg:Option TypeId}{a:List (List AV)}{g:Bool}(c:h[l]?=some (.arrT tg d b a g))(e:n=a.length):frz h (.own l b n)=some (.sl a,h.set l (.arrT tg d b a false)):=by simp[frz,view,xV c e,owns,dC,jX,c]
def yI:List AV->aA->Option (AV×aA)
 |[.ptr l 0,.str p],h=>match h[l]? with
  |some (.cellsT none [_,_,_,_,_,.map b,_])=>match h[b]? with
   |some (.map a)=>match iP .s (.str p) a with
    |some (some (.n k))=>some (.n k,h)|_=>none
   |_=>none
  |_=>none
 |_,_=>none
theorem yp2(G:Gam):GW G Mc.cg Rs.cg Ks.cg yI:=by
 intro s h r D a;unfold yI at a;split at a
 ·rename_i l p;split at a
  ·rename_i u v w y B d C j;split at a
   ·rename_i c hm;split at a
    ·rename_i k i;injection a with a;injection a with e c;subst e c;have g:aB 1 false h (.ptr l 5)=some (.map d):=by simp[aB,j,cut,aD]
     have o:∀b,opV G b h (.look .s false (.n 0)) (some [.map d,.str p])=some (.n k,h):=fun b=>by rw[bW rfl];simp[bV,isKey,hm,i]
     have nz:∀b,opV G b h (.isnilp false) (some [.ptr l 0])=some (.F,h):=fun b=>by rw[bW rfl];rfl
     have q:∀b,opV G b h .nilck (some [.ptr l 0])=some (.ptr l 0,h):=fun b=>by rw[bW rfl];rfl
     rw[aT];simp[Mc.cg,aC,Ks.cg,g,o,nz,q,-aB];exact⟨trivial,rfl,rfl⟩
    ·cases a
   ·cases a
  ·cases a
 ·cases a
def kB(p:Bs):List AV:=[.str p,.str [],.n 1,.n 0]
def oC(FD:List AV->Option AV):List AV->aA->Option (AV×aA)
 |[.ptr l 0,.str p],h=>match h[l]? with
  |some (.cellsT none [_,_,_,_,.map e,.map g,_])=>match h[e]?,h[g]? with
   |some (.map c),some (.map d)=>match iP .s (.str p) c,iP .s (.str p) d with
    |some (some (.str a)),some (some (.n 1))=>match FD [.str a]with
     |some (.tup [.agg b,_])=>if b.length=8/\b.all bE=true/\Lib.countByte a 10<=1000 then some (.sl (jQ (kB p) p 2 (Lib.countByte a 10+1)),h)else none|_=>none
    |_,_=>none
   |_,_=>none
  |_=>none
 |_,_=>none
theorem xr3(G:Gam)(FD:List AV->Option AV)(a3:G Fn.cg=some (.gen yI))(d1:G Fn.bb=some (.pure FD))(b3:G Fn.dd=some (.pure uB))(g2:G Fn.bv=some (.gen HT)):∀u h r D,bA h.length u=true->bG h.length h=true->oC FD u h=some (r,D)->wpM G Mc.a8 (jM h.length Rs.a8 r D) [] (aC Ks.a8 u) h:=by
 intro u h r D _ g1 d;unfold oC at d;split at d
 ·rename_i l p h0;split at d
  ·rename_i c0 c1 c2 c3 y m2 c6 F;split at d
   ·rename_i e1 e2 Z a1;split at d
    ·rename_i v e3 f1;split at d
     ·rename_i j er hD;split at d
      ·rename_i hc;obtain⟨W,b2,h1⟩:=hc;injection d with d;injection d with q1 q2;subst q1 q2;have Y:l<h.length:=(aF.1 F).1;have f2:y<h.length:=(aF.1 Z).1;have f3:m2<h.length:=(aF.1 a1).1;generalize hn:Lib.countByte v 10=n at*;have b1:∀a,opV G a h .box (some [.str p])=some (.ptr h.length 0,h++[.cells [.str p]]):=fun a=>jN (h:=h) (v:=.str p) (by simp[AV.cells]);generalize E:h++[Blk.cells [.str p]]=B at*;generalize w:B++[Blk.arr 4 0 [] true]=g at*;generalize o:g++[Blk.cells (kB p)]=c at*;generalize k:c++[Blk.cells [.tsl [kB p]]]=b at*;generalize q:b++[Blk.cells j]=e at*;have l1:B.length=h.length+1:=by rw[<-E];simp
       have l2:g.length=h.length+2:=by rw[<-w];simp[l1]
       have l3:c.length=h.length+3:=by rw[<-o];simp[l2]
       have l4:b.length=h.length+4:=by rw[<-k];simp[l3]
       have l5:e.length=h.length+5:=by rw[<-q];simp[l4]
       have p1:B[h.length]?=some (.cells [.str p]):=by rw[<-E];simp
       have p2:g[h.length]?=some (.cells [.str p]):=by rw[<-w,aX (by omega)];exact p1
       have p3:c[h.length]?=some (.cells [.str p]):=by rw[<-o,aX (by omega)];exact p2
       have p4:b[h.length]?=some (.cells [.str p]):=by rw[<-k,aX (by omega)];exact p3
       have p5:e[h.length]?=some (.cells [.str p]):=by rw[<-q,aX (by omega)];exact p4
       have u4:∀i,i<h.length->b[i]?=h[i]?:=fun i X=>by rw[<-k,aX (by omega),<-o,aX (by omega),<-w,aX (by omega),<-E,aX (by omega)]
       have d2:aB 1 false g (.ptr h.length 0)=some (.str p):=AF p2;have d4:aB 1 false b (.ptr h.length 0)=some (.str p):=AF p4;have bd:∀a,opV G a g (.bld [.str [],.str [],.n 0,.n 0] [(0,1),(2,1)]) (some [.str p,.n 1])=some (.agg (kB p),g):=fun a=>by rw[bW rfl];rfl
       have s3:bB 4 (g++[.cells [AV.str [],AV.str [],AV.int IntKind.i64 0,AV.int IntKind.i64 0]]) (.ptr g.length 0) (.agg (kB p))=some c:=by rw[<-o,aQ];simp[AV.cells,kB,bE,bF]
       have d3:aB 4 true c (.ptr g.length 0)=some (.agg (kB p)):=by
        have:c[g.length]?=some (.cells (kB p)):=by rw[<-o];simp
        simp[aB,this,cut,aD,kB]
       have bs:∀a,opV G a c (.bsl false 4) (some [.agg (kB p)])=some (.tsl [kB p],c):=fun a=>by
        simp[kB];exact⟨rfl,rfl⟩
       have s4:bB 1 (c++[.cells [AV.nils]]) (.ptr c.length 0) (.tsl [kB p])=some b:=by rw[<-k,aQ];simp[AV.cells,bE,bF]
       have c4:∀a,opV G a b (.callg Fn.cg) (some [.ptr l 0,.str p])=some (.n 1,b):=fun a=>by rw[oT a3];simp only[yI,u4 l Y,F,u4 m2 f3,a1,f1]
       have nk:∀a,opV G a b .nilck (some [.ptr l 0])=some (.ptr l 0,b):=fun a=>by rw[bW rfl];rfl
       have e4:aB 1 false b (.ptr l 4)=some (.map y):=by
        have:=u4 l Y;rw[F]at this;simp[aB,this,cut,aD]
       have lk:∀a,opV G a b (.look .s false (.str [])) (some [.map y,.str p])=some (.str v,b):=fun a=>by
        have:=u4 y f2;rw[Z]at this;rw[bW rfl];simp[bV,isKey,this,e3]
       have cd:∀a,opV G a b (.call Fn.bb) (some [.str v])=some (.tup [.agg j,er],b):=fun a=>cU d1 rfl hD (.inr rfl);have s5:bB 8 (b++[.cells [AV.int IntKind.i64 0,AV.int IntKind.i64 0,AV.str [],AV.nils,AV.nils,AV.nils,AV.nils,AV.nils]]) (.ptr b.length 0) (.agg j)=some e:=by
        rw[<-q,aQ];obtain⟨I,J,K,L,M,Q,S,U,rfl⟩:∃I J K L M Q S U,j=[I,J,K,L,M,Q,S,U]:=by rcases j with _|⟨I,_|⟨J,_|⟨K,_|⟨L,_|⟨M,_|⟨Q,_|⟨S,_|⟨U,_|⟨x8,j⟩⟩⟩⟩⟩⟩⟩⟩⟩<;>first|exact⟨_,_,_,_,_,_,_,_,rfl⟩|(simp at W;done)|(simp at W;omega)
        simp[AV.cells,bF,b2]
       have cc:∀a,opV G a e (.call Fn.dd) (some [.str v,.str [10]])=some (.n (n:Int),e):=fun a=>cU b3 rfl (by simp[uB,hn]) (.inr rfl);have hw:=iJ (i:=n) (by unfold big;omega);have q3:e[c.length]?=some (.cells [.tsl [kB p]]):=by rw[<-q,aX (by omega),<-k];simp
       have cv:dE G Fn.bv [.n 2,.n ((n:Int)+1),.ptr c.length 0,.ptr h.length 0] e=some (.tup [],sgH e c.length (kB p) p 2 (n+1)):=by
        simp only[dE,g2,HT,q3,p5];rw[if_pos ⟨rfl,by omega,by omega,by omega⟩];have:((n:Int)+1).toNat=n+1:=by omega
        rw[this]
       generalize a2:sgH e c.length (kB p) p 2 (n+1)=C at*;have s:C=e.set c.length (.cells [.own e.length n (n+2)])++[.arr 4 n (jQ (kB p) p 2 (n+1)) true]:=by rw[<-a2];rfl
       have d6:aB 1 false C (.ptr c.length 0)=some (.own e.length n (n+2)):=by
        refine AF ?_;rw[s,aX (by rw[gT];omega),fL (by omega)]
       have z0:eqB 1 0=false:=rfl;skip;rw[aT];simp only[kB]at k s;simp[z0,Mc.a8,aC,Ks.a8,b1,w,d2,bd,s3,d3,bs,s4,c4,nk,e4,d4,lk,cd,s5,cc,hw,cv,d6,-aB,-aQ];have qa:C[e.length]?=some (.arr 4 n (jQ (kB p) p 2 (n+1)) true):=by rw[s,dY (by rw[gT];exact bP _),gT,Nat.sub_self];rfl
       have hz:=zy3 (n:=n+2) qa (by rw[zZ7]);refine⟨trivial,_,_,rfl,hz,bP _,⟨?_,fun i g3 V=>.inr ?_⟩,by simp[low],g1⟩;·rw[gT,s];simp;omega
       ·have X:i<h.length:=(aF.1 V).1;rw[eY (by omega),s,aX (by rw[gT];omega),eY (by omega),<-q,aX (by omega),u4 i X];exact V
      ·cases d
     ·cases d
    ·cases d
   ·cases d
  ·cases d
 ·cases d
theorem yH7{f g:Fl}(h:f≠g):eV flK f.row g.row=some false:=by
 obtain⟨⟨p,m,k,i⟩,⟨u,e,c,a⟩,r⟩:=f;obtain⟨⟨q,n,l,j⟩,⟨v,o,d,b⟩,s⟩:=g;simp only[flK,Fl.row,eV,aM];repeat' split
 all_goals first|rfl|(exfalso;apply h;simp_all)
theorem KC{f g:Seg}(h:f≠g):eV sgK f.row g.row=some false:=by
 obtain⟨p,m,k,i⟩:=f;obtain⟨q,n,l,j⟩:=g;simp only[sgK,Seg.row,eV,aM];repeat' split
 all_goals first|rfl|(exfalso;apply h;simp_all)
def esF(a:List Fl):List (AV×AV):=a.map fun g=>(.agg g.row,.T)
theorem zn4{f:Fl}:∀{gs:List Fl},f∉gs->kZ flK f.row (.T) (esF gs)=some (esF (gs++[f]))
 |[],_=>rfl|g::gs,h=>by
  have a:f≠g:=fun e=>h (by simp[e]);have c:=zn4 (f:=f) (gs:=gs) fun hm=>h (lC _ hm);have b:g.row.length=flK.length:=rfl;show kZ flK f.row (.T) ((.agg g.row,.T)::esF gs)=_;simp only[kZ,b,yH7 a,c,aM,dI];rfl
def cpF(q:Bs)(s:Seg):Fl:=⟨s,s.at_ q,1⟩
theorem zs3{q:Bs}:∀{ss:List Seg}{gs:List Fl},(gs++ss.map (cpF q)).Nodup->uT q ss (esF gs)=some (esF (gs++ss.map (cpF q)))
 |[],gs,_=>by simp[uT]|s::ss,gs,h=>by
  have a:cpF q s∉gs:=fun hm=>by
   have:=(List.nodup_append.1 h).2.2 _ hm _ (by simp:cpF q s∈(s::ss).map (cpF q));exact this rfl
  have b:(gs++[cpF q s]++ss.map (cpF q)).Nodup:=by simpa using h
  simp only[uT];rw[show(⟨s,s.at_ q,1⟩:Fl)=cpF q s from rfl,zn4 a];simp only[wO];rw[zs3 b];simp
theorem zs8:∀a:List Fl,uU (esF a)=some a
 |[]=>rfl|g::a=>by
  show uU ((.agg g.row,.T)::esF a)=_;simp only[uU,zs8 a];rfl
def esP(i:Nat):List Seg->List (AV×AV)
 |[]=>[]|s::a=>(.agg s.row,.n (i:Int))::esP (i+1) a
theorem zn6{f:Seg}{v:AV}:∀{gs:List Seg}{i:Nat},f∉gs->kZ sgK f.row v (esP i gs)=some (esP i gs++[(.agg f.row,v)])
 |[],_,_=>rfl|g::gs,i,h=>by
  have a:f≠g:=fun e=>h (by simp[e]);have c:=zn6 (f:=f) (v:=v) (gs:=gs) (i:=i+1) fun hm=>h (lC _ hm);have b:g.row.length=sgK.length:=rfl;simp only[esP,kZ,b,KC a,c,aM,dI,qW]
theorem zv6{s:Seg}:∀{gs:List Seg}{i:Nat},esP i gs++[(.agg s.row,.n ((i+gs.length:Nat):Int))]=esP i (gs++[s])
 |[],i=>by simp[esP]|g::gs,i=>by
  have:=zv6 (s:=s) (gs:=gs) (i:=i+1);simp only[esP,qW,jA];rw[<-this,show i+1+gs.length=i+(gs.length+1)by omega]
theorem zR9:∀{ss gs:List Seg},(gs++ss).Nodup->AU gs.length ss (esP 0 gs)=some (esP 0 (gs++ss))
 |[],gs,_=>by simp[AU]|s::ss,gs,h=>by
  have a:s∉gs:=fun hm=>(List.nodup_append.1 h).2.2 _ hm _ (by simp:s∈s::ss) rfl;have b:(gs++[s]++ss).Nodup:=by simpa using h
  have:=zR9 (ss:=ss) (gs:=gs++[s]) b;simp only[AU];rw[zn6 a];simp only[wO];have e:=zv6 (s:=s) (gs:=gs) (i:=0);rw[eT]at e;rw[e];simpa using this
theorem zn1{s:Seg}:∀{a:List Seg}{i k:Nat},a.Nodup->a[k]?=some s->iY sgK s.row (esP i a)=some (some (.n ((i+k:Nat):Int)))
 |[],_,_,_,h=>by simp at h|g::a,i,0,_,h=>by
  obtain rfl:g=s:=by simpa using h
  have b:g.row.length=sgK.length:=rfl;have l:eV sgK g.row g.row=some true:=by simp[sgK,Seg.row,eV]
  simp only[esP,iY,b,l,aM,Nat.add_zero]|g::a,i,k+1,d,h=>by
  have c:a[k]?=some s:=by simpa using h
  have j:s≠g:=fun e=>(wM.1 d).1 (e▸gJ c);have o:=zn1 (i:=i+1) (wM.1 d).2 c;have b:g.row.length=sgK.length:=rfl;simp only[esP,iY,b,KC j,aM];rw[o];congr 3;push_cast;omega
def dN(p:Bs)(n:Nat):List Seg:=⟨p,[],1,0⟩::(List.range n).map fun(j:Nat)=>⟨p,[],2,(j:Int)⟩
theorem xr5(p:Bs)(n:Nat):(dN p n).map Seg.row=jQ (kB p) p 2 n:=by simp[dN,jQ,kB,Seg.row,qJ]
theorem zY8(p:Bs)(n:Nat):(dN p n).Nodup:=by
 unfold dN;rw[wM];refine⟨by simp,?_⟩;rw[List.Nodup,List.pairwise_map];exact List.nodup_range.imp fun a e=>a (by injection e;omega)
theorem zS7{a:List Seg}(b:a.Nodup){i:Nat}{s:Seg}(h:a[i]?=some s):plc (esP 0 a) s=some (i:Int):=by
 have:=zn1 (i:=0) b h;rw[eT]at this;simp only[sgK]at this;simp only[plc,this]
theorem zS2{a:List Seg}(b:a.Nodup){i:Nat}{s:Seg}(h:a[i]?=some s):plN (esP 0 a) s=(i:Int):=by simp only[plN,zS7 b h];rfl
theorem xe0{a:List Seg}(d:a.Nodup){q:Bs}:(a.map (cpF q)).all (xM (esP 0 a))=true:=by
 rw[fK];intro f b;obtain⟨s,e,rfl⟩:=jE.1 b;obtain⟨i,c⟩:=lM.1 e;unfold xM;rw[show(cpF q s).to_=s from rfl,zS7 d c];rfl
theorem yv2{a:List Seg}(e:a.Nodup){q:Bs}{i j:Nat}{s t:Seg}(d:a[i]?=some s)(c:a[j]?=some t):cfE (esP 0 a) (cpF q s) (cpF q t)<0↔i<j:=by
 unfold cfE;rw[show(cpF q s).to_=s from rfl,show(cpF q t).to_=t from rfl,zS2 e d,zS2 e c];unfold JJ;by_cases h:i=j
 ·subst h;obtain rfl:s=t:=by rw[d]at c;injection c
  simp[orI,pP,Lib.compareInt]
 ·rcases Nat.lt_or_gt_of_ne h with k|k
  ·have b:Lib.compareInt (i:Int) (j:Int)=-1:=by simp[Lib.compareInt,k]
   simp[b,orI,k]
  ·have b:Lib.compareInt (i:Int) (j:Int)=1:=by
    have:¬(i:Int)<(j:Int):=by omega
    simp[Lib.compareInt,k,this]
   simp[b,orI];omega
theorem zQ8{e:List Seg}(g:e.Nodup){q:Bs}:mW (cfE (esP 0 e)) (e.map (cpF q))=true:=by
 unfold mW;rw[fK];rintro⟨a,i⟩c;rw[fK];rintro⟨b,j⟩d;rw[List.mem_zipIdx_iff_getElem?]at c d;simp only[pM,bS]at c d;obtain⟨s,k,rfl⟩:=c;obtain⟨t,l,rfl⟩:=d;simp only[beq_iff_eq,decide_eq_decide];exact yv2 g k l
theorem yA0{a:List Seg}(b:a.Nodup){q:Bs}:(a.map (cpF q)).Nodup:=za5 (zQ8 b)
theorem xu5{d:Fl->Fl->Int}{S ts:List Fl}(h:mW d S=true)(g:ts.Perm S)(q:ts.Pairwise fun x y=>¬d y x<0):ts=S:=by
 have p:ts.Nodup:=g.nodup_iff.2 (za5 h);have hm:∀x∈ts,x∈S:=fun x hx=>g.mem_iff.1 hx;have j:ts.Pairwise fun x y=>d x y<0:=by
  have:=List.pairwise_and_iff.2 ⟨q,p⟩;refine this.imp_of_mem fun c e i=>?_;rcases zQ9 h (hm _ c) (hm _ e) i.2 with k|k;·exact k
  ·exact absurd k i.1
 exact List.Perm.eq_of_pairwise (le:=fun x y=>d x y<0) (fun a b c e l o=>absurd (SO h (hm a c) e (hm a c) l o) (SN h (hm a c))) j (za6 h) g
section
open Go.Lib Go.Sort Go.Shelf
theorem zL4{P:Program}{C:Cx}{e:List EK}{t p w:TypeId}{E:Array Field}(B:P.underlying t=some (.map p w))(c:P.underlying p=some (.struct E))(o:gN P 100 p=some e){z:AV}(Q:sB P w=some z){d:List (AV×AV)}{g:Array MapEntry}{D:Nat}(K:d.length=g.size)(M:∀(i:Nat)k v m,d[i]?=some (k,v)->g[i]?=some m->Rel C k m.key/\Rel C v m.val){q:List AV}{s:Array Value}(hx:RelL C q s.toList)(L:q.length=e.length){r:Option AV}(J:iY e q d=some r):∃u,Rel C (r.getD z) u/\∀b a,a.heap[b]?=some (.map g D)->(Instr.lookup t (.map (some b)) (.agg s) false).run P a=.ok u a:=by
 obtain⟨X,S,U⟩:=TK (C:=C) Q;have y:s.size=e.length:=by have:=hx.1;simp at this;omega
 have j:=VP c o hx L d g.toList 0 r (by simpa using K) (fun i k v m F I=>M i k v m F (by simpa using I)) J;cases r with
 |none=>
  simp only at j;refine⟨X,S,fun b a l=>?_⟩;simp[Instr.lookup,run_underlying B,getObj,Sem.run,l,zR c o y,AB c (j a),U]|some Y=>
  obtain⟨i,u,V,W⟩:=j;refine⟨u,W,fun b a l=>?_⟩;simp[Instr.lookup,run_underlying B,getObj,Sem.run,l,zR c o y,AB c (V a)]
theorem yL6{W w:World}(hG:GrW W w){a:Addr}{v:Value}(h:W.cell? a=some v):w.cell? a=some v:=by
 obtain⟨n,b,rfl⟩:=hG;exact(Go.Sort.cell?_grow (W.drewN n) b a (by exact World.block_lt_of_cell? W a h)).trans h
theorem yL7{W w:World}(hG:GrW W w){b:Nat}{x:Obj}(h:W.heap[b]?=some x):w.heap[b]?=some x:=by
 obtain⟨n,a,rfl⟩:=hG;exact(II (lL.1 h).1).trans h
theorem KN{w:World}{b:Nat}{x:Obj}(h:w.heap[b]?=some x)(o:Obj):(w.alloc o).heap[b]?=some x:=by
 have a:=(lL.1 h).1;have e:(w.alloc o).heap=w.heap.push o:=rfl;rw[e,sK,if_neg (by omega)];exact h
theorem yS2(w:World):w.drew.heap=w.heap:=rfl
theorem GrW.trans{a b c:World}(h:GrW a b)(k:GrW b c):GrW a c:=by
 obtain⟨q,d,rfl⟩:=h;obtain⟨n,e,rfl⟩:=k;exact⟨q+n,d++e,by simp[Go.Sort.grow,World.drewN,Array.append_assoc,Nat.add_assoc]⟩
set_option maxHeartbeats 16000000 in set_option maxRecDepth 100000 in theorem yx2(cS:Seg->Seg->Int)(fI:Int->Int->Int)(hc:∀(a b:Seg)W',Calls Tryz.prog 212 #[.agg #[.string ⟨a.p.toArray⟩,.string ⟨a.m.toArray⟩,.int .i64 a.k,.int .i64 a.i],.agg #[.string ⟨b.p.toArray⟩,.string ⟨b.m.toArray⟩,.int .i64 b.k,.int .i64 b.i]] W' fun e w'=>e=.returned (.int .i64 (cS a b))/\GrW W' w')(hi:∀(a b:Int)W',Calls Tryz.prog 211 #[.int .i64 a,.int .i64 b] W' fun e w'=>e=.returned (.int .i64 (fI a b))/\w'=W')(p m p2 m2 p' m' p2' m2':Bs)(k i k2 i2 rt k' i' k2' i2' rt' n1 n2:Int)(W:World)(bq bm:Nat)(ms:Array MapEntry)(ck:Nat)(_:bq<W.heap.size)(_:bm<W.heap.size)(hq:W.cell? ⟨bq,0,none⟩=some (.map (some bm)))(hm:W.heap[bm]?=some (.map ms ck))(hk1:∀w':World,w'.heap[bm]?=some (.map ms ck)->(Instr.lookup 337 (.map (some bm)) (.agg #[.string ⟨p.toArray⟩,.string ⟨m.toArray⟩,.int .i64 k,.int .i64 i]) false).run Tryz.prog w'=.ok (.int .i64 n1) w')(hk2:∀w':World,w'.heap[bm]?=some (.map ms ck)->(Instr.lookup 337 (.map (some bm)) (.agg #[.string ⟨p'.toArray⟩,.string ⟨m'.toArray⟩,.int .i64 k',.int .i64 i']) false).run Tryz.prog w'=.ok (.int .i64 n2) w'):Calls Tryz.prog 209 #[.agg #[.string ⟨p.toArray⟩,.string ⟨m.toArray⟩,.int .i64 k,.int .i64 i,.string ⟨p2.toArray⟩,.string ⟨m2.toArray⟩,.int .i64 k2,.int .i64 i2,.int .i64 rt],.agg #[.string ⟨p'.toArray⟩,.string ⟨m'.toArray⟩,.int .i64 k',.int .i64 i',.string ⟨p2'.toArray⟩,.string ⟨m2'.toArray⟩,.int .i64 k2',.int .i64 i2',.int .i64 rt'],.pointer (some ⟨bq,0,none⟩)] W fun e w'=>e=.returned (.int .i64 (orI [fI n1 n2,cS ⟨p2,m2,k2,i2⟩ ⟨p2',m2',k2',i2'⟩,fI rt rt']))/\GrW W w':=by
 have hq2:=World.new_ne W ⟨bq,0,none⟩ hq;have hm2:∀o1 o2,((W.alloc o1).alloc o2).drew.heap[bm]?=some (.map ms ck):=fun o1 o2=>KN (KN hm o1) o2;have hm3:∀o1 o2,((W.alloc o1).alloc o2).heap[bm]?=some (.map ms ck):=fun o1 o2=>KN (KN hm o1) o2;go_enter Tryz.func209,Tryz.ntmps209;go_wp2;go_region_held3(fun w'=>w'.cell? ⟨W.heap.size,0,none⟩=some (.string ⟨p.toArray⟩)/\w'.cell? ⟨W.heap.size,1,none⟩=some (.string ⟨m.toArray⟩)/\w'.cell? ⟨W.heap.size,2,none⟩=some (.int .i64 k)/\w'.cell? ⟨W.heap.size,3,none⟩=some (.int .i64 i)/\w'.cell? ⟨W.heap.size,4,none⟩=some (.string ⟨p2.toArray⟩)/\w'.cell? ⟨W.heap.size,5,none⟩=some (.string ⟨m2.toArray⟩)/\w'.cell? ⟨W.heap.size,6,none⟩=some (.int .i64 k2)/\w'.cell? ⟨W.heap.size,7,none⟩=some (.int .i64 i2)/\w'.cell? ⟨W.heap.size,8,none⟩=some (.int .i64 rt)/\w'.cell? ⟨W.heap.size+1,0,none⟩=some (.string ⟨p'.toArray⟩)/\w'.cell? ⟨W.heap.size+1,1,none⟩=some (.string ⟨m'.toArray⟩)/\w'.cell? ⟨W.heap.size+1,2,none⟩=some (.int .i64 k')/\w'.cell? ⟨W.heap.size+1,3,none⟩=some (.int .i64 i')/\w'.cell? ⟨W.heap.size+1,4,none⟩=some (.string ⟨p2'.toArray⟩)/\w'.cell? ⟨W.heap.size+1,5,none⟩=some (.string ⟨m2'.toArray⟩)/\w'.cell? ⟨W.heap.size+1,6,none⟩=some (.int .i64 k2')/\w'.cell? ⟨W.heap.size+1,7,none⟩=some (.int .i64 i2')/\w'.cell? ⟨W.heap.size+1,8,none⟩=some (.int .i64 rt')/\w'.cell? ⟨bq,0,none⟩=some (.map (some bm))/\w'.heap[bm]?=some (.map ms ck))(simp[*,World.cell?_alloc_some,KN,yS2])(first|(go_at_call 211;refine(hi _ _ _).mono ?_;rintro e w'⟨rfl,rfl⟩)|(go_at_call 212;refine(hc ⟨p2,m2,k2,i2⟩ ⟨p2',m2',k2',i2'⟩ _).mono ?_;rintro e w'⟨rfl,hG⟩;have g1:=fun(a:Addr) (v:Value)h=>yL6 hG (a:=a) (v:=v) h;have g2:=fun(b:Nat) (x:Obj)h=>yL7 hG (b:=b) (x:=x) h)|(go_at_call 210;refine(yx5 _ _ (fI n1 n2) (cS ⟨p2,m2,k2,i2⟩ ⟨p2',m2',k2',i2'⟩) (fI rt rt') _ (by(try simp only[World.cell?_drew]);rw[jV (by simp)];rfl) (by(try simp only[World.cell?_drew]);rw[jV (by simp)];rfl) (by(try simp only[World.cell?_drew]);rw[jV (by simp)];rfl) (by omega)).mono ?_;rintro e w'⟨rfl,rfl⟩));all_goals go_wp2
 all_goals go_ret
 all_goals exact⟨rfl,by repeat(first|exact GrW.refl _|apply GrW.alloc|apply GrW.drew|(refine GrW.trans ?_ (by assumption)))⟩
theorem yx1(x y:Fl)(W:World)(l o:Int)(g d:Nat)(j:Array MapEntry)(i:Nat)(q:g<W.heap.size)(p:d<W.heap.size)(v:W.cell? ⟨g,0,none⟩=some (.map (some d)))(hm:W.heap[d]?=some (.map j i))(s:∀c:World,c.heap[d]?=some (.map j i)->(Instr.lookup 337 (.map (some d)) (.agg (EA x.to_).toArray) false).run Tryz.prog c=.ok (.int .i64 l) c)(u:∀c:World,c.heap[d]?=some (.map j i)->(Instr.lookup 337 (.map (some d)) (.agg (EA y.to_).toArray) false).run Tryz.prog c=.ok (.int .i64 o) c):Calls Tryz.prog 209 #[.agg (rF x).toArray,.agg (rF y).toArray,.pointer (some ⟨g,0,none⟩)] W fun e c=>e=.returned (.int .i64 (JJ l o x y))/\GrW W c:=yx2 pP Lib.compareInt (fun a b k=>yx6 a b k) (fun a b k=>WX a b k) _ _ _ _ _ _ _ _ _ _ _ _ _ _ _ _ _ _ l o W g d j i q p v hm s u
end
section
variable{h:aA}{m n:Nat}{ts:List Fl}{t:Fl}{seen:List Nat}{x:aA}
theorem yj7{G:Gam}(a:ts.length<=3000):opV G false (FH h m n ts seen x) (.app false 9 104) (some [.own h.length ts.length ts.length,.tsl [t.row]])=some (.own h.length (ts++[t]).length (ts++[t]).length,FH h m n (ts++[t]) seen x):=by
 have:=SK (G:=G) (s:=false) (h:=FH h m n ts seen x) (n:=9) (b:=104) (l:=h.length) (ver:=ts.length) (k:=ts.length) (x:=.tsl [t.row]) (new:=[t.row]) (rows:=eP ts) rfl yj8 (by simp) (by simp[dH,Fl.row]) (by simp) (by unfold dJ;simp;omega) (by unfold dJ;simp;omega);rw[this];congr 2;·simp
 ·unfold FH;rw[gK _ _ (by simp)];simp[eP]
end
theorem yK2{G:Gam}{J:List AV->aA->Option (AV×aA)}(hS:G Fn.cr=some (.gen J)){P:aA}{q m:Nat}{es:List (AV×AV)}{fs fs':List Fl}{Q:aS}(hQ:∀M S,aV M S 4=some (.own P.length fs.length fs.length)->Q .ret M S (FD P fs.length fs')){a0 a1 a4 a5 a6 a8 a9 a38 a49 a65 a75 a76 a77:AV}(C:bG P.length P=true)(hm:P[m]?=some (.map es))(hd:uU es=some fs)(f2:fs.length<=3000)(d2:∀ts:List Fl,ts.Perm fs->J [.own P.length ts.length ts.length,.fn Fn.ap [.ptr q 0]] (FD P ts.length ts)=some (.tup [],FD P fs.length fs'))(w:∀k,cQ (P.length+2) [(0,a0),(1,a1),(4,a4),(5,a5),(6,a6),(7,.ptr q 0),(8,a8),(9,a9),(10,.own P.length k k),(11,.junk),(38,a38),(49,a49),(65,a65),(75,a75),(76,a76),(77,a77),(88,.ptr (P.length+1) 0)]=true):∀(N:Nat)(seen:List Nat)(ts:List Fl),(left fs.length seen).length<=N->seen.Nodup->(∀i∈seen,i<fs.length)->ts=FQ fs seen->cY G [11] Mc.am_L1 (P.length+2) [.blk 3,.seq KI] Q [(0,a0),(1,a1),(4,a4),(5,a5),(6,a6),(7,.ptr q 0),(8,a8),(9,a9),(10,.own P.length ts.length ts.length),(11,.junk),(38,a38),(49,a49),(65,a65),(75,a75),(76,a76),(77,a77),(88,.ptr (P.length+1) 0)] (FH P m fs.length ts seen []):=by
 obtain⟨v,b1⟩:=XE hd;have D:m<P.length:=(aF.1 hm).1;have I:∀Z p,aY [11] [(0,a0),(1,a1),(4,a4),(5,a5),(6,a6),(7,.ptr q 0),(8,a8),(9,a9),(10,Z),(11,p),(38,a38),(49,a49),(65,a65),(75,a75),(76,a76),(77,a77),(88,AV.ptr (P.length+1) 0)]=[(0,a0),(1,a1),(4,a4),(5,a5),(6,a6),(7,.ptr q 0),(8,a8),(9,a9),(10,Z),(11,.junk),(38,a38),(49,a49),(65,a65),(75,a75),(76,a76),(77,a77),(88,.ptr (P.length+1) 0)]:=fun _ _=>rfl;have fin:∀(seen:List Nat)(ts:List Fl),left fs.length seen=[]->seen.Nodup->(∀i∈seen,i<fs.length)->ts=FQ fs seen->cY G [11] Mc.am_L1 (P.length+2) [.blk 3,.seq KI] Q [(0,a0),(1,a1),(4,a4),(5,a5),(6,a6),(7,.ptr q 0),(8,a8),(9,a9),(10,.own P.length ts.length ts.length),(11,.junk),(38,a38),(49,a49),(65,a65),(75,a75),(76,a76),(77,a77),(88,.ptr (P.length+1) 0)] (FH P m fs.length ts seen []):=by
  intro seen ts g b c d;have Y:ts.Perm fs:=by rw[d];exact xi8 b c (zK4 g)
  have X:=Y.length_eq;have L:opV G false (FD P ts.length ts) (.call Fn.cr) (some [.own P.length ts.length ts.length,.fn Fn.ap [.ptr q 0]])=some (.tup [],FD P fs.length fs'):=by
   rw[dV hS];exact d2 ts Y
  refine bQ (Mc.am_L1.eq_1) ?_;rw[I,VB C D (w _)];rw[EM,EL];show uP G (some 89) false _ _ _ _ (iG (FH P m fs.length ts seen []) (P.length+1));rw[zi7 hm v,g];intro r F;rcases gU.1 F with rfl;rw[yj9];generalize FD P ts.length ts=H1 at*;generalize FD P fs.length fs'=H2 at*;rw[X]at L;simp[KI,L,X];exact hQ _ _ rfl
 intro N;induction N with
 |zero=>
  intro seen ts hN b c d;exact fin seen ts (uL (by omega)) b c d|succ N ih=>
  intro seen ts hN b c d;cases g:left fs.length seen with
  |nil=>exact fin seen ts g b c d|cons i0 g1=>
   refine bQ (Mc.am_L1.eq_1) ?_;rw[I,VB C D (w _)];rw[EM,EL];show uP G (some 89) false _ _ _ _ (iG (FH P m fs.length ts seen []) (P.length+1));rw[zi7 hm v,g];intro r F;obtain⟨i,y,rfl⟩:=jE.1 F;rw[<-g]at y;obtain⟨W,c1⟩:=zK3.1 y;have E:fs[i]?=some fs[i]:=gI W;generalize f3:fs[i]=f at E;obtain⟨g2,V⟩:=b1 i f E;have b2:=yk0 (ts:=ts) (seen:=seen) (x:=[]) hm v V;have a3:(left fs.length (seen++[i])).length<=N:=by have:=zK5 y;omega
   have c3:(seen++[i]).Nodup:=by rw[List.nodup_append];exact⟨b,by simp,fun a u f1 U=>by simp at U;subst U;exact fun a2=>c1 (a2▸u)⟩
   have d1:∀j∈seen++[i],j<fs.length:=fun j e=>by
    rcases iK.1 e with e|e;·exact c j e
    ·simp at e;subst e;exact W
   have e2:ts.length<=3000:=by
    have h1:ts.length<=seen.length:=by rw[d];exact List.length_filterMap_le _ _
    have h2:=List.Nodup.length_le_of_subset b (l₂:=List.range fs.length) fun a u=>jF.2 (c a u);simp at h2;omega
   have d3:ts++[f]=FQ fs (seen++[i]):=by unfold FQ;rw[List.filterMap_append,d];simp[FQ,E]
   have e3:=ih (seen++[i]) (ts++[f]) a3 c3 d1 d3;have s:∀o x,FH P m fs.length o (seen++[i]) x=FH P m fs.length o (seen++[i]) []++x:=fun o x=>by simp[FH]
   have B:∀o,(FH P m fs.length o (seen++[i]) []).length=P.length+2:=fun o=>by simp[yk1]
   have l:=yK0 (G:=G) (H:=FH P m fs.length ts (seen++[i]) []) (f:=f);unfold vs0 at l;have ld:aB 9 true (FH P m fs.length ts (seen++[i]) []++[.cells f.row]) (.ptr (P.length+2) 0)=some (.agg f.row):=EP (l:=P.length+2) (vs:=f.row) (by rw[<-B ts];simp) rfl;have K:=yj7 (G:=G) (h:=P) (m:=m) (n:=fs.length) (ts:=ts) (seen:=seen++[i]) (x:=[.cells f.row]) (t:=f) e2;have ct:∀p,trunc (P.length+2) [(0,a0),(1,a1),(4,a4),(5,a5),(6,a6),(7,.ptr q 0),(8,a8),(9,a9),(10,.own P.length (ts++[f]).length (ts++[f]).length),(11,.junk),(38,a38),(49,a49),(65,a65),(75,a75),(76,a76),(77,a77),(88,.ptr (P.length+1) 0)] (FH P m fs.length (ts++[f]) (seen++[i]) []++[p])=FH P m fs.length (ts++[f]) (seen++[i]) []:=fun p=>by rw[<-s];exact VB C D (w _)
   rw[s,s (ts++[f])]at K;rw[B]at l;have bs:∀l h,opV G l h (.bsl false 9) (some [.agg f.row])=some (.tsl [f.row],h):=fun l h=>by rw[gF rfl];rfl
   have c2:=B ts;have b3:((es[i]?.getD (.junk,.junk)).1)=.agg f.row:=by rw[V];rfl
   rw[b3];generalize(es[i]?.getD (.junk,.junk)).2=VV;generalize FH P m fs.length ts (seen++[i]) []=H1 at*;generalize FH P m fs.length (ts++[f]) (seen++[i]) []=H2 at*;generalize(ts++[f]).length=K2 at*;generalize f.row=RW at*;simp[b2,c2,l,ld,bs,K,-aB,-gF,-xN];refine dT ?_;rw[I,ct];exact e3
end
end Go.Proofs.YtpefhfiehfkocaaGreatDoor
