/- Numbers and texts as bytes -/
import Derived.Test.YtpefhfiehfkocaaGreatDoorAm9
import Derived.Test.YtpefhfiehfkocaaGreatDoorRecMc
import Derived.Shelf.Strconv.Itoa3
namespace Go.Proofs.YtpefhfiehfkocaaGreatDoor
open Go.RowKit Go.IntWalk
noncomputable section
theorem XH{n:Nat}(h:n<10):Lib.decDigits n=[UInt8.ofNat (48+n)]:=by rw[Lib.decDigits];simp[h]
theorem yD5{n:Nat}(h:¬n<10):Lib.decDigits n=Lib.decDigits (n/10)++Lib.decDigits (n%10):=by
 rw[Lib.decDigits];simp only[h,dite_false];rw[XH (n:=n%10) (by omega)]
inductive Cnt where|ok(n i:Nat)|short|corrupt
def lO(a:Nat)(e:UInt8):Bs->Nat->Nat->Cnt
 |[],_,_=>.short|c::s,i,n=>if c=e/\0<i then .ok n i else if c.toNat<48\/57<c.toNat\/(0<i/\n=0)then .corrupt else if a<10*n+(c.toNat-48)then .corrupt else lO a e s (i+1) (10*n+(c.toNat-48))
theorem yE0{d:Nat}(h:d<10):(UInt8.ofNat (48+d)).toNat=48+d:=by simp;omega
theorem yD8{n d:Nat}(b:0<n)(a:d<10):Lib.decDigits (10*n+d)=Lib.decDigits n++[UInt8.ofNat (48+d)]:=by
 rw[yD5 (n:=10*n+d) (by omega),XH (n:=(10*n+d)%10) (by omega)];rw[show(10*n+d)/10=n by omega,show(10*n+d)%10=d by omega]
theorem zr8{f:Nat}{e:UInt8}:∀(s p:Bs)(i a:Nat){n j:Nat},lO f e s i a=.ok n j->((i=0/\a=0/\p=[])\/(0<i/\p=Lib.decDigits a/\i=p.length))->p++s=Lib.decDigits n++e::s.drop (j+1-i)/\j=(Lib.decDigits n).length/\i<=j/\(a<=f->n<=f)
 |[],_,_,_,_,_,h,_=>by cases h|c::s,p,i,a,n,j,h,b=>by
  rw[lO]at h;split at h
  ·rename_i g;injection h with m o;subst m o;obtain⟨rfl,r⟩:=g;rcases b with b|⟨_,rfl,b⟩;·omega
   ·refine⟨?_,b,bP _,id⟩;rw[show i+1-i=1 by omega];rfl
  ·split at h;·cases h
   ·rename_i g;split at h;·cases h
    ·rename_i u;obtain⟨d,q⟩:∃d,d=c.toNat-48:=⟨_,rfl⟩;rw[<-q]at h u;have l:d<10:=by omega
     have k:c=UInt8.ofNat (48+d):=by
      apply DG.1;rw[yE0 l];omega
     have v:p++[c]=Lib.decDigits (10*a+d):=by
      rcases b with⟨_,rfl,rfl⟩|⟨r,rfl,_⟩;·rw[XH (n:=10*0+d) (by omega),k];simp
      ·rw[yD8 (by omega) l,k]
     have t:i+1=(p++[c]).length:=by rcases b with⟨rfl,_,rfl⟩|⟨_,_,rfl⟩<;>simp
     obtain⟨k1,k2,k3,k4⟩:=zr8 s (p++[c]) (i+1) (10*a+d) h (.inr ⟨by omega,v,t⟩);refine⟨?_,k2,by omega,fun _=>k4 (by omega)⟩;rw[jT,List.singleton_append]at k1;rw[k1];rw[show j+1-i=(j+1-(i+1))+1 by omega,List.drop_succ_cons]
theorem zr9{a:Nat}{e:UInt8}{s:Bs}{n j:Nat}(h:lO a e s 0 0=.ok n j):s=Lib.decDigits n++e::s.drop (j+1)/\j=(Lib.decDigits n).length/\n<=a:=by
 obtain⟨k1,k2,_,k4⟩:=zr8 s [] 0 0 h (.inl ⟨rfl,rfl,rfl⟩);exact⟨by simpa using k1,k2,k4 (by omega)⟩
structure Rd where
 rest:Bs
 err:Int
def rdNum(b a:Int)(r:Rd):Int×Rd:=if r.err≠0 then(0,r)else match lO 281474976710656 59 r.rest 0 0 with
 |.ok n i=>if(n:Int)<b\/a<(n:Int)then(0,⟨[],3⟩)else(n,⟨r.rest.drop (i+1),0⟩)|.short=>(0,⟨[],13⟩)|.corrupt=>(0,⟨[],17⟩)
def bZ(a:Int)(r:Rd):Bs×Rd:=if r.err≠0 then([],r)else match lO 65536 58 r.rest 0 0 with
 |.ok n i=>match(r.rest.drop (i+1))[n]? with
  |none=>([],⟨[],13⟩)|some c=>if c≠44 then([],⟨[],17⟩)else if a<(n:Int)then([],⟨[],10⟩)else((r.rest.drop (i+1)).take n,⟨(r.rest.drop (i+1)).drop (n+1),0⟩)
 |.short=>([],⟨[],13⟩)|.corrupt=>([],⟨[],17⟩)
def mZ(r:Rd):Int:=if r.err=0/\r.rest≠[]then 17 else r.err
theorem xl5{b a:Int}{r:Rd}(h:r.err≠0):rdNum b a r=(0,r):=by unfold rdNum;rw[if_pos h]
theorem xl7{a:Int}{r:Rd}(h:r.err≠0):bZ a r=([],r):=by unfold bZ;rw[if_pos h]
@[simp]theorem xI0{a b:Int}:bY .mul (.n a) (.n b)=some (.n (IntKind.i64.wrap (a*b))):=rfl
theorem mC{n:Int}(a:0<=n)(b:n<1000):IntKind.i64.wrap n=n:=i64_in _ ⟨by omega,by omega⟩
theorem GB{h:aA}{l:Nat}{b:Blk}(a:h[l]?=some b):h.set l b=h:=by
 apply kL;intro j;rw[iZ];by_cases e:l=j
 ·subst e;rw[if_pos rfl,if_pos (aF.1 a).1,a]
 ·rw[if_neg e]
section
variable{G:Gam}{s:Bool}{h:aA}
theorem sV{b:List AV}{a:Nat}{v:AV}(d:b[a]?=some v):cut b a 1=[v]:=by
 obtain⟨c,rfl⟩:=aF.1 d;unfold cut;rw[zE c];rfl
theorem bT{l off:Nat}{vs:List AV}{v:AV}(a:h[l]?=some (.cells vs))(b:vs[off]?=some v):aB 1 false h (.ptr l off)=some v:=by simp[aB,a,sV b,aD]
@[simp]theorem xU4{l a:Nat}:opV G s h .nilck (some [.ptr l a])=some (.ptr l a,h):=by rw[bW rfl];rfl
end
def xo(a b:Int):Int:=IntKind.u64.wrap (BitVec.ofInt 64 a^^^BitVec.ofInt 64 b).toNat
def an(a b:Int):Int:=IntKind.u64.wrap (BitVec.ofInt 64 a&&&BitVec.ofInt 64 b).toNat
def oo(a b:Int):Int:=IntKind.u64.wrap (BitVec.ofInt 64 a|||BitVec.ofInt 64 b).toNat
def nt(a:Int):Int:=IntKind.u64.wrap (BitVec.ofInt 64 IntKind.u64.max^^^BitVec.ofInt 64 a).toNat
def sl(a b:Int):Int:=IntKind.u64.wrap (a*2^Nat.min b.toNat 64)
def sr(a b:Int):Int:=a.fdiv (2^Nat.min b.toNat 64)
theorem yf7(a:Int):0<=IntKind.u64.wrap a:=by
 unfold IntKind.wrap;simp[IntKind.signed,IntKind.bits];exact Int.emod_nonneg _ (by decide)
@[simp]theorem xI2{a b:Int}:bY .xor (.u a) (.u b)=some (.u (xo a b)):=rfl
@[simp]theorem xH9{a b:Int}:bY .and (.u a) (.u b)=some (.u (an a b)):=rfl
@[simp]theorem xI1{a b:Int}:bY .or (.u a) (.u b)=some (.u (oo a b)):=rfl
@[simp]theorem xC2{a:Int}:GO .xor (.u a)=some (.u (nt a)):=rfl
theorem zp4{a b:Int}{k:IntKind}(c:0<=b):bY .shl (.u a) (.int k b)=some (.u (sl a b)):=by
 have:¬b<0:=by omega
 simp[bY,this,sl,IntKind.bits]
theorem zp5{a b:Int}{k:IntKind}(c:0<=b):bY .shr (.u a) (.int k b)=some (.u (sr a b)):=by
 have:¬b<0:=by omega
 simp[bY,this,sr,IntKind.bits]
abbrev wd(a:List Int):List AV:=a.map (AV.int .u64)
abbrev nm(a:List Int):List AV:=a.map (AV.int .i64)
section
variable{G:Gam}{s:Bool}{h:aA}
theorem qC{len size l off i:Nat}{k:IntKind}(b:i<len)(a:2<=len):opV G s h (.aadr len size) (some [.ptr l off,.int k i])=some (.ptr l (off+i*size),h):=by
 rw[bW rfl];have:(0:Int)<=i/\(i:Int)<len/\2<=len:=⟨by omega,by omega,a⟩;simp[bV,this]
theorem za0{len i:Nat}{k:IntKind}{cs:List AV}{v:AV}(c:i<len)(b:cs[i]?=some v):opV G s h (.iarr len 1 false) (some [.agg cs,.int k i])=some (v,h):=by
 rw[bW rfl];have a:(0:Int)<=i/\(i:Int)<len:=⟨by omega,by omega⟩;have:=sV b;simp[bV,a,this,aD]
theorem JQ{vs:List AV}{n:Nat}(a:vs.length=n):cut vs 0 n=vs:=by subst a;simp[cut]
theorem jN{v:AV}(a:v.cells≠[]):opV G s h .box (some [v])=some (.ptr h.length 0,h++[.cells v.cells]):=by
 rw[fG rfl];simp only[bC];split;·rename_i e;exact absurd e a
 ·rename_i c b e;rw[e]
@[simp]theorem xF2{k:IntKind}:∀a:List Int,cV h (a.map (AV.int k))=some (a.map (AV.int k))
 |[]=>rfl|c::a=>by simp[xF2 a]
@[simp]theorem xh7{k:IntKind}:∀a:List Int,eZ (a.map (AV.int k))=[]
 |[]=>rfl|c::a=>by simp[eZ,owns,xh7 a]
theorem uO{f:Int->AV}(b:∀x,bE (f x)=true):∀a:List Int,(a.map f).all bE=true
 |[]=>rfl|c::a=>by simp[b,uO b a]
theorem qM{l n:Nat}{vs us:List AV}(d:h[l]?=some (.cells vs))(g:vs.length=n)(b:us.length=n)(a:0<n)(f:us.all bE=true):bB n h (.ptr l 0) (.agg us)=some (h.set l (.cells us)):=by
 have e:bF vs 0 us=us:=by rw[tR _ _ _ (by omega)];simp;omega
 have c:(AV.agg us).cells=us:=rfl;simp only[bB,c,d,e];rw[if_pos ⟨b,a,f⟩,if_pos (by omega)]
theorem EP{l n:Nat}{vs:List AV}(a:h[l]?=some (.cells vs))(b:vs.length=n):aB n true h (.ptr l 0)=some (.agg vs):=by subst b;simp[aB,a,cut,aD]
theorem NC{l off:Nat}{vs:List AV}{k:IntKind}{n:Int}(a:h[l]?=some (.cells vs))(b:off<vs.length):bB 1 h (.ptr l off) (.int k n)=some (h.set l (.cells (vs.set off (.int k n)))):=by simp[a,AV.cells,bE,bF,show off+1<=vs.length by omega]
end
def rD(k:IntKind):List AV->Option (List Int)
 |[]=>some []|.int a n::r=>if a=k then(rD k r).map (n::·)else none|_=>none
theorem DT(k:IntKind):∀a:List Int,rD k (a.map (AV.int k))=some a
 |[]=>rfl|x::a=>by simp[rD,DT k a]
theorem DU(k:IntKind):∀{l:List AV}{b:List Int},rD k l=some b->l=b.map (AV.int k)
 |[],b,h=>by simp only[rD,aE]at h;subst h;rfl|a::l,b,h=>by
  unfold rD at h;split at h;·rename_i e;cases e
  ·rename_i i n r e;injection e with c d;subst c d;split at h
   ·rename_i g;subst g;simp only[bS]at h;obtain⟨j,f,rfl⟩:=h;rw[DU _ f];rfl
   ·cases h
  ·cases h
def rW:REnc (List Int):=⟨wd,rD .u64,DT .u64,fun _ _=>DU .u64⟩
def rN:REnc (List Int):=⟨nm,rD .i64,DT .i64,fun _ _=>DU .i64⟩
theorem zu5(x:List Int):(pT rW).enc x=.agg (wd x):=rfl
theorem yF9(x:List Int):(pT rN).enc x=.agg (nm x):=rfl
theorem yc1{a b:Bs}(h:a.length+b.length<=rZ):bY .add (.str a) (.str b)=some (.str (a++b)):=by
 simp only[bY,eC];simp;unfold rZ at h⊢;omega
theorem xB6{n:Nat}(h:n<256):IntKind.u8.wrap (n:Int)=n:=by
 simp[IntKind.wrap,IntKind.signed,IntKind.bits];omega
theorem fJ{n:Nat}{a:List (Nat×AV)}{h:aA}(b:h.length=n):trunc n a h=h:=by
 subst b;unfold trunc;split;·exact zJ
 ·rfl
def jW:Cnt->AV
 |.ok n i=>.tup [.n n,.n ((i+1:Nat):Int),.n 0]|.short=>.tup [.n 0,.n 0,.n 13]|.corrupt=>.tup [.n 0,.n 0,.n 17]
def uE:List AV->aA->Option AV
 |[.ptr l 0,.n m,.int .u8 e],h=>match h[l]? with
  |some (.cellsT _ [.str s,.n _])=>if s.length<=big/\0<=m/\m<=281474976710656/\0<=e/\e<256 then some (jW (lO m.toNat (UInt8.ofNat e.toNat) s 0 0))else none|_=>none
 |_,_=>none
theorem zR6(G:Gam)(h:aA)(l:Nat)(tg:Option TypeId)(J:Int)(s:Bs)(f:h[l]?=some (.cellsT tg [.str s,.n J]))(j:Nat)(e:UInt8)(hs:s.length<=big)(hm:j<=281474976710656)(r:Cnt){ks:List MK}:∀(B:Bs)(i a:Nat)(z:AV),s.drop i=B->i<=s.length->a<=j->(i=0->a=0)->(1<i->0<a)->r=lO j e B i a->(∀u a z i,(r=.short/\i=s.length\/r=.corrupt/\i<s.length)->exM G .normal ks (eQ Rs.aq (jW r) h) u [(0,.ptr l 0),(1,.n j),(2,.int .u8 e.toNat),(6,.n 0),(7,.n 0),(8,.n 0),(9,a),(10,.n (i:Nat)),(11,z)] h)->cY G [11] Mc.aq_L0 h.length (.blk 0::ks) (eQ Rs.aq (jW r) h) [(0,.ptr l 0),(1,.n j),(2,.int .u8 e.toNat),(6,.n 0),(7,.n 0),(8,.n 0),(9,.n a),(10,.n i),(11,z)] h
 |[],i,a,z,F,hi,W,X,Y,b,v=>by
  have b1:=drop_nil F;have g:i=s.length:=by omega
  subst g;have k:ltB (s.length:Int) (s.length:Int)=false:=dQ.2 (by omega);have U:aB 1 false h (.ptr l 0)=some (.str s):=by simp[aB,f,cut,aD]
  simp only[lO]at b;refine bQ (Mc.aq_L0.eq_1) ?_;simp[fJ (n:=h.length) rfl,aW,f];exact v _ _ _ _ (.inl ⟨b,rfl⟩)|c::B,i,a,z,F,hi,W,X,Y,b,v=>by
  obtain⟨L,hx,a2⟩:=lG F;have k:ltB (i:Int) (s.length:Int)=true:=cH.2 (by omega);have U:aB 1 false h (.ptr l 0)=some (.str s):=by simp[aB,f,cut,aD]
  have n:∀st h,opV G st h .istr (some [.str s,.n i])=some (.int .u8 c.toNat,h):=fun st h=>vH hx;have M:IntKind.i64.wrap ((i:Int)+1)=((i+1:Nat):Int):=iJ (by omega);have a3:=c.toNat_lt;rw[lO]at b;refine bQ (Mc.aq_L0.eq_1) ?_;by_cases D:c=e/\0<i
  ·obtain⟨rfl,a1⟩:=D;have V:ltB 0 (i:Int)=true:=cH.2 (by omega);rw[if_pos ⟨rfl,a1⟩]at b;subst b;simp[fJ (n:=h.length) rfl,aW,k,f,n,V,M,jW,eQ,Rs.aq]
  ·rw[if_neg D]at b;obtain⟨x,p⟩:∃x,eqB (c.toNat:Int) (e.toNat:Int)=x:=⟨_,rfl⟩;obtain⟨y,m⟩:∃y,ltB 0 (i:Int)=y:=⟨_,rfl⟩;have A:(x&&y)=false:=by cases x with
    |false=>rfl|true=>cases y with
     |false=>rfl|true=>exact absurd ⟨DG.1 (by have:=kQ.1 p;omega),by have:=cH.1 m;omega⟩ D
   by_cases E:c.toNat<48\/57<c.toNat\/(0<i/\a=0)
   ·rw[if_pos E]at b;have w:=fun u a z=>v u a z i (.inr ⟨b,L⟩);by_cases k1:c.toNat<48
    ·have g:ltB (c.toNat:Int) 48=true:=cH.2 (by omega);cases x<;>cases y<;>first|(cases A;done)|(simp[fJ (n:=h.length) rfl,aW,k,f,n,p,m,g];exact w _ _ _)
    ·have g:ltB (c.toNat:Int) 48=false:=dQ.2 (by omega);by_cases k2:57<c.toNat
     ·have o:ltB 57 (c.toNat:Int)=true:=cH.2 (by omega);cases x<;>cases y<;>first|(cases A;done)|(simp[fJ (n:=h.length) rfl,aW,k,f,n,p,m,g,o];exact w _ _ _)
     ·have o:ltB 57 (c.toNat:Int)=false:=dQ.2 (by omega);obtain⟨i0,T⟩:0<i/\a=0:=by omega
      have i1:i=1:=by omega
      subst T i1;have y1:y=true:=by rw[<-m];exact cH.2 (by omega)
      subst y1;simp at n k m;cases x<;>first|(cases A;done)|(simp[fJ (n:=h.length) rfl,aW,k,f,n,p,g,o];exact w _ _ _)
   ·rw[if_neg E]at b;have g:ltB (c.toNat:Int) 48=false:=dQ.2 (by omega);have o:ltB 57 (c.toNat:Int)=false:=dQ.2 (by omega);obtain⟨q,H⟩:∃q,eqB (i:Int) 1=q:=⟨_,rfl⟩;obtain⟨t,I⟩:∃t,eqB (a:Int) 0=t:=⟨_,rfl⟩;have N:(q&&t)=false:=by cases q with
     |false=>rfl|true=>cases t with
      |false=>rfl|true=>exact absurd (.inr (.inr ⟨by have:=kQ.1 H;omega,by have:=kQ.1 I;omega⟩)) E
    obtain⟨d,Z⟩:∃d:Nat,d=c.toNat-48:=⟨_,rfl⟩;rw[<-Z]at b;have O:IntKind.u8.wrap ((c.toNat:Int)-48)=(d:Int):=by rw[show(c.toNat:Int)-48=(d:Int)by omega];exact xB6 (by omega)
    have P:IntKind.i64.wrap (d:Int)=d:=i64_in _ ⟨by omega,by omega⟩;have Q:IntKind.i64.wrap (10*(a:Int))=10*(a:Int):=i64_in _ ⟨by omega,by omega⟩;have S:IntKind.i64.wrap (10*(a:Int)+d)=((10*a+d:Nat):Int):=by rw[show 10*(a:Int)+d=((10*a+d:Nat):Int)by omega];exact i64_in _ ⟨by omega,by omega⟩
    by_cases K:j<10*a+d
    ·rw[if_pos K]at b;have w:=fun u a z=>v u a z i (.inr ⟨b,L⟩);have C:ltB (j:Int) (10*(a:Int)+d)=true:=cH.2 (by omega);cases x<;>cases y<;>cases q<;>cases t<;>first|(cases A;done)|(cases N;done)|(simp[fJ (n:=h.length) rfl,aW,k,f,n,p,m,H,I,g,o,C,O,P,Q,S];exact w _ _ _)
    ·rw[if_neg K]at b;have C:ltB (j:Int) (10*(a:Int)+d)=false:=dQ.2 (by omega);have ih:=zR6 G h l tg J s f j e hs hm r (ks:=ks) B (i+1) (10*a+d) (.int .u8 c.toNat) a2 (by omega) (by omega) (by omega) (by omega) b v;cases x<;>cases y<;>cases q<;>cases t<;>first|(cases A;done)|(cases N;done)|(simp[fJ (n:=h.length) rfl,aW,k,f,n,p,m,H,I,g,o,C,O,P,Q,S,M];simpa using ih)
theorem yz9{G:Gam}:LW G Mc.aq Rs.aq Ks.aq uE:=by
 intro t h r b;unfold uE at b;split at b
 ·rename_i l m e;split at b
  ·rename_i tg s g c;split at b
   ·rename_i o;injection b with b;subst b;obtain⟨j,w,x,h4,h5⟩:=o;obtain⟨k,rfl⟩:∃k:Nat,m=k:=⟨m.toNat,by omega⟩;obtain⟨E,n⟩:∃E:UInt8,e=(E.toNat:Int):=⟨UInt8.ofNat e.toNat,by rw[UInt8.toNat_ofNat'];omega⟩;subst n;have f:UInt8.ofNat ((E.toNat:Int)).toNat=E:=by simp
    rw[f];simp only[qV];obtain⟨r,d⟩:∃r,r=lO k E s 0 0:=⟨_,rfl⟩;rw[<-d,aT];have v:aB 1 false h (.ptr l 0)=some (.str s):=by simp[aB,c,cut,aD]
    have p:=zR6 G h l tg g s c k E j (by omega) r (ks:=[.seq (.seq (.seq (.reg [zm 62 10,zm 63 0,Zk 64 63,zf 65 0 64,zl 66 65,zn 67 0 66,zb 68 .eql 62 67]) (.ite (.t 68) (.seq (.reg [Kc 6 0,Kc 7 0,Kc 8 13]) .ret) .skip)) (.seq (.reg [Kc 6 0,Kc 7 0,Kc 8 17]) .ret))]) s 0 0 .junk rfl (by omega) (by omega) (fun _=>rfl) (by omega) d (fun u a z i h=>by
     rcases h with⟨rfl,rfl⟩|⟨rfl,y⟩
     ·have q:eqB (s.length:Int) (s.length:Int)=true:=kQ.2 rfl;simp[aW,c,jW,eQ,Rs.aq]
     ·have q:eqB (i:Int) (s.length:Int)=false:=gM.2 (by omega);simp[aW,c,q,jW,eQ,Rs.aq]);simpa[Mc.aq,aC,Ks.aq]using p
   ·cases b
  ·cases b
 ·cases b
theorem xg5{G:Gam}{st:Bool}{h:aA}{s:Bs}{i:Nat}(d:i+1<=s.length):opV G st h (.slc none true false false) (some [.str s,.n ((i:Int)+1)])=some (.str (s.drop (i+1)),h):=by
 rw[bW rfl];have a:(0:Int)<=(i:Int)+1:=by omega
 have b:(i:Int)+1<=(s.length:Int):=by omega
 have c:((i:Int)+1).toNat=i+1:=by omega
 simp[bV,qL,pA,qK,BH,a,b,c]
def bX(tg:Option TypeId)(r:Rd):Blk:=.cellsT tg [.str r.rest,.n r.err]
def yJ:List AV->aA->Option (AV×aA)
 |[.ptr l 0,.n e],h=>match h[l]? with
  |some (.cellsT tg [.str _,.n a])=>if a=0 then some (.tup [],h.set l (bX tg ⟨[],e⟩))else none|_=>none
 |_,_=>none
theorem yJ2{G:Gam}:GW G Mc.cd Rs.cd Ks.cd yJ:=by
 intro i h r m a;unfold yJ at a;split at a
 ·rename_i l e;split at a
  ·rename_i tg s j c;split at a
   ·rename_i d;simp only[aE,aR]at a;obtain⟨rfl,rfl⟩:=a;subst d;have f:l<h.length:=(aF.1 c).1;have g:∀b:Blk,(h.set l b)[l]?=some b:=fun b=>fL f;rw[aT];have k:aB 1 false h (.ptr l 1)=some (.n 0):=by simp[aB,c,cut,aD]
    simp[Mc.cd,aC,Ks.cd,c,g,bE,AV.cells,bF,eF,Rs.cd,cZ,eR,bX]
   ·cases a
  ·cases a
 ·cases a
def lW:List AV->aA->Option (AV×aA)
 |[.ptr l 0,.n c,.n b],h=>match h[l]? with
  |some (.cellsT tg [.str s,.n a])=>if s.length<=1000000 then some (.n (rdNum c b ⟨s,a⟩).1,h.set l (bX tg (rdNum c b ⟨s,a⟩).2))else none|_=>none
 |_,_=>none
theorem xl6{G:Gam}(y:G Fn.aq=some (.gen (bO uE)))(z:G Fn.cd=some (.gen yJ)):GW G Mc.ac Rs.ac Ks.ac lW:=by
 intro E h r I c;unfold lW at c;split at c
 ·rename_i l o k;split at c
  ·rename_i tg s f a;split at c
   ·rename_i L;simp only[aE,aR]at c;obtain⟨rfl,rfl⟩:=c;have A:l<h.length:=(aF.1 a).1;have K:∀b:Blk,(h.set l b)[l]?=some b:=fun b=>fL A;have H:aB 1 false h (.ptr l 1)=some (.n f):=by simp[aB,a,cut,aD]
    have F:aB 1 false h (.ptr l 0)=some (.str s):=by simp[aB,a,cut,aD]
    rw[aT];by_cases p:f=0
    ·subst p;have d:opV G false h (.call Fn.aq) (some [.ptr l 0,.n 281474976710656,.int .u8 59])=some (jW (lO 281474976710656 59 s 0 0),h):=by
      have:uE [.ptr l 0,.n 281474976710656,.int .u8 59] h=some (jW (lO 281474976710656 59 s 0 0)):=by
       simp only[uE,a];rw[if_pos ⟨by unfold big;omega,by omega,by omega,by omega,by omega⟩];rfl
      rw[dV y];simp[bO,this]
     have g:∀e:Int,opV G false h (.call Fn.cd) (some [.ptr l 0,.n e])=some (.tup [],h.set l (bX tg ⟨[],e⟩)):=fun e=>by rw[dV z];simp[yJ,a]
     have C:eqB 13 0=false:=rfl;have D:eqB 17 0=false:=rfl;have w:eqB 3 0=false:=rfl;simp only[rdNum];rw[if_neg (by simp)];cases j:lO 281474976710656 59 s 0 0 with
     |short=>
      rw[j]at d;simp[Mc.ac,aC,Ks.ac,a,d,jW,g,C,eF,Rs.ac]|corrupt=>
      rw[j]at d;simp[Mc.ac,aC,Ks.ac,a,d,jW,g,D,eF,Rs.ac]|ok n i=>
      rw[j]at d;obtain⟨k1,k2,k3⟩:=zr9 j;have J:i+1<=s.length:=by
       have:=congrArg List.length k1;simp only[iS,jA,List.length_drop]at this;omega
      by_cases u:(n:Int)<o
      ·have m:ltB (n:Int) o=true:=cH.2 u;simp only;rw[if_pos (.inl u)];simp[Mc.ac,aC,Ks.ac,a,d,jW,g,w,m,eF,Rs.ac]
      ·have m:ltB (n:Int) o=false:=dQ.2 (by omega);by_cases v:k<(n:Int)
       ·have t:ltB k (n:Int)=true:=cH.2 v;simp only;rw[if_pos (.inr v)];simp[Mc.ac,aC,Ks.ac,a,d,jW,g,w,m,t,eF,Rs.ac]
       ·have t:ltB k (n:Int)=false:=dQ.2 (by omega);simp only;rw[if_neg (by omega)];have sl:∀st,opV G st h (.slc none true false false) (some [.str s,.n ((i:Int)+1)])=some (.str (s.drop (i+1)),h):=fun st=>xg5 (by omega);simp[Mc.ac,aC,Ks.ac,a,d,jW,m,t,sl,bE,AV.cells,bF,bX,eF,Rs.ac]
    ·have q:eqB f 0=false:=gM.2 p;have x:rdNum o k ⟨s,f⟩=(0,⟨s,f⟩):=xl5 p;rw[x];have B:h.set l (bX tg ⟨s,f⟩)=h:=GB a;simp[Mc.ac,aC,Ks.ac,a,q,B,eF,Rs.ac]
   ·cases c
  ·cases c
 ·cases c
def yF:List AV->Option AV
 |[.str s]=>if s.length<=281474976710656 then some (.str s)else none|_=>none
def CP:List AV->aA->Option (AV×aA)
 |[.ptr l 0,.n b],h=>match h[l]? with
  |some (.cellsT tg [.str s,.n a])=>if s.length<=1000000 then some (.str (bZ b ⟨s,a⟩).1,h.set l (bX tg (bZ b ⟨s,a⟩).2))else none|_=>none
 |_,_=>none
section
variable{G:Gam}{st:Bool}{h:aA}
theorem ya3{s:Bs}{k:Nat}{m:Int}(b:m=k)(c:k<=s.length):opV G st h (.slc none true false false) (some [.str s,.n m])=some (.str (s.drop k),h):=by
 subst b;rw[bW rfl];have a:(k:Int)<=(s.length:Int):=by omega
 simp[bV,qL,pA,qK,BH,a]
theorem TW{s:Bs}{k:Nat}(b:k<=s.length):opV G st h (.slc none false true false) (some [.str s,.n k])=some (.str (s.take k),h):=by
 rw[bW rfl];have a:(k:Int)<=(s.length:Int):=by omega
 simp[bV,qL,pA,qK,BH,a]
theorem ya2{s:Bs}{a b:Nat}{m n:Int}(e:m=a)(f:n=b)(g:a<=b)(i:b<=s.length):opV G st h (.slc none true true false) (some [.str s,.n m,.n n])=some (.str ((s.take b).drop a),h):=by
 subst e f;rw[bW rfl];have c:(a:Int)<=(b:Int):=by omega
 have d:(b:Int)<=(s.length:Int):=by omega
 simp[bV,qL,pA,qK,BH,c,d]
theorem yV3{s:Bs}{k:Nat}{m:Int}{c:UInt8}(b:m=k)(a:s[k]?=some c):opV G st h .istr (some [.str s,.n m])=some (.int .u8 c.toNat,h):=by subst b;exact vH a
end
theorem xl8{G:Gam}(I:G Fn.aq=some (.gen (bO uE)))(J:G Fn.cd=some (.gen yJ))(K:G Fn.c7=some (.pure yF)):GW G Mc.aj Rs.aj Ks.aj CP:=by
 intro Q h r U d;unfold CP at d;split at d
 ·rename_i l m;split at d
  ·rename_i tg s f a;split at d
   ·rename_i X;simp only[aE,aR]at d;obtain⟨rfl,rfl⟩:=d;have W:l<h.length:=(aF.1 a).1;have T:aB 1 false h (.ptr l 1)=some (.n f):=by simp[aB,a,cut,aD]
    have S:aB 1 false h (.ptr l 0)=some (.str s):=by simp[aB,a,cut,aD]
    rw[aT];by_cases v:f=0
    ·subst v;have b:opV G false h (.call Fn.aq) (some [.ptr l 0,.n 65536,.int .u8 58])=some (jW (lO 65536 58 s 0 0),h):=by
      have:uE [.ptr l 0,.n 65536,.int .u8 58] h=some (jW (lO 65536 58 s 0 0)):=by
       simp only[uE,a];rw[if_pos ⟨by unfold big;omega,by omega,by omega,by omega,by omega⟩];rfl
      rw[dV I];simp[bO,this]
     have g:∀e:Int,opV G false h (.call Fn.cd) (some [.ptr l 0,.n e])=some (.tup [],h.set l (bX tg ⟨[],e⟩)):=fun e=>by rw[dV J];simp[yJ,a]
     have E:∀(t:Bs),t.length<=s.length->∀st h,opV G st h (.call Fn.c7) (some [.str t])=some (.str t,h):=fun t Y st h=>cU K (us:=[.str t]) rfl (by show(if _ then _ else _)=_;rw[if_pos (by omega)]) (.inl rfl);have A:eqB 13 0=false:=rfl;have B:eqB 17 0=false:=rfl;have N:eqB 10 0=false:=rfl;simp only[bZ];rw[if_neg (by simp)];cases k:lO 65536 58 s 0 0 with
     |short=>
      rw[k]at b;simp[Mc.aj,aC,Ks.aj,a,b,jW,g,A,eF,Rs.aj]|corrupt=>
      rw[k]at b;simp[Mc.aj,aC,Ks.aj,a,b,jW,g,B,eF,Rs.aj]|ok n i=>
      rw[k]at b;obtain⟨k1,k2,k3⟩:=zr9 k;have V:i+1<=s.length:=by
       have:=congrArg List.length k1;simp only[iS,jA,List.length_drop]at this;omega
      have o:IntKind.i64.wrap ((i:Int)+1+n)=(i:Int)+1+n:=i64_in _ ⟨by omega,by omega⟩;have P:IntKind.i64.wrap ((i:Int)+1+n+1)=(i:Int)+1+n+1:=i64_in _ ⟨by omega,by omega⟩;have L:(s.drop (i+1))[n]?=s[i+1+n]?:=by rw[oH]
      dsimp only;rw[L];by_cases D:s.length<=i+1+n
      ·have j:ltB ((i:Int)+1+n) (s.length:Int)=false:=dQ.2 (by omega);rw[lX D];simp[Mc.aj,aC,Ks.aj,a,aW,b,jW,g,A,o,j,eF,Rs.aj]
      ·have j:ltB ((i:Int)+1+n) (s.length:Int)=true:=cH.2 (by omega);obtain⟨c,y⟩:∃c,s[i+1+n]?=some c:=⟨_,gI (by omega)⟩;rw[y];have w:∀st h,opV G st h .istr (some [.str s,.n ((i:Int)+1+n)])=some (.int .u8 c.toNat,h):=fun st h=>yV3 (k:=i+1+n) (by omega) y;by_cases p:c=44
       ·subst p;have z:eqB (((44:UInt8).toNat:Nat):Int) 44=true:=rfl;by_cases u:m<(n:Int)
        ·have x:ltB m (n:Int)=true:=cH.2 u;simp only[ne_eq,not_true_eq_false,bH,if_pos u];simp[Mc.aj,aC,Ks.aj,a,aW,b,jW,g,N,o,j,w,x,eF,Rs.aj]
        ·have x:ltB m (n:Int)=false:=dQ.2 (by omega);simp only[ne_eq,not_true_eq_false,bH,if_neg u];have O:∀st,opV G st h (.slc none true true false) (some [.str s,.n ((i:Int)+1),.n ((i:Int)+1+n)])=some (.str ((s.drop (i+1)).take n),h):=fun st=>by
          rw[ya2 (a:=i+1) (b:=i+1+n) (by omega) (by omega) (by omega) (by omega),List.drop_take];rw[show i+1+n-(i+1)=n by omega]
         have C:∀st,opV G st h (.slc none true false false) (some [.str s,.n ((i:Int)+1+n+1)])=some (.str ((s.drop (i+1)).drop (n+1)),h):=fun st=>by
          rw[ya3 (k:=i+1+n+1) (by omega) (by omega),List.drop_drop];rw[show i+1+(n+1)=i+1+n+1 by omega]
         have F:=E ((s.drop (i+1)).take n) (by simp only[sM,List.length_drop];omega);simp only[List.drop_drop]at C⊢;simp[Mc.aj,aC,Ks.aj,a,aW,b,jW,o,P,j,w,x,O,C,F,bE,AV.cells,bF,bX,eF,Rs.aj]
       ·have z:eqB (c.toNat:Int) 44=false:=gM.2 fun e=>p (DG.1 (by simp;omega));simp only[ne_eq,p,not_false_eq_true,aM];simp[Mc.aj,aC,Ks.aj,a,aW,b,jW,g,B,o,j,w,z,eF,Rs.aj]
    ·have q:eqB f 0=false:=gM.2 v;have H:bZ m ⟨s,f⟩=([],⟨s,f⟩):=xl7 v;rw[H];have M:h.set l (bX tg ⟨s,f⟩)=h:=GB a;simp[Mc.aj,aC,Ks.aj,a,q,M,eF,Rs.aj]
   ·cases d
  ·cases d
 ·cases d
theorem xR{P:Program}{g:Gv}{f:FuncId}{F:List AV->Option AV}(l:∀(I:Nat->Nat->Option Value)(w:World)(a:List AV)(r:AV)(d:Array Value),Holds I w->GvHolds g I w->RelL (Cx.pure I) a d.toList->F a=some r->Calls P f d w fun e k=>(∃v,e=.returned v/\Rel (Cx.pure I) r v)/\Below w.heap.size w k):dP P g f F:=by
 intro I w a r d c n q m;refine(l I w a r d c n q m).mono fun e k p=>?_;obtain⟨⟨v,rfl,t⟩,i⟩:=p;exact⟨v,I,rfl,⟨fun _ _ _ h=>h,fun _ _ _ h _=>h⟩,⟨fun b o u j=>by rw[Below.cell i (p:=⟨b,o,none⟩) (rA (c.cell b o u j))];exact c.cell b o u j,c.one⟩,t,i⟩
theorem xm7{C:Cx}{a b c:AV}{x y z:Value}(h:Rel C a x)(k:Rel C b y)(l:Rel C c z):Rel C (.tup [a,b,c]) (.tuple #[x,y,z]):=.tup _ _ rfl fun i c v d e=>by match i with
 |0=>simp at d e;subst d e;exact h|1=>simp at d e;subst d e;exact k|2=>simp at d e;subst d e;exact l|_+3=>simp at d
theorem below_grow{w:World}{k:Nat}{os:Array Obj}:Below w.heap.size w (Go.Sort.grow (w.drewN k) os):=by
 have h:(w.drewN k).heap=w.heap/\(w.drewN k).os=w.os/\(w.drewN k).tape=w.tape/\(w.drewN k).output=w.output:=by
  constructor;·simp[World.drewN]
  ·refine⟨?_,?_,?_⟩<;>simp[World.drewN]
 refine⟨h.2.1,h.2.2.1,h.2.2.2,by simp[Go.Sort.grow],fun j a=>?_⟩;simp only[Go.Sort.grow,h.1];rw[II a]
theorem zP7{I:Nat->Nat->Option Value}{a:AV}{c:Array Value}(b:RelL (Cx.pure I) [a] c.toList):∃x,c=#[x]/\Rel (Cx.pure I) a x:=by
 obtain⟨f,g,d,e,b⟩:=b.inv_cons;have:=b.inv_nil;subst this;exact⟨f,by apply kK;simpa using d,e⟩
theorem GM{I:Nat->Nat->Option Value}{a b:AV}{d:Array Value}(c:RelL (Cx.pure I) [a,b] d.toList):∃x y,d=#[x,y]/\Rel (Cx.pure I) a x/\Rel (Cx.pure I) b y:=by
 obtain⟨i,k,e,f,c⟩:=c.inv_cons;obtain⟨j,l,rfl,g,c⟩:=c.inv_cons;have:=c.inv_nil;subst this;exact⟨i,j,by apply kK;simpa using e,f,g⟩
def wB:List AV->Option AV
 |[]=>some (.T)|_=>none
theorem zG7(G:Gam)(h:aA)(d:List (List AV))(f:FuncId)(g:List AV)(t:d.length<=big):∀(k:List (List AV))(i:Nat)(v:Int),d.drop i=k->mT (fun r=>if r.length=1 then(aD false 1 r).bind (ask G h f g)else none) i k=some v->cY G [5] Mc.cm_L0 h.length [.blk 0,.seq (.seq (.reg [Kc 4 (-1)]) .ret)] (eQ Rs.cm (.n v) h) [(0,.sl d),(1,.fn f g),(4,.n 0),(5,.junk),(7,.n d.length),(8,.n i)] h
 |[],i,v,m,c=>by
  have u:=drop_nil m;have j:¬(i:Int)<d.length:=by omega
  simp only[mT,aE]at c;subst c;refine bQ (Mc.cm_L0.eq_1) ?_;simp[ltB,j,eQ,Rs.cm,owns,dC]|x::k,i,v,m,c=>by
  obtain⟨u,q,y⟩:=lG m;have j:(i:Int)<d.length:=by omega
  have w:=iJ (i:=i) (by omega);by_cases e:x.length=1
  ·simp only[mT,e,aM]at c;cases n:aD false 1 x with
   |none=>simp[n]at c|some a=>
    simp only[n,wO]at c;have p:aD false 1 (cut x 0 1)=some a:=by rw[PH e];exact n
    cases l:ask G h f g a with
    |none=>simp[l]at c|some b=>
     have o:=VW l;simp only[l]at c;refine bQ (Mc.cm_L0.eq_1) ?_;cases b with
     |true=>
      simp only[aE]at c;subst c;simp[ltB,j,EO q e,p,o,eQ,Rs.cm,owns,dC]|false=>
      simp[ltB,j,EO q e,p,o,w];refine dT ?_;have z:=zG7 G h d f g t k (i+1) v y c;simpa using z
  ·simp[mT,e]at c
theorem yS9(G:Gam):LW G Mc.cm Rs.cm Ks.cm (nY false 1 G):=by
 intro i h r c;obtain⟨a,f,b,v,rfl,d,e,rfl⟩:=zj5 c;rw[aT];have g:=zG7 G h a f b d a 0 v rfl e;simpa[Mc.cm,aC,Ks.cm]using g
theorem yz6(G b:Gam)(g:G Fn.cm=some (.gen (bO (nY false 1 b)))):LW G Mc.db Rs.db Ks.db (nX false 1 b):=by
 intro m h r d;obtain⟨l,f,c,v,rfl,i,k,rfl⟩:=zj4 d;rw[aT];have j:∀a:aA,a=h->opV G false a (.call Fn.cm) (some [.sl l,.fn f c])=some (.n v,a):=fun a e=>by subst e;rw[dV g];simp[bO,nY,i,k]
 simp[Mc.db,aC,Ks.db,j,eQ,Rs.db,owns,dC]
theorem za2{G:Gam}{s:Bool}{h:aA}{str:Bs}{l pos:Nat}(a:h[l]?=some (.iter str pos)):opV G s h .nxt (some [.ptr l 0])=if pos<str.length then some (.tup [.T,.n pos,.int .i32 (Utf8.decode ⟨str.toArray⟩ pos).1],h.set l (.iter str (pos+(Utf8.decode ⟨str.toArray⟩ pos).2)))else some (.tup [.F],h):=by rw[fG rfl];simp only[bC,a]
@[simp]theorem xU7{G:Gam}{s:Bool}{h:aA}{a:Bs}:opV G s h .rng (some [.str a])=some (.ptr h.length 0,h++[.iter a 0]):=by rw[fG rfl];rfl
theorem eJ{n:Nat}{a:List (Nat×AV)}{h:aA}(b:h.length=n):trunc n a h=h:=by subst b;exact xz9
def rT(G:Gam)(h:aA)(f:FuncId)(c:List AV)(d:Bool)(s:Bs):Nat->Nat->Option Int
 |0,_=>none|n+1,a=>if a<s.length then(match ask G (h++[.iter s (a+(Utf8.decode ⟨s.toArray⟩ a).2)]) f c (.int .i32 (Utf8.decode ⟨s.toArray⟩ a).1)with
  |some b=>if b=d then some a else rT G h f c d s n (a+(Utf8.decode ⟨s.toArray⟩ a).2)|none=>none)else some (-1)
def CN(G:Gam):List AV->aA->Option AV
 |[.str s,.fn f a,.bool b],h=>(rT G h f a b s (s.length+1) 0).map (.n)|_,_=>none
def wE(G:Gam):List AV->aA->Option AV
 |[.str s,.fn f a],h=>(rT G h f a true s (s.length+1) 0).map (.n)|_,_=>none
def HV(G:Gam):List AV->aA->Option AV
 |[.str s,.fn f a],h=>(rT G h f a true s (s.length+1) 0).map fun i=>.bool (!ltB i 0)|_,_=>none
theorem zH4(G:Gam)(h:aA)(s:Bs)(f:FuncId)(g:List AV)(e:Bool):∀(n c:Nat)(v:Int),rT G h f g e s n c=some v->cY G [7,8,11] Mc.bm_L0 (h.length+1) [.blk 0,.seq (.seq (.reg [Kc 6 (-1)]) .ret)] (eQ Rs.bm (.n v) h) [(0,.str s),(1,.fn f g),(2,.bool e),(6,.n 0),(7,.junk),(8,.junk),(10,.ptr h.length 0),(11,.junk)] (h++[.iter s c])
 |0,c,v,a=>by simp[rT]at a|n+1,c,v,a=>by
  refine bQ (Mc.bm_L0.eq_1) ?_;rw[eJ (by simp)];have k:=fun p=>za2 (G:=G) (s:=p) (h:=h++[.iter s c]) (str:=s) (l:=h.length) (pos:=c) (by simp);simp only[rT]at a;by_cases d:c<s.length
  ·simp only[d,aM]at a;cases j:ask G (h++[.iter s (c+(Utf8.decode ⟨s.toArray⟩ c).2)]) f g (.int .i32 (Utf8.decode ⟨s.toArray⟩ c).1)with
   |none=>simp[j]at a|some b=>
    have l:=VW j;simp only[j]at a;by_cases i:b=e
    ·simp only[i,aM,aE]at a;subst a i;simp[k,d,l,eQ,Rs.bm,owns,dC]
    ·simp only[i,bH]at a;have m:(b==e)=false:=by simp[i]
     simp[k,d,l,m];refine dT ?_;have o:=zH4 G h s f g e n _ v a;rw[eJ (by simp)];simpa using o
  ·simp only[d,bH,aE]at a;subst a;simp[k,d,eQ,Rs.bm,owns,dC]
theorem zH5(G:Gam):LW G Mc.bm Rs.bm Ks.bm (CN G):=by
 intro b h r a;match b,a with
 |[.str s,.fn f c,.bool g],a=>
  simp only[CN,bS]at a;obtain⟨v,d,rfl⟩:=a;rw[aT];have e:=zH4 G h s f c g _ 0 v d;simpa[Mc.bm,aC,Ks.bm]using e
theorem yc0(G b:Gam)(e:G Fn.bm=some (.gen (bO (CN b)))):LW G Mc.b8 Rs.b8 Ks.b8 (wE b):=by
 intro c h r a;match c,a with
 |[.str s,.fn f d],a=>
  simp only[wE,bS]at a;obtain⟨v,i,rfl⟩:=a;rw[aT];have g:opV G false h (.call Fn.bm) (some [.str s,.fn f d,.T])=some (.n v,h):=by rw[dV e];simp[bO,CN,i]
  simp[Mc.b8,aC,Ks.b8,g,eQ,Rs.b8,owns,dC]
theorem xw4(G b:Gam)(e:G Fn.b8=some (.gen (bO (wE b)))):LW G Mc.c8 Rs.c8 Ks.c8 (HV b):=by
 intro c h r a;match c,a with
 |[.str s,.fn f d],a=>
  simp only[HV,bS]at a;obtain⟨v,i,rfl⟩:=a;rw[aT];have g:opV G false h (.call Fn.b8) (some [.str s,.fn f d])=some (.n v,h):=by rw[dV e];simp[bO,wE,i]
  simp[Mc.c8,aC,Ks.c8,g,eQ,Rs.c8,owns,dC]
def pch(n:Int):Bool:=(!ltB n 97&&!ltB 122 n)||(!ltB n 48&&!ltB 57 n)||eqB n 46||eqB n 95||eqB n 45
def NW:List AV->Option AV:=F1 (gV .i32) eBool fun n=>some (!pch n)
theorem xh9(G:Gam):PW G Mc.cz Rs.cz Ks.cz NW:=vY fun x r h=>by
 injection h with h;subst h;rw[aT];simp+contextual[Mc.cz,aC,Ks.cz,Rs.cz,gV,eBool,pch]
def qD:Bs->Bool
 |[]=>false|c::r=>!ltB 32 ((c::r).length:Nat)&&!eqB c.toNat 46&&!eqB c.toNat 45&&(c::r).all fun b=>pch b.toNat
theorem XI{s:Bs}{i:Nat}{b:UInt8}(a:s[i]?=some b)(h:b.toNat<128):Utf8.decode ⟨s.toArray⟩ i=(b.toNat,1):=by
 have c:(ByteArray.get! ⟨s.toArray⟩ i)=b:=by
  show s.toArray[i]! =b;simp[getElem!_def,a]
 unfold Utf8.decode;simp[c,h]
theorem zt8{s:Bs}{i:Nat}{b:UInt8}(d:s[i]?=some b)(h:128<=b.toNat):128<=(Utf8.decode ⟨s.toArray⟩ i).1:=by
 have e:(ByteArray.get! ⟨s.toArray⟩ (i+0))=b:=by
  show s.toArray[i]! =b;simp[getElem!_def,d]
 unfold Utf8.decode;have c:¬b.toNat<128:=by omega
 simp only[e,c,bH];split
 ·split;·simpa using‹_›
  ·decide
 ·split
  ·split;·rename_i a;simp at a;simp;omega
   ·decide
  ·split
   ·split;·rename_i a;simp at a;simp;omega
    ·decide
   ·decide
theorem zR5{n:Int}(h:128<=n):pch n=false:=by
 have a:ltB 122 n=true:=cH.2 (by omega);have b:ltB 57 n=true:=cH.2 (by omega);have c:eqB n 46=false:=gM.2 (by omega);have d:eqB n 95=false:=gM.2 (by omega);have e:eqB n 45=false:=gM.2 (by omega);simp[pch,a,b,c,d,e]
theorem zX8{G:Gam}(d:G Fn.cz=some (.pure NW))(h:aA)(s:Bs):∀(n a:Nat),s.length-a<n->∃v,rT G h Fn.cz [] true s n a=some v/\ltB v 0=(s.drop a).all fun b=>pch b.toNat
 |0,a,m=>by omega|n+1,a,m=>by
  have i:∀h(x:Int),ask G h Fn.cz [] (.int .i32 x)=some (!pch x):=fun h x=>DI (WR d rfl (tZ (A:=gV .i32) (R:=eBool) (x:=x) rfl) rfl);simp only[rT,i];by_cases c:a<s.length
  ·obtain⟨b,e,j⟩:=zu2 c;simp only[c,aM,j,sL];rcases lY b.toNat 128 with l|k
   ·rw[XI e l];cases o:pch b.toNat with
    |true=>
     simp only[uK,bM,bH,gH];exact zX8 d h s n (a+1) (by omega)|false=>exact⟨a,by simp,by simp[dQ]⟩
   ·have f:=zR5 (n:=(Utf8.decode ⟨s.toArray⟩ a).1) (by have:=zt8 e k;omega);have g:=zR5 (n:=b.toNat) (by omega);exact⟨a,by simp[f],by simp[g,dQ]⟩
  ·have:s.drop a=[]:=by rw[List.drop_eq_nil_iff];omega
   exact⟨-1,by simp[c],by rw[this];rfl⟩
def VG:List AV->Option AV:=F1 eStr eBool fun s=>some (qD s)
theorem xi0(G a:Gam)(g:G Fn.c8=some (.gen (bO (HV a))))(i:a Fn.cz=some (.pure NW)):PW G Mc.cy Rs.cy Ks.cy VG:=vY fun s r h=>by
 injection h with h;subst h;rw[aT];cases s with
 |nil=>simp[Mc.cy,aC,Ks.cy,Rs.cy,eStr,eBool,qD]|cons c r=>
  obtain⟨v,k,b⟩:=zX8 i [] (c::r) ((c::r).length+1) 0 (by omega);have j:opV G false [] (.call Fn.c8) (some [.str (c::r),.fn Fn.cz []])=some (.bool (!ltB v 0),[]):=by rw[dV g];simp only[bO,HV,k];rfl
  rw[wK]at b;cases d:ltB 32 ((r.length:Int)+1)<;>cases e:eqB (c.toNat:Int) 46<;>cases f:eqB (c.toNat:Int) 45<;>simp[Mc.cy,aC,Ks.cy,Rs.cy,eStr,eBool,qD,j,b,-List.all_cons,d,e,f]
def VC:List AV->Option AV:=F1 eStr eBool fun s=>some (!qD s)
theorem yn1(G:Gam)(a:G Fn.cy=some (.pure VG)):PW G Mc.da Rs.da Ks.da VC:=vY fun s r h=>by
 injection h with h;subst h;rw[aT];have b:∀st h,opV G st h (.call Fn.cy) (some [.str s])=some (.bool (qD s),h):=fun st h=>cU a rfl (tZ (A:=eStr) (R:=eBool) (x:=s) rfl) (.inl rfl);simp[Mc.da,aC,Ks.da,Rs.da,eStr,eBool,b]
theorem yb0(c:UInt8):∀s,(jS c s).length<=s.length+1
 |[]=>by simp[jS]|b::r=>by
  have a:=yb0 c r;unfold jS;split;·simp;omega
  ·split;·rename_i p d h;rw[h]at a;simp at a⊢;omega
   ·simp
def eH(s:Bs):Bool:=!ltB 128 s.length&&!ltB 8 (jS 47 s).length&&(jS 47 s).all qD
def yH:List AV->Option AV:=F1 eStr eInt fun s=>if s.length<4294967281 then some (if eH s then 0 else 2)else none
theorem yn2(G b:Gam)(j:G Fn.dr=some (.pure HG))(g:G Fn.db=some (.gen (bO (nX false 1 b))))(i:b Fn.da=some (.pure VC)):PW G Mc.cl Rs.cl Ks.cl yH:=vY fun s r h=>by
 split at h
 ·rename_i l;injection h with h;subst h;rw[aT];have f:∀st h,opV G st h (.call Fn.dr) (some [.str s,.str [47]])=some (.sl ((jS 47 s).map rStr.enc),h):=fun st h=>cU j rfl (zi4 (A:=eStr) (B:=eStr) (R:=eSl rStr) (x:=s) (y:=[47]) (by simp only[l,aM])) (.inr rfl);have a:=XC (h:=[]) (caps:=[]) (p:=fun x=>!qD x) (f:=Fn.da) (e:=rStr.enc) (val:=.str) (xs:=jS 47 s) g (by have:=yb0 47 s;unfold big;omega) (fun x=>⟨rfl,rfl⟩) (fun x _=>DI (WR i rfl (tZ (A:=eStr) (R:=eBool) (x:=x) rfl) rfl));have k:(jS 47 s).any (fun x=>!qD x)=!(jS 47 s).all qD:=by rw[List.not_all_eq_any_not]
  rw[k]at a;cases d:ltB 128 s.length<;>cases e:ltB 8 (jS 47 s).length<;>cases c:(jS 47 s).all qD<;>simp only[c]at a<;>simp[Mc.cl,aC,Ks.cl,Rs.cl,eStr,eInt,eH,f,a,d,e,c]
 ·cases h
structure Touch where
 path:Bs
 dig:Bs deriving DecidableEq,Inhabited
structure Done where
 pkg:Int
 line:Int
 kind:Int
 reads:List Touch
 wrote:Touch deriving DecidableEq,Inhabited
def Touch.row(t:Touch):List AV:=[.str t.path,.str t.dig]
def PS:List AV->Option Touch
 |[.str p,.str d]=>some ⟨p,d⟩|_=>none
def dW{b:Type}(a:List AV->Option b):List (List AV)->Option (List b)
 |[]=>some []|r::c=>match a r,dW a c with
  |some x,some d=>some (x::d)|_,_=>none
theorem rC{b:Type}{c:List AV->Option b}{enc:b->List AV}(d:∀r x,c r=some x->r=enc x):∀{e:List (List AV)}{a:List b},dW c e=some a->e=a.map enc
 |[],a,h=>by simp[dW]at h;subst h;rfl|r::i,a,h=>by
  simp only[dW]at h;split at h
  ·rename_i x j f g;injection h with h;subst h;rw[d r x f,rC d g];rfl
  ·cases h
theorem mQ{b:Type}{c:List AV->Option b}{d:b->List AV}(e:∀x,c (d x)=some x):∀(a:List b),dW c (a.map d)=some a
 |[]=>rfl|x::a=>by simp[dW,e,mQ e a]
@[simp]theorem yD4(t:Touch):PS t.row=some t:=rfl
def NH(a:List Touch):List (List AV):=a.map Touch.row
@[simp]theorem xX3{a:List Touch}:(NH a).length=a.length:=by simp[NH]
@[simp]theorem xL4(a:List Touch):dW PS (NH a)=some a:=mQ yD4 a
def Done.row(d:Done):List AV:=[.n d.pkg,.n d.line,.n d.kind,.sl (NH d.reads),.str d.wrote.path,.str d.wrote.dig]
def XD:List AV->Option Done
 |[.n p,.n l,.n k,.sl a,.str c,.str wd]=>(dW PS a).map fun b=>⟨p,l,k,b,⟨c,wd⟩⟩|_=>none
@[simp]theorem yB6(d:Done):XD d.row=some d:=by simp[XD,Done.row]
def XK(a:List Done):List (List AV):=a.map Done.row
@[simp]theorem xL7{a:List Done}:(XK a).length=a.length:=by simp[XK]
@[simp]theorem xK7(a:List Done):dW XD (XK a)=some a:=mQ yB6 a
def zO(p d:Bs):Bool:=(d++[47]).isPrefixOf p
def NI:List Touch->List Touch->Int
 |_,[]=>0|a,f::r=>if eH f.path=false then 2 else if 65536<f.dig.length then 10 else if(a.getLast?.map fun g=>Op.bytesLess g.path f.path)=some false then 5 else if a.any (fun g=>zO f.path g.path)then 6 else NI (a++[f]) r
def UO(t:List Touch):Int:=if 64<t.length then 10 else NI [] t
theorem xi3{s:Bs}(h:eH s=true):s.length<=128:=by
 unfold eH at h;simp only[bR,mM]at h;have:=h.1.1;rw[dQ]at this;omega
structure Bun where
 man:Bs
 pap:List Touch
 src:List Touch
def qR:List AV->Option AV
 |[.str s,.str t]=>some (.bool (t.isPrefixOf s))|_=>none
end
end Go.Proofs.YtpefhfiehfkocaaGreatDoor
