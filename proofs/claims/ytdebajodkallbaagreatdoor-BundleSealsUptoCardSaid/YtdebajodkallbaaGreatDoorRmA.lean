/- Numbers and texts as bytes -/
import Derived.Test.YtdebajodkallbaaGreatDoorAm10
import Derived.Test.YtdebajodkallbaaGreatDoorRecMc
import Derived.Shelf.Strconv.Itoa3
namespace Go.Proofs.YtdebajodkallbaaGreatDoor
open Go.RowKit Go.IntWalk
noncomputable section
theorem rU{n:Nat}(h:n<10):Lib.decDigits n=[UInt8.ofNat (48+n)]:=by rw[Lib.decDigits];simp[h]
theorem JC{n:Nat}(h:¬n<10):Lib.decDigits n=Lib.decDigits (n/10)++Lib.decDigits (n%10):=by
 rw[Lib.decDigits];simp only[h,dite_false];rw[rU (n:=n%10) (by omega)]
theorem vN:∀(k n:Nat),n<10^k->(Lib.decDigits n).length<=k+1
 |0,n,h=>by
  have:n=0:=by simpa using h
  subst this;rw[rU (by omega)];simp|k+1,n,h=>by
  by_cases a:n<10;·rw[rU a];simp
  ·rw[JC a,rU (n:=n%10) (by omega)];have:=vN k (n/10) (by rw[Nat.pow_succ]at h;omega);simp;omega
theorem UG:∀(k n:Nat),n<k->0<(Lib.decDigits n).length
 |0,_,h=>by omega|k+1,n,h=>by
  by_cases a:n<10;·rw[rU a];simp
  ·rw[JC a];have:=UG k (n/10) (by omega);simp;omega
theorem zx3{n:Int}(h:0<=n):Lib.itoa n=Lib.decDigits n.toNat:=by unfold Lib.itoa;rw[if_neg (by omega)]
inductive Cnt where|ok(n i:Nat)|short|corrupt
def fY(a:Nat)(e:UInt8):Bs->Nat->Nat->Cnt
 |[],_,_=>.short|c::s,i,n=>if c=e/\0<i then .ok n i else if c.toNat<48\/57<c.toNat\/(0<i/\n=0)then .corrupt else if a<10*n+(c.toNat-48)then .corrupt else fY a e s (i+1) (10*n+(c.toNat-48))
theorem zo7{d:Nat}(h:d<10):(UInt8.ofNat (48+d)).toNat=48+d:=by simp;omega
theorem zm5{c:Nat}{e:UInt8}(g:e.toNat<48\/57<e.toNat){d i a:Nat}{s:Bs}(f:d<10)(k:¬(0<i/\a=0))(l:10*a+d<=c):fY c e (UInt8.ofNat (48+d)::s) i a=fY c e s (i+1) (10*a+d):=by
 have b:=zo7 f;have j:UInt8.ofNat (48+d)≠e:=fun h=>by rw[<-h,b]at g;omega
 rw[fY,if_neg (fun h=>j h.1),if_neg (by rw[b];omega),b];rw[if_neg (by omega)];rw[show 48+d-48=d by omega]
theorem zm4{c:Nat}{e:UInt8}(b:e.toNat<48\/57<e.toNat):∀(k n:Nat)(s:Bs),n<k->n<=c->fY c e (Lib.decDigits n++s) 0 0=fY c e s (Lib.decDigits n).length n
 |0,_,_,h,_=>by omega|k+1,n,s,h,d=>by
  by_cases a:n<10
  ·rw[rU a];rw[NY,zm5 b a (by omega) (by omega)];simp
  ·rw[JC a,rU (n:=n%10) (by omega),iN,zm4 b k (n/10) _ (by omega) (by omega),NY];have f:=UG (n/10+1) (n/10) (by omega);rw[zm5 b (by omega) (by omega) (by omega)];simp only[bX,vE];congr 1;omega
theorem zm3{a:Nat}{e:UInt8}(b:e.toNat<48\/57<e.toNat){n:Nat}{s:Bs}(c:n<=a):fY a e (Lib.decDigits n++e::s) 0 0=.ok n (Lib.decDigits n).length:=by rw[zm4 b (n+1) n _ (by omega) c,fY,if_pos ⟨rfl,UG (n+1) n (by omega)⟩]
theorem yv5{n d:Nat}(b:0<n)(a:d<10):Lib.decDigits (10*n+d)=Lib.decDigits n++[UInt8.ofNat (48+d)]:=by
 rw[JC (n:=10*n+d) (by omega),rU (n:=(10*n+d)%10) (by omega)];rw[show(10*n+d)/10=n by omega,show(10*n+d)%10=d by omega]
theorem zm6{f:Nat}{e:UInt8}:∀(s p:Bs)(i a:Nat){n j:Nat},fY f e s i a=.ok n j->((i=0/\a=0/\p=[])\/(0<i/\p=Lib.decDigits a/\i=p.length))->p++s=Lib.decDigits n++e::s.drop (j+1-i)/\j=(Lib.decDigits n).length/\i<=j/\(a<=f->n<=f)
 |[],_,_,_,_,_,h,_=>by cases h|c::s,p,i,a,n,j,h,b=>by
  rw[fY]at h;split at h
  ·rename_i g;injection h with m o;subst m o;obtain⟨rfl,r⟩:=g;rcases b with b|⟨_,rfl,b⟩;·omega
   ·refine⟨?_,b,dA _,id⟩;rw[show i+1-i=1 by omega];rfl
  ·split at h;·cases h
   ·rename_i g;split at h;·cases h
    ·rename_i u;obtain⟨d,q⟩:∃d,d=c.toNat-48:=⟨_,rfl⟩;rw[<-q]at h u;have l:d<10:=by omega
     have k:c=UInt8.ofNat (48+d):=by
      apply rP.1;rw[zo7 l];omega
     have v:p++[c]=Lib.decDigits (10*a+d):=by
      rcases b with⟨_,rfl,rfl⟩|⟨r,rfl,_⟩;·rw[rU (n:=10*0+d) (by omega),k];simp
      ·rw[yv5 (by omega) l,k]
     have t:i+1=(p++[c]).length:=by rcases b with⟨rfl,_,rfl⟩|⟨_,_,rfl⟩<;>simp
     obtain⟨k1,k2,k3,k4⟩:=zm6 s (p++[c]) (i+1) (10*a+d) h (.inr ⟨by omega,v,t⟩);refine⟨?_,k2,by omega,fun _=>k4 (by omega)⟩;rw[iN,NY]at k1;rw[k1];rw[show j+1-i=(j+1-(i+1))+1 by omega,List.drop_succ_cons]
theorem DV{a:Nat}{e:UInt8}{s:Bs}{n j:Nat}(h:fY a e s 0 0=.ok n j):s=Lib.decDigits n++e::s.drop (j+1)/\j=(Lib.decDigits n).length/\n<=a:=by
 obtain⟨k1,k2,_,k4⟩:=zm6 s [] 0 0 h (.inl ⟨rfl,rfl,rfl⟩);exact⟨by simpa using k1,k2,k4 (by omega)⟩
structure Rd where
 rest:Bs
 err:Int
def rdNum(b a:Int)(r:Rd):Int×Rd:=if r.err≠0 then(0,r)else match fY 281474976710656 59 r.rest 0 0 with
 |.ok n i=>if(n:Int)<b\/a<(n:Int)then(0,⟨[],3⟩)else(n,⟨r.rest.drop (i+1),0⟩)|.short=>(0,⟨[],13⟩)|.corrupt=>(0,⟨[],17⟩)
def bG(a:Int)(r:Rd):Bs×Rd:=if r.err≠0 then([],r)else match fY 65536 58 r.rest 0 0 with
 |.ok n i=>match(r.rest.drop (i+1))[n]? with
  |none=>([],⟨[],13⟩)|some c=>if c≠44 then([],⟨[],17⟩)else if a<(n:Int)then([],⟨[],10⟩)else((r.rest.drop (i+1)).take n,⟨(r.rest.drop (i+1)).drop (n+1),0⟩)
 |.short=>([],⟨[],13⟩)|.corrupt=>([],⟨[],17⟩)
def jC(r:Rd):Int:=if r.err=0/\r.rest≠[]then 17 else r.err
def bQ(n:Nat):Bs:=Lib.decDigits n++[59]
def cM(s:Bs):Bs:=Lib.decDigits s.length++58::(s++[44])
theorem zH7{n:Nat}{b a:Int}{s:Bs}(f:b<=n)(d:(n:Int)<=a)(c:n<=281474976710656):rdNum b a ⟨bQ n++s,0⟩=((n:Int),⟨s,0⟩):=by
 unfold rdNum bQ;rw[if_neg (by simp)];have e:Lib.decDigits n++[59]++s=Lib.decDigits n++59::s:=by simp
 simp only[e];rw[zm3 (by decide) c];simp only;rw[if_neg (by omega)];congr 2;rw[xM];simp
theorem zI0{t s:Bs}{a:Int}(g:(t.length:Int)<=a)(f:t.length<=65536):bG a ⟨cM t++s,0⟩=(t,⟨s,0⟩):=by
 unfold bG cM;rw[if_neg (by simp)];have e:Lib.decDigits t.length++58::(t++[44])++s=Lib.decDigits t.length++58::(t++44::s):=by simp
 simp only[e];rw[zm3 (by decide) f];have b:(Lib.decDigits t.length++58::(t++44::s)).drop ((Lib.decDigits t.length).length+1)=t++44::s:=by rw[xM];simp
 simp only[b];have c:(t++44::s)[t.length]?=some 44:=by simp
 rw[c];simp only[ne_eq,xP,bY];rw[if_neg (by omega)];have d:(t++44::s).drop (t.length+1)=s:=by rw[xM];simp
 rw[d];simp
theorem zH9{e d:Int}{r c:Rd}{n:Int}(h:rdNum e d r=(n,c))(a:c.err=0):r.err=0/\∃k:Nat,n=k/\e<=n/\n<=d/\k<=281474976710656/\r.rest=bQ k++c.rest:=by
 unfold rdNum at h;split at h
 ·rename_i b;simp only[dF]at h;obtain⟨_,rfl⟩:=h;exact absurd a b
 ·rename_i b;refine⟨by simpa using b,?_⟩;split at h
  ·rename_i k i f;split at h;·simp only[dF]at h;obtain⟨_,rfl⟩:=h;cases a
   ·rename_i g;simp only[dF]at h;obtain⟨rfl,rfl⟩:=h;obtain⟨k1,k2,k3⟩:=DV f;refine⟨k,rfl,by omega,by omega,k3,?_⟩;unfold bQ;simpa using k1
  ·simp only[dF]at h;obtain⟨_,rfl⟩:=h;cases a
  ·simp only[dF]at h;obtain⟨_,rfl⟩:=h;cases a
theorem wE{n:Int}{r l:Rd}{t:Bs}(h:bG n r=(t,l))(b:l.err=0):r.err=0/\(t.length:Int)<=n/\t.length<=65536/\r.rest=cM t++l.rest:=by
 unfold bG at h;split at h
 ·rename_i e;simp only[dF]at h;obtain⟨_,rfl⟩:=h;exact absurd b e
 ·rename_i e;refine⟨by simpa using e,?_⟩;split at h
  ·rename_i k i q;split at h;·simp only[dF]at h;obtain⟨_,rfl⟩:=h;cases b
   ·rename_i c d;split at h;·simp only[dF]at h;obtain⟨_,rfl⟩:=h;cases b
    ·rename_i g;have g:c=44:=by simpa using g
     subst g;split at h;·simp only[dF]at h;obtain⟨_,rfl⟩:=h;cases b
     ·rename_i v;simp only[dF]at h;obtain⟨rfl,rfl⟩:=h;obtain⟨k1,k2,k3⟩:=DV q;obtain⟨a,p⟩:∃a,a=r.rest.drop (i+1):=⟨_,rfl⟩;rw[<-p]at k1 d⊢;have m:k<a.length:=by
       rcases mA k a.length with h|h;·exact h
       ·rw[lX h]at d;cases d
      have j:(a.take k).length=k:=by rw[lY];omega
      refine⟨by rw[j];omega,by rw[j];exact k3,?_⟩;unfold cM;rw[j];have u:a=a.take k++44::a.drop (k+1):=by
       have f:=(oZ k a).symm;rw[xN m]at f;have o:a[k]=44:=by rw[jT m]at d;injection d
       rw[o]at f;exact f
      rw[k1];conv=>lhs;rw[u]
      simp
  ·simp only[dF]at h;obtain⟨_,rfl⟩:=h;cases b
  ·simp only[dF]at h;obtain⟨_,rfl⟩:=h;cases b
theorem zH8{b a:Int}{r:Rd}(h:r.err≠0):rdNum b a r=(0,r):=by unfold rdNum;rw[if_pos h]
theorem zI1{a:Int}{r:Rd}(h:r.err≠0):bG a r=([],r):=by unfold bG;rw[if_pos h]
@[simp]theorem xz4{a b:Int}:aW .mul (.n a) (.n b)=some (.n (IntKind.i64.wrap (a*b))):=rfl
theorem fO{n:Int}(a:0<=n)(b:n<1000):IntKind.i64.wrap n=n:=i64_in _ ⟨by omega,by omega⟩
theorem uI{h:aA}{l:Nat}{b:Blk}(a:h[l]?=some b):h.set l b=h:=by
 apply rK;intro j;rw[iY];by_cases e:l=j
 ·subst e;rw[if_pos rfl,if_pos (aV.1 a).1,a]
 ·rw[if_neg e]
section
variable{G:Gam}{s:Bool}{h:aA}
theorem jV{b:List AV}{a:Nat}{v:AV}(d:b[a]?=some v):cut b a 1=[v]:=by
 obtain⟨c,rfl⟩:=aV.1 d;unfold cut;rw[xN c];rfl
theorem aR{l off:Nat}{vs:List AV}{v:AV}(a:h[l]?=some (.cells vs))(b:vs[off]?=some v):aB 1 false h (.ptr l off)=some v:=by simp[aB,a,jV b,aE]
@[simp]theorem xL1{l a:Nat}:opV G s h .nilck (some [.ptr l a])=some (.ptr l a,h):=by rw[eV rfl];rfl
end
def xo(a b:Int):Int:=IntKind.u64.wrap (BitVec.ofInt 64 a^^^BitVec.ofInt 64 b).toNat
def an(a b:Int):Int:=IntKind.u64.wrap (BitVec.ofInt 64 a&&&BitVec.ofInt 64 b).toNat
def oo(a b:Int):Int:=IntKind.u64.wrap (BitVec.ofInt 64 a|||BitVec.ofInt 64 b).toNat
def nt(a:Int):Int:=IntKind.u64.wrap (BitVec.ofInt 64 IntKind.u64.max^^^BitVec.ofInt 64 a).toNat
def sl(a b:Int):Int:=IntKind.u64.wrap (a*2^Nat.min b.toNat 64)
def sr(a b:Int):Int:=a.fdiv (2^Nat.min b.toNat 64)
theorem zS7(a:Int):0<=IntKind.u64.wrap a:=by
 unfold IntKind.wrap;simp[IntKind.signed,IntKind.bits];exact Int.emod_nonneg _ (by decide)
@[simp]theorem xz7{a b:Int}:aW .xor (.u a) (.u b)=some (.u (xo a b)):=rfl
@[simp]theorem xz3{a b:Int}:aW .and (.u a) (.u b)=some (.u (an a b)):=rfl
@[simp]theorem xz5{a b:Int}:aW .or (.u a) (.u b)=some (.u (oo a b)):=rfl
@[simp]theorem zR9{a:Int}:CM .xor (.u a)=some (.u (nt a)):=rfl
theorem OF{a b:Int}{k:IntKind}(c:0<=b):aW .shl (.u a) (.int k b)=some (.u (sl a b)):=by
 have:¬b<0:=by omega
 simp[aW,this,sl,IntKind.bits]
theorem OG{a b:Int}{k:IntKind}(c:0<=b):aW .shr (.u a) (.int k b)=some (.u (sr a b)):=by
 have:¬b<0:=by omega
 simp[aW,this,sr,IntKind.bits]
abbrev wd(a:List Int):List AV:=a.map (AV.int .u64)
abbrev nm(a:List Int):List AV:=a.map (AV.int .i64)
section
variable{G:Gam}{s:Bool}{h:aA}
theorem iV{len size l off i:Nat}{k:IntKind}(b:i<len)(a:2<=len):opV G s h (.aadr len size) (some [.ptr l off,.int k i])=some (.ptr l (off+i*size),h):=by
 rw[eV rfl];have:(0:Int)<=i/\(i:Int)<len/\2<=len:=⟨by omega,by omega,a⟩;simp[dH,this]
theorem WW{len i:Nat}{k:IntKind}{cs:List AV}{v:AV}(c:i<len)(b:cs[i]?=some v):opV G s h (.iarr len 1 false) (some [.agg cs,.int k i])=some (v,h):=by
 rw[eV rfl];have a:(0:Int)<=i/\(i:Int)<len:=⟨by omega,by omega⟩;have:=jV b;simp[dH,a,this,aE]
theorem xV{vs:List AV}{n:Nat}(a:vs.length=n):cut vs 0 n=vs:=by subst a;simp[cut]
theorem sI{v:AV}(a:v.cells≠[]):opV G s h .box (some [v])=some (.ptr h.length 0,h++[.cells v.cells]):=by
 rw[eG rfl];simp only[cG];split;·rename_i e;exact absurd e a
 ·rename_i c b e;rw[e]
@[simp]theorem xw0{k:IntKind}:∀a:List Int,bU h (a.map (AV.int k))=some (a.map (AV.int k))
 |[]=>rfl|c::a=>by simp[xw0 a]
@[simp]theorem xd1{k:IntKind}:∀a:List Int,dX (a.map (AV.int k))=[]
 |[]=>rfl|c::a=>by simp[dX,owns,xd1 a]
theorem pB{f:Int->AV}(b:∀x,bE (f x)=true):∀a:List Int,(a.map f).all bE=true
 |[]=>rfl|c::a=>by simp[b,pB b a]
theorem nP{l n:Nat}{vs us:List AV}(d:h[l]?=some (.cells vs))(g:vs.length=n)(b:us.length=n)(a:0<n)(f:us.all bE=true):aU n h (.ptr l 0) (.agg us)=some (h.set l (.cells us)):=by
 have e:bK vs 0 us=us:=by rw[uH _ _ _ (by omega)];simp;omega
 have c:(AV.agg us).cells=us:=rfl;simp only[aU,c,d,e];rw[if_pos ⟨b,a,f⟩,if_pos (by omega)]
theorem zy5{l n:Nat}{vs:List AV}(a:h[l]?=some (.cells vs))(b:vs.length=n):aB n true h (.ptr l 0)=some (.agg vs):=by subst b;simp[aB,a,cut,aE]
theorem uL{l off:Nat}{vs:List AV}{k:IntKind}{n:Int}(a:h[l]?=some (.cells vs))(b:off<vs.length):aU 1 h (.ptr l off) (.int k n)=some (h.set l (.cells (vs.set off (.int k n)))):=by simp[a,AV.cells,bE,bK,show off+1<=vs.length by omega]
end
def rT(k:IntKind):List AV->Option (List Int)
 |[]=>some []|.int a n::r=>if a=k then(rT k r).map (n::·)else none|_=>none
theorem DZ(k:IntKind):∀a:List Int,rT k (a.map (AV.int k))=some a
 |[]=>rfl|x::a=>by simp[rT,DZ k a]
theorem EA(k:IntKind):∀{l:List AV}{b:List Int},rT k l=some b->l=b.map (AV.int k)
 |[],b,h=>by simp only[rT,aT]at h;subst h;rfl|a::l,b,h=>by
  unfold rT at h;split at h;·rename_i e;cases e
  ·rename_i i n r e;injection e with c d;subst c d;split at h
   ·rename_i g;subst g;simp only[dJ]at h;obtain⟨j,f,rfl⟩:=h;rw[EA _ f];rfl
   ·cases h
  ·cases h
def rW:REnc (List Int):=⟨wd,rT .u64,DZ .u64,fun _ _=>EA .u64⟩
def rN:REnc (List Int):=⟨nm,rT .i64,DZ .i64,fun _ _=>EA .i64⟩
theorem PI(x:List Int):(jA rW).enc x=.agg (wd x):=rfl
theorem yw4(x:List Int):(jA rN).enc x=.agg (nm x):=rfl
theorem wO{a b:Bs}(h:a.length+b.length<=dP):aW .add (.str a) (.str b)=some (.str (a++b)):=by
 simp only[aW,dV];simp;unfold dP at h⊢;omega
theorem LM{n:Nat}(h:n<256):IntKind.u8.wrap (n:Int)=n:=by
 simp[IntKind.wrap,IntKind.signed,IntKind.bits];omega
theorem lT{n:Nat}{a:List (Nat×AV)}{h:aA}(b:h.length=n):trunc n a h=h:=by
 subst b;unfold trunc;split;·exact kE
 ·rfl
def jG(k:Nat):List AV->Option AV
 |[.n n]=>if 0<=n/\n<10^k then some (.str (Lib.decDigits n.toNat))else none|_=>none
theorem nA{G:Gam}(k:Nat)(K:k<16)(o:k=0\/G Fn.ap=some (.pure (jG k))):PW G Mc.ap Rs.ap Ks.ap (jG (k+1)):=by
 intro F r c;unfold jG at c;split at c
 ·rename_i n;split at c
  ·rename_i D;injection c with c;subst c;obtain⟨m,rfl⟩:∃m:Nat,n=m:=⟨n.toNat,by omega⟩;have p:m<10^(k+1):=by
    have I:=D.2;have:((10^(k+1):Nat):Int)=(10:Int)^(k+1):=by simp
    omega
   have M:m<10000000000000000:=vG p (by
    have:=Nat.pow_le_pow_right (n:=10) (by omega) (show k+1<=16 by omega);omega);simp only[iG];rw[aM];by_cases t:m<10
   ·have j:ltB (m:Int) 10=true:=aO.2 (by omega);have d:aW .add (.n 48) (.n m)=some (.n ((48+m:Nat):Int)):=by
     have:IntKind.i64.wrap (48+(m:Int))=((48+m:Nat):Int):=by rw[show(48:Int)+m=((48+m:Nat):Int)by omega];exact fO (by omega) (by omega)
     simp only[aW,fS];simp[this]
    rw[rU t];obtain⟨q,i⟩:∃q,q=48+m:=⟨_,rfl⟩;rw[<-i]at d⊢;have f:IntKind.u8.wrap (q:Int)=q:=LM (by omega);have g:lP [[AV.int .u8 (q:Int)]]=some [UInt8.ofNat q]:=by simp[lP];omega
    have l:opV G false [] .b2s (some [.tsl [[AV.int .u8 (q:Int)]]])=some (.str [UInt8.ofNat q],[]):=by
     rw[eV rfl];simp[dH,rowsOf,g]
    simp[Mc.ap,Ks.ap,aC,upd,lkp,j,d,f,l,dX,owns,bU,view,dB,fW,bE,AV.cells,aD,Rs.ap]
   ·have j:ltB (m:Int) 10=false:=bC.2 (by omega);have C:k≠0:=fun e=>by subst e;simp at p;omega
    have o:=o.resolve_left C;have d:aW .quo (.n m) (.n 10)=some (.n ((m/10:Nat):Int)):=by
     have e:((m:Int).tdiv 10)=((m/10:Nat):Int):=by rw[AA (by omega)];omega
     have d:IntKind.i64.wrap ((m/10:Nat):Int)=((m/10:Nat):Int):=i64_in _ ⟨by omega,by omega⟩;simp only[aW,fS];simp only[reduceCtorEq,or_self,bY,bD,e,d];simp
    have f:aW .rem (.n m) (.n 10)=some (.n ((m%10:Nat):Int)):=by
     have e:((m:Int).tmod 10)=((m%10:Nat):Int):=by rw[NV (by omega)];omega
     simp only[aW,fS];simp[e]
    obtain⟨a,u⟩:∃a,a=m/10:=⟨_,rfl⟩;obtain⟨b,v⟩:∃b,b=m%10:=⟨_,rfl⟩;rw[<-u]at d;rw[<-v]at f;have L:((10^k:Nat):Int)=(10:Int)^k:=by simp
    have H:10<=10^k:=by
     have:=Nat.pow_le_pow_right (n:=10) (by omega) (show 1<=k by omega);simpa using this
    have A:a<10^k:=by rw[Nat.pow_succ]at p;omega
    have J:b<10^k:=by omega
    have w:∀st h,opV G st h (.call Fn.ap) (some [.n a])=some (.str (Lib.decDigits a),h):=fun st h=>bF o (us:=[.n a]) rfl (by simp only[jG];rw[if_pos ⟨by omega,by omega⟩];simp) (.inl rfl);have B:b<10:=by omega
    have g:aW .add (.n 48) (.n b)=some (.n ((48+b:Nat):Int)):=by
     have:IntKind.i64.wrap (48+(b:Int))=((48+b:Nat):Int):=by rw[show(48:Int)+b=((48+b:Nat):Int)by omega];exact i64_in _ ⟨by omega,by omega⟩
     simp only[aW,fS];simp[this]
    obtain⟨q,i⟩:∃q,q=48+b:=⟨_,rfl⟩;have l:IntKind.u8.wrap (q:Int)=q:=LM (by omega);have x:lP [[AV.int .u8 (q:Int)]]=some [UInt8.ofNat q]:=by simp[lP];omega
    have y:∀st h,opV G st h .b2s (some [.tsl [[AV.int .u8 (q:Int)]]])=some (.str [UInt8.ofNat q],h):=fun st h=>by
     rw[eV rfl];simp[dH,rowsOf,x]
    have z:Lib.decDigits b=[UInt8.ofNat q]:=by rw[i];exact rU B
    rw[<-i]at g;have N:=vN k a A;have E:=wO (a:=Lib.decDigits a) (b:=[UInt8.ofNat q]) (by unfold dP;simp;omega);rw[JC t,<-u,<-v,z];simp[Mc.ap,Ks.ap,aC,upd,lkp,j,d,f,g,l,y,w,E,dX,owns,bU,view,dB,fW,bE,AV.cells,aD,Rs.ap]
  ·cases c
 ·cases c
def iZ:Cnt->AV
 |.ok n i=>.tup [.n n,.n i,.F]|.short=>.tup [.n 0,.n (-1),.T]|.corrupt=>.tup [.n 0,.n (-1),.F]
def uP:List AV->Option AV
 |[.str s,.n m,.int .u8 e]=>if s.length<=big/\0<=m/\m<=281474976710656/\0<=e/\e<256 then some (iZ (fY m.toNat (UInt8.ofNat e.toNat) s 0 0))else none|_=>none
theorem zn5(G:Gam)(s:Bs)(g:Nat)(e:UInt8)(Q:s.length<=big)(P:g<=281474976710656)(r:Cnt){ks:List MK}:∀(p:Bs)(i a:Nat),s.drop i=p->i<=s.length->a<=g->r=fY g e p i a->(∀J i a,r=.short->exM G .normal ks (aD Rs.a9 (iZ r)) J [(0,.str s),(1,.n g),(2,.int .u8 e.toNat),(6,.n 0),(7,.n 0),(8,.F),(9,a),(10,i)] [])->cY G [] Mc.a9_L0 0 (.blk 0::ks) (aD Rs.a9 (iZ r)) [(0,.str s),(1,.n g),(2,.int .u8 e.toNat),(6,.n 0),(7,.n 0),(8,.F),(9,.n a),(10,.n i)] []
 |[],i,a,v,N,L,b,w=>by
  have Y:=drop_nil v;have f:i=s.length:=by omega
  subst f;have k:ltB (s.length:Int) (s.length:Int)=false:=bC.2 (by omega);simp only[fY]at b;refine aJ (Mc.a9_L0.eq_1) ?_;simp[trunc,aI];exact w _ _ _ b|c::p,i,a,v,N,L,b,w=>by
  obtain⟨Z,T,U⟩:=eT v;have k:ltB (i:Int) (s.length:Int)=true:=aO.2 (by omega);have n:∀st h,opV G st h .istr (some [.str s,.n i])=some (.int .u8 c.toNat,h):=fun st h=>jX T;have S:IntKind.i64.wrap ((i:Int)+1)=((i+1:Nat):Int):=dT (by omega);have X:=c.toNat_lt;rw[fY]at b;refine aJ (Mc.a9_L0.eq_1) ?_;by_cases t:c=e/\0<i
  ·obtain⟨rfl,O⟩:=t;have K:ltB 0 (i:Int)=true:=aO.2 (by omega);rw[if_pos ⟨rfl,O⟩]at b;subst b;simp[trunc,aI,k,n,K,iZ,aD,Rs.a9]
  ·rw[if_neg t]at b;obtain⟨x,m⟩:∃x,eqB (c.toNat:Int) (e.toNat:Int)=x:=⟨_,rfl⟩;obtain⟨y,j⟩:∃y,ltB 0 (i:Int)=y:=⟨_,rfl⟩;have o:(x&&y)=false:=by cases x with
    |false=>rfl|true=>cases y with
     |false=>rfl|true=>exact absurd ⟨rP.1 (by have:=gW.1 m;omega),by have:=aO.1 j;omega⟩ t
   by_cases u:c.toNat<48\/57<c.toNat\/(0<i/\a=0)
   ·rw[if_pos u]at b;subst b;by_cases k1:c.toNat<48
    ·have f:ltB (c.toNat:Int) 48=true:=aO.2 (by omega);cases x<;>cases y<;>first|(cases o;done)|simp[trunc,aI,k,n,m,j,f,iZ,aD,Rs.a9]
    ·have f:ltB (c.toNat:Int) 48=false:=bC.2 (by omega);by_cases k2:57<c.toNat
     ·have l:ltB 57 (c.toNat:Int)=true:=aO.2 (by omega);cases x<;>cases y<;>first|(cases o;done)|simp[trunc,aI,k,n,m,j,f,l,iZ,aD,Rs.a9]
     ·have l:ltB 57 (c.toNat:Int)=false:=bC.2 (by omega);obtain⟨i0,I⟩:0<i/\a=0:=by omega
      subst I;have W:y=true:=by rw[<-j];exact aO.2 (by omega)
      subst W;cases x<;>first|(cases o;done)|simp[trunc,aI,k,n,m,j,f,l,iZ,aD,Rs.a9]
   ·rw[if_neg u]at b;have f:ltB (c.toNat:Int) 48=false:=bC.2 (by omega);have l:ltB 57 (c.toNat:Int)=false:=bC.2 (by omega);obtain⟨z,A⟩:∃z,eqB (a:Int) 0=z:=⟨_,rfl⟩;have C:(y&&z)=false:=by cases y with
     |false=>rfl|true=>cases z with
      |false=>rfl|true=>exact absurd (.inr (.inr ⟨by have:=aO.1 j;omega,by have:=gW.1 A;omega⟩)) u
    obtain⟨d,M⟩:∃d:Nat,d=c.toNat-48:=⟨_,rfl⟩;rw[<-M]at b;have D:IntKind.u8.wrap ((c.toNat:Int)-48)=(d:Int):=by rw[show(c.toNat:Int)-48=(d:Int)by omega];exact LM (by omega)
    have E:IntKind.i64.wrap (d:Int)=d:=i64_in _ ⟨by omega,by omega⟩;have F:IntKind.i64.wrap (10*(a:Int))=10*(a:Int):=i64_in _ ⟨by omega,by omega⟩;have H:IntKind.i64.wrap (10*(a:Int)+d)=((10*a+d:Nat):Int):=by rw[show 10*(a:Int)+d=((10*a+d:Nat):Int)by omega];exact i64_in _ ⟨by omega,by omega⟩
    by_cases B:g<10*a+d
    ·rw[if_pos B]at b;subst b;have q:ltB (g:Int) (10*(a:Int)+d)=true:=aO.2 (by omega);cases x<;>cases y<;>cases z<;>first|(cases o;done)|(cases C;done)|simp[trunc,aI,k,n,m,j,A,f,l,q,D,E,F,H,iZ,aD,Rs.a9]
    ·rw[if_neg B]at b;have q:ltB (g:Int) (10*(a:Int)+d)=false:=bC.2 (by omega);have V:=zn5 G s g e Q P r (ks:=ks) p (i+1) (10*a+d) U (by omega) (by omega) b w;cases x<;>cases y<;>cases z<;>first|(cases o;done)|(cases C;done)|(simp[trunc,aI,k,n,m,j,A,f,l,q,D,E,F,H,S];simpa using V)
theorem zV9{G:Gam}:PW G Mc.a9 Rs.a9 Ks.a9 uP:=by
 intro n r b;unfold uP at b;split at b
 ·rename_i s m e;split at b
  ·rename_i j;injection b with b;subst b;obtain⟨f,p,q,h4,h5⟩:=j;obtain⟨k,rfl⟩:∃k:Nat,m=k:=⟨m.toNat,by omega⟩;obtain⟨E,g⟩:∃E:UInt8,e=(E.toNat:Int):=⟨UInt8.ofNat e.toNat,by rw[ID];omega⟩;subst g;have d:UInt8.ofNat ((E.toNat:Int)).toNat=E:=by simp
   rw[d];simp only[iG];obtain⟨r,c⟩:∃r,r=fY k E s 0 0:=⟨_,rfl⟩;rw[<-c,aM];have l:=zn5 G s k E f (by omega) r (ks:=[.seq (.seq (.reg [Kc 6 0,Kc 7 (-1),Kb 8 true]) .ret)]) s 0 0 rfl (by omega) (by omega) c (fun o i a h=>by
    subst h;simp[iZ,aD,Rs.a9]);simpa[Mc.a9,aC,Ks.a9]using l
  ·cases b
 ·cases b
def kH:Cnt->AV
 |.ok n i=>.tup [.n n,.n ((i+1:Nat):Int),.n 0]|.short=>.tup [.n 0,.n 0,.n 13]|.corrupt=>.tup [.n 0,.n 0,.n 17]
def uT:List AV->aA->Option AV
 |[.ptr l 0,.n m,.int .u8 e],h=>match h[l]? with
  |some (.cellsT _ [.str s,.n _])=>if s.length<=big/\0<=m/\m<=281474976710656/\0<=e/\e<256 then some (kH (fY m.toNat (UInt8.ofNat e.toNat) s 0 0))else none|_=>none
 |_,_=>none
theorem zF5(G:Gam)(h:aA)(l:Nat)(tg:Option TypeId)(J:Int)(s:Bs)(f:h[l]?=some (.cellsT tg [.str s,.n J]))(j:Nat)(e:UInt8)(hs:s.length<=big)(hm:j<=281474976710656)(r:Cnt){ks:List MK}:∀(B:Bs)(i a:Nat)(z:AV),s.drop i=B->i<=s.length->a<=j->(i=0->a=0)->(1<i->0<a)->r=fY j e B i a->(∀u a z i,(r=.short/\i=s.length\/r=.corrupt/\i<s.length)->exM G .normal ks (fP Rs.bg (kH r) h) u [(0,.ptr l 0),(1,.n j),(2,.int .u8 e.toNat),(6,.n 0),(7,.n 0),(8,.n 0),(9,a),(10,.n (i:Nat)),(11,z)] h)->cY G [11] Mc.bg_L0 h.length (.blk 0::ks) (fP Rs.bg (kH r) h) [(0,.ptr l 0),(1,.n j),(2,.int .u8 e.toNat),(6,.n 0),(7,.n 0),(8,.n 0),(9,.n a),(10,.n i),(11,z)] h
 |[],i,a,z,F,hi,W,X,Y,b,v=>by
  have b1:=drop_nil F;have g:i=s.length:=by omega
  subst g;have k:ltB (s.length:Int) (s.length:Int)=false:=bC.2 (by omega);have U:aB 1 false h (.ptr l 0)=some (.str s):=by simp[aB,f,cut,aE]
  simp only[fY]at b;refine aJ (Mc.bg_L0.eq_1) ?_;simp[lT (n:=h.length) rfl,aI,f];exact v _ _ _ _ (.inl ⟨b,rfl⟩)|c::B,i,a,z,F,hi,W,X,Y,b,v=>by
  obtain⟨L,hx,a2⟩:=eT F;have k:ltB (i:Int) (s.length:Int)=true:=aO.2 (by omega);have U:aB 1 false h (.ptr l 0)=some (.str s):=by simp[aB,f,cut,aE]
  have n:∀st h,opV G st h .istr (some [.str s,.n i])=some (.int .u8 c.toNat,h):=fun st h=>jX hx;have M:IntKind.i64.wrap ((i:Int)+1)=((i+1:Nat):Int):=dT (by omega);have a3:=c.toNat_lt;rw[fY]at b;refine aJ (Mc.bg_L0.eq_1) ?_;by_cases D:c=e/\0<i
  ·obtain⟨rfl,a1⟩:=D;have V:ltB 0 (i:Int)=true:=aO.2 (by omega);rw[if_pos ⟨rfl,a1⟩]at b;subst b;simp[lT (n:=h.length) rfl,aI,k,f,n,V,M,kH,fP,Rs.bg]
  ·rw[if_neg D]at b;obtain⟨x,p⟩:∃x,eqB (c.toNat:Int) (e.toNat:Int)=x:=⟨_,rfl⟩;obtain⟨y,m⟩:∃y,ltB 0 (i:Int)=y:=⟨_,rfl⟩;have A:(x&&y)=false:=by cases x with
    |false=>rfl|true=>cases y with
     |false=>rfl|true=>exact absurd ⟨rP.1 (by have:=gW.1 p;omega),by have:=aO.1 m;omega⟩ D
   by_cases E:c.toNat<48\/57<c.toNat\/(0<i/\a=0)
   ·rw[if_pos E]at b;have w:=fun u a z=>v u a z i (.inr ⟨b,L⟩);by_cases k1:c.toNat<48
    ·have g:ltB (c.toNat:Int) 48=true:=aO.2 (by omega);cases x<;>cases y<;>first|(cases A;done)|(simp[lT (n:=h.length) rfl,aI,k,f,n,p,m,g];exact w _ _ _)
    ·have g:ltB (c.toNat:Int) 48=false:=bC.2 (by omega);by_cases k2:57<c.toNat
     ·have o:ltB 57 (c.toNat:Int)=true:=aO.2 (by omega);cases x<;>cases y<;>first|(cases A;done)|(simp[lT (n:=h.length) rfl,aI,k,f,n,p,m,g,o];exact w _ _ _)
     ·have o:ltB 57 (c.toNat:Int)=false:=bC.2 (by omega);obtain⟨i0,T⟩:0<i/\a=0:=by omega
      have i1:i=1:=by omega
      subst T i1;have y1:y=true:=by rw[<-m];exact aO.2 (by omega)
      subst y1;simp at n k m;cases x<;>first|(cases A;done)|(simp[lT (n:=h.length) rfl,aI,k,f,n,p,g,o];exact w _ _ _)
   ·rw[if_neg E]at b;have g:ltB (c.toNat:Int) 48=false:=bC.2 (by omega);have o:ltB 57 (c.toNat:Int)=false:=bC.2 (by omega);obtain⟨q,H⟩:∃q,eqB (i:Int) 1=q:=⟨_,rfl⟩;obtain⟨t,I⟩:∃t,eqB (a:Int) 0=t:=⟨_,rfl⟩;have N:(q&&t)=false:=by cases q with
     |false=>rfl|true=>cases t with
      |false=>rfl|true=>exact absurd (.inr (.inr ⟨by have:=gW.1 H;omega,by have:=gW.1 I;omega⟩)) E
    obtain⟨d,Z⟩:∃d:Nat,d=c.toNat-48:=⟨_,rfl⟩;rw[<-Z]at b;have O:IntKind.u8.wrap ((c.toNat:Int)-48)=(d:Int):=by rw[show(c.toNat:Int)-48=(d:Int)by omega];exact LM (by omega)
    have P:IntKind.i64.wrap (d:Int)=d:=i64_in _ ⟨by omega,by omega⟩;have Q:IntKind.i64.wrap (10*(a:Int))=10*(a:Int):=i64_in _ ⟨by omega,by omega⟩;have S:IntKind.i64.wrap (10*(a:Int)+d)=((10*a+d:Nat):Int):=by rw[show 10*(a:Int)+d=((10*a+d:Nat):Int)by omega];exact i64_in _ ⟨by omega,by omega⟩
    by_cases K:j<10*a+d
    ·rw[if_pos K]at b;have w:=fun u a z=>v u a z i (.inr ⟨b,L⟩);have C:ltB (j:Int) (10*(a:Int)+d)=true:=aO.2 (by omega);cases x<;>cases y<;>cases q<;>cases t<;>first|(cases A;done)|(cases N;done)|(simp[lT (n:=h.length) rfl,aI,k,f,n,p,m,H,I,g,o,C,O,P,Q,S];exact w _ _ _)
    ·rw[if_neg K]at b;have C:ltB (j:Int) (10*(a:Int)+d)=false:=bC.2 (by omega);have ih:=zF5 G h l tg J s f j e hs hm r (ks:=ks) B (i+1) (10*a+d) (.int .u8 c.toNat) a2 (by omega) (by omega) (by omega) (by omega) b v;cases x<;>cases y<;>cases q<;>cases t<;>first|(cases A;done)|(cases N;done)|(simp[lT (n:=h.length) rfl,aI,k,f,n,p,m,H,I,g,o,C,O,P,Q,S,M];simpa using ih)
theorem yt0{G:Gam}:LW G Mc.bg Rs.bg Ks.bg uT:=by
 intro t h r b;unfold uT at b;split at b
 ·rename_i l m e;split at b
  ·rename_i tg s g c;split at b
   ·rename_i o;injection b with b;subst b;obtain⟨j,w,x,h4,h5⟩:=o;obtain⟨k,rfl⟩:∃k:Nat,m=k:=⟨m.toNat,by omega⟩;obtain⟨E,n⟩:∃E:UInt8,e=(E.toNat:Int):=⟨UInt8.ofNat e.toNat,by rw[ID];omega⟩;subst n;have f:UInt8.ofNat ((E.toNat:Int)).toNat=E:=by simp
    rw[f];simp only[iG];obtain⟨r,d⟩:∃r,r=fY k E s 0 0:=⟨_,rfl⟩;rw[<-d,aM];have v:aB 1 false h (.ptr l 0)=some (.str s):=by simp[aB,c,cut,aE]
    have p:=zF5 G h l tg g s c k E j (by omega) r (ks:=[.seq (.seq (.seq (.reg [zm 62 10,zm 63 0,Zk 64 63,zf 65 0 64,zl 66 65,zn 67 0 66,zb 68 .eql 62 67]) (.ite (.t 68) (.seq (.reg [Kc 6 0,Kc 7 0,Kc 8 13]) .ret) .skip)) (.seq (.reg [Kc 6 0,Kc 7 0,Kc 8 17]) .ret))]) s 0 0 .junk rfl (by omega) (by omega) (fun _=>rfl) (by omega) d (fun u a z i h=>by
     rcases h with⟨rfl,rfl⟩|⟨rfl,y⟩
     ·have q:eqB (s.length:Int) (s.length:Int)=true:=gW.2 rfl;simp[aI,c,kH,fP,Rs.bg]
     ·have q:eqB (i:Int) (s.length:Int)=false:=eU.2 (by omega);simp[aI,c,q,kH,fP,Rs.bg]);simpa[Mc.bg,aC,Ks.bg]using p
   ·cases b
  ·cases b
 ·cases b
theorem WY{G:Gam}{st:Bool}{h:aA}{s:Bs}{i:Nat}(d:i+1<=s.length):opV G st h (.slc none true false false) (some [.str s,.n ((i:Int)+1)])=some (.str (s.drop (i+1)),h):=by
 rw[eV rfl];have a:(0:Int)<=(i:Int)+1:=by omega
 have b:(i:Int)+1<=(s.length:Int):=by omega
 have c:((i:Int)+1).toNat=i+1:=by omega
 simp[dH,pV,oN,pT,CB,a,b,c]
def bR(tg:Option TypeId)(r:Rd):Blk:=.cellsT tg [.str r.rest,.n r.err]
def nT:List AV->aA->Option (AV×aA)
 |[.ptr l 0,.n e],h=>match h[l]? with
  |some (.cellsT tg [.str _,.n a])=>if a=0 then some (.tup [],h.set l (bR tg ⟨[],e⟩))else none|_=>none
 |_,_=>none
theorem yy7{G:Gam}:GW G Mc.c7 Rs.c7 Ks.c7 nT:=by
 intro i h r m a;unfold nT at a;split at a
 ·rename_i l e;split at a
  ·rename_i tg s j c;split at a
   ·rename_i d;simp only[aT,dF]at a;obtain⟨rfl,rfl⟩:=a;subst d;have f:l<h.length:=(aV.1 c).1;have g:∀b:Blk,(h.set l b)[l]?=some b:=fun b=>jI f;rw[aM];have k:aB 1 false h (.ptr l 1)=some (.n 0):=by simp[aB,c,cut,aE]
    simp[Mc.c7,aC,Ks.c7,c,g,bE,AV.cells,bK,dM,Rs.c7,dS,eZ,bR]
   ·cases a
  ·cases a
 ·cases a
theorem yy6{G:Gam}:GW G Mc.b0 Rs.b0 Ks.b0 nT:=by
 intro i h r k a;unfold nT at a;split at a
 ·rename_i l e;split at a
  ·rename_i tg s j c;split at a
   ·rename_i d;simp only[aT,dF]at a;obtain⟨rfl,rfl⟩:=a;subst d;have f:l<h.length:=(aV.1 c).1;have g:∀b:Blk,(h.set l b)[l]?=some b:=fun b=>jI f;rw[aM];simp[Mc.b0,aC,Ks.b0,c,g,bE,AV.cells,bK,dM,Rs.b0,dS,eZ,bR]
   ·cases a
  ·cases a
 ·cases a
def gP:List AV->aA->Option (AV×aA)
 |[.ptr l 0,.n c,.n b],h=>match h[l]? with
  |some (.cellsT tg [.str s,.n a])=>if s.length<=1000000 then some (.n (rdNum c b ⟨s,a⟩).1,h.set l (bR tg (rdNum c b ⟨s,a⟩).2))else none|_=>none
 |_,_=>none
theorem xh0{G:Gam}(y:G Fn.bg=some (.gen (cJ uT)))(z:G Fn.c7=some (.gen nT)):GW G Mc.ai Rs.ai Ks.ai gP:=by
 intro E h r I c;unfold gP at c;split at c
 ·rename_i l o k;split at c
  ·rename_i tg s f a;split at c
   ·rename_i L;simp only[aT,dF]at c;obtain⟨rfl,rfl⟩:=c;have A:l<h.length:=(aV.1 a).1;have K:∀b:Blk,(h.set l b)[l]?=some b:=fun b=>jI A;have H:aB 1 false h (.ptr l 1)=some (.n f):=by simp[aB,a,cut,aE]
    have F:aB 1 false h (.ptr l 0)=some (.str s):=by simp[aB,a,cut,aE]
    rw[aM];by_cases p:f=0
    ·subst p;have d:opV G false h (.call Fn.bg) (some [.ptr l 0,.n 281474976710656,.int .u8 59])=some (kH (fY 281474976710656 59 s 0 0),h):=by
      have:uT [.ptr l 0,.n 281474976710656,.int .u8 59] h=some (kH (fY 281474976710656 59 s 0 0)):=by
       simp only[uT,a];rw[if_pos ⟨by unfold big;omega,by omega,by omega,by omega,by omega⟩];rfl
      rw[eX y];simp[cJ,this]
     have g:∀e:Int,opV G false h (.call Fn.c7) (some [.ptr l 0,.n e])=some (.tup [],h.set l (bR tg ⟨[],e⟩)):=fun e=>by rw[eX z];simp[nT,a]
     have C:eqB 13 0=false:=rfl;have D:eqB 17 0=false:=rfl;have w:eqB 3 0=false:=rfl;simp only[rdNum];rw[if_neg (by simp)];cases j:fY 281474976710656 59 s 0 0 with
     |short=>
      rw[j]at d;simp[Mc.ai,aC,Ks.ai,a,d,kH,g,C,dM,Rs.ai]|corrupt=>
      rw[j]at d;simp[Mc.ai,aC,Ks.ai,a,d,kH,g,D,dM,Rs.ai]|ok n i=>
      rw[j]at d;obtain⟨k1,k2,k3⟩:=DV j;have J:i+1<=s.length:=by
       have:=congrArg List.length k1;simp only[bX,hJ,AB]at this;omega
      by_cases u:(n:Int)<o
      ·have m:ltB (n:Int) o=true:=aO.2 u;simp only;rw[if_pos (.inl u)];simp[Mc.ai,aC,Ks.ai,a,d,kH,g,w,m,dM,Rs.ai]
      ·have m:ltB (n:Int) o=false:=bC.2 (by omega);by_cases v:k<(n:Int)
       ·have t:ltB k (n:Int)=true:=aO.2 v;simp only;rw[if_pos (.inr v)];simp[Mc.ai,aC,Ks.ai,a,d,kH,g,w,m,t,dM,Rs.ai]
       ·have t:ltB k (n:Int)=false:=bC.2 (by omega);simp only;rw[if_neg (by omega)];have sl:∀st,opV G st h (.slc none true false false) (some [.str s,.n ((i:Int)+1)])=some (.str (s.drop (i+1)),h):=fun st=>WY (by omega);simp[Mc.ai,aC,Ks.ai,a,d,kH,m,t,sl,bE,AV.cells,bK,bR,dM,Rs.ai]
    ·have q:eqB f 0=false:=eU.2 p;have x:rdNum o k ⟨s,f⟩=(0,⟨s,f⟩):=zH8 p;rw[x];have B:h.set l (bR tg ⟨s,f⟩)=h:=uI a;simp[Mc.ai,aC,Ks.ai,a,q,B,dM,Rs.ai]
   ·cases c
  ·cases c
 ·cases c
theorem xg9{G:Gam}(y:G Fn.a9=some (.pure uP))(z:G Fn.b0=some (.gen nT)):GW G Mc.ak Rs.ak Ks.ak gP:=by
 intro D h r H b;unfold gP at b;split at b
 ·rename_i l m j;split at b
  ·rename_i tg s d a;split at b
   ·rename_i K;simp only[aT,dF]at b;obtain⟨rfl,rfl⟩:=b;have J:l<h.length:=(aV.1 a).1;have F:aB 1 false h (.ptr l 1)=some (.n d):=by simp[aB,a,cut,aE]
    have E:aB 1 false h (.ptr l 0)=some (.str s):=by simp[aB,a,cut,aE]
    rw[aM];by_cases o:d=0
    ·subst o;have c:∀st,opV G st h (.call Fn.a9) (some [.str s,.n 281474976710656,.int .u8 59])=some (iZ (fY 281474976710656 59 s 0 0),h):=fun st=>by
      have A:uP [.str s,.n 281474976710656,.int .u8 59]=some (iZ (fY 281474976710656 59 s 0 0)):=by
       simp only[uP];rw[if_pos ⟨by unfold big;omega,by omega,by omega,by omega,by omega⟩];rfl
      exact bF y (us:=[.str s,.n 281474976710656,.int .u8 59]) rfl A (.inl (by cases fY 281474976710656 59 s 0 0<;>rfl))
     have f:∀e:Int,opV G false h (.call Fn.b0) (some [.ptr l 0,.n e])=some (.tup [],h.set l (bR tg ⟨[],e⟩)):=fun e=>by rw[eX z];simp[nT,a]
     have w:ltB (-1) 0=true:=rfl;simp only[rdNum];rw[if_neg (by simp)];cases g:fY 281474976710656 59 s 0 0 with
     |short=>
      rw[g]at c;simp[Mc.ak,aC,Ks.ak,a,c,iZ,f,w,dM,Rs.ak]|corrupt=>
      rw[g]at c;simp[Mc.ak,aC,Ks.ak,a,c,iZ,f,w,dM,Rs.ak]|ok n i=>
      rw[g]at c;obtain⟨k1,k2,k3⟩:=DV g;have I:i+1<=s.length:=by
       have:=congrArg List.length k1;simp only[bX,hJ,AB]at this;omega
      have t:ltB (i:Int) 0=false:=bC.2 (by omega);by_cases u:(n:Int)<m
      ·have k:ltB (n:Int) m=true:=aO.2 u;simp only;rw[if_pos (.inl u)];simp[Mc.ak,aC,Ks.ak,a,c,iZ,f,t,k,dM,Rs.ak]
      ·have k:ltB (n:Int) m=false:=bC.2 (by omega);by_cases v:j<(n:Int)
       ·have p:ltB j (n:Int)=true:=aO.2 v;simp only;rw[if_pos (.inr v)];simp[Mc.ak,aC,Ks.ak,a,c,iZ,f,t,k,p,dM,Rs.ak]
       ·have p:ltB j (n:Int)=false:=bC.2 (by omega);simp only;rw[if_neg (by omega)];have C:IntKind.i64.wrap ((i:Int)+1)=(i:Int)+1:=i64_in _ ⟨by omega,by omega⟩;have sl:∀st,opV G st h (.slc none true false false) (some [.str s,.n ((i:Int)+1)])=some (.str (s.drop (i+1)),h):=fun st=>WY (by omega);simp[Mc.ak,aC,Ks.ak,a,c,iZ,t,k,p,C,sl,bE,AV.cells,bK,bR,dM,Rs.ak]
    ·have q:eqB d 0=false:=eU.2 o;have x:rdNum m j ⟨s,d⟩=(0,⟨s,d⟩):=zH8 o;rw[x];have B:h.set l (bR tg ⟨s,d⟩)=h:=uI a;simp[Mc.ak,aC,Ks.ak,a,q,B,dM,Rs.ak]
   ·cases b
  ·cases b
 ·cases b
def qA:List AV->Option AV
 |[.str s]=>if s.length<=281474976710656 then some (.str s)else none|_=>none
def lW:List AV->aA->Option (AV×aA)
 |[.ptr l 0,.n b],h=>match h[l]? with
  |some (.cellsT tg [.str s,.n a])=>if s.length<=1000000 then some (.str (bG b ⟨s,a⟩).1,h.set l (bR tg (bG b ⟨s,a⟩).2))else none|_=>none
 |_,_=>none
section
variable{G:Gam}{st:Bool}{h:aA}
theorem SA{s:Bs}{k:Nat}{m:Int}(b:m=k)(c:k<=s.length):opV G st h (.slc none true false false) (some [.str s,.n m])=some (.str (s.drop k),h):=by
 subst b;rw[eV rfl];have a:(k:Int)<=(s.length:Int):=by omega
 simp[dH,pV,oN,pT,CB,a]
theorem LH{s:Bs}{k:Nat}(b:k<=s.length):opV G st h (.slc none false true false) (some [.str s,.n k])=some (.str (s.take k),h):=by
 rw[eV rfl];have a:(k:Int)<=(s.length:Int):=by omega
 simp[dH,pV,oN,pT,CB,a]
theorem YR{s:Bs}{a b:Nat}{m n:Int}(e:m=a)(f:n=b)(g:a<=b)(i:b<=s.length):opV G st h (.slc none true true false) (some [.str s,.n m,.n n])=some (.str ((s.take b).drop a),h):=by
 subst e f;rw[eV rfl];have c:(a:Int)<=(b:Int):=by omega
 have d:(b:Int)<=(s.length:Int):=by omega
 simp[dH,pV,oN,pT,CB,c,d]
theorem yU1{s:Bs}{k:Nat}{m:Int}{c:UInt8}(b:m=k)(a:s[k]?=some c):opV G st h .istr (some [.str s,.n m])=some (.int .u8 c.toNat,h):=by subst b;exact jX a
end
theorem xh2{G:Gam}(I:G Fn.bg=some (.gen (cJ uT)))(J:G Fn.c7=some (.gen nT))(K:G Fn.dl=some (.pure qA)):GW G Mc.a1 Rs.a1 Ks.a1 lW:=by
 intro Q h r U d;unfold lW at d;split at d
 ·rename_i l m;split at d
  ·rename_i tg s f a;split at d
   ·rename_i X;simp only[aT,dF]at d;obtain⟨rfl,rfl⟩:=d;have W:l<h.length:=(aV.1 a).1;have T:aB 1 false h (.ptr l 1)=some (.n f):=by simp[aB,a,cut,aE]
    have S:aB 1 false h (.ptr l 0)=some (.str s):=by simp[aB,a,cut,aE]
    rw[aM];by_cases v:f=0
    ·subst v;have b:opV G false h (.call Fn.bg) (some [.ptr l 0,.n 65536,.int .u8 58])=some (kH (fY 65536 58 s 0 0),h):=by
      have:uT [.ptr l 0,.n 65536,.int .u8 58] h=some (kH (fY 65536 58 s 0 0)):=by
       simp only[uT,a];rw[if_pos ⟨by unfold big;omega,by omega,by omega,by omega,by omega⟩];rfl
      rw[eX I];simp[cJ,this]
     have g:∀e:Int,opV G false h (.call Fn.c7) (some [.ptr l 0,.n e])=some (.tup [],h.set l (bR tg ⟨[],e⟩)):=fun e=>by rw[eX J];simp[nT,a]
     have E:∀(t:Bs),t.length<=s.length->∀st h,opV G st h (.call Fn.dl) (some [.str t])=some (.str t,h):=fun t Y st h=>bF K (us:=[.str t]) rfl (by show(if _ then _ else _)=_;rw[if_pos (by omega)]) (.inl rfl);have A:eqB 13 0=false:=rfl;have B:eqB 17 0=false:=rfl;have N:eqB 10 0=false:=rfl;simp only[bG];rw[if_neg (by simp)];cases k:fY 65536 58 s 0 0 with
     |short=>
      rw[k]at b;simp[Mc.a1,aC,Ks.a1,a,b,kH,g,A,dM,Rs.a1]|corrupt=>
      rw[k]at b;simp[Mc.a1,aC,Ks.a1,a,b,kH,g,B,dM,Rs.a1]|ok n i=>
      rw[k]at b;obtain⟨k1,k2,k3⟩:=DV k;have V:i+1<=s.length:=by
       have:=congrArg List.length k1;simp only[bX,hJ,AB]at this;omega
      have o:IntKind.i64.wrap ((i:Int)+1+n)=(i:Int)+1+n:=i64_in _ ⟨by omega,by omega⟩;have P:IntKind.i64.wrap ((i:Int)+1+n+1)=(i:Int)+1+n+1:=i64_in _ ⟨by omega,by omega⟩;have L:(s.drop (i+1))[n]?=s[i+1+n]?:=by rw[nW]
      dsimp only;rw[L];by_cases D:s.length<=i+1+n
      ·have j:ltB ((i:Int)+1+n) (s.length:Int)=false:=bC.2 (by omega);rw[lX D];simp[Mc.a1,aC,Ks.a1,a,aI,b,kH,g,A,o,j,dM,Rs.a1]
      ·have j:ltB ((i:Int)+1+n) (s.length:Int)=true:=aO.2 (by omega);obtain⟨c,y⟩:∃c,s[i+1+n]?=some c:=⟨_,jT (by omega)⟩;rw[y];have w:∀st h,opV G st h .istr (some [.str s,.n ((i:Int)+1+n)])=some (.int .u8 c.toNat,h):=fun st h=>yU1 (k:=i+1+n) (by omega) y;by_cases p:c=44
       ·subst p;have z:eqB (((44:UInt8).toNat:Nat):Int) 44=true:=rfl;by_cases u:m<(n:Int)
        ·have x:ltB m (n:Int)=true:=aO.2 u;simp only[ne_eq,xP,bY,if_pos u];simp[Mc.a1,aC,Ks.a1,a,aI,b,kH,g,N,o,j,w,x,dM,Rs.a1]
        ·have x:ltB m (n:Int)=false:=bC.2 (by omega);simp only[ne_eq,xP,bY,if_neg u];have O:∀st,opV G st h (.slc none true true false) (some [.str s,.n ((i:Int)+1),.n ((i:Int)+1+n)])=some (.str ((s.drop (i+1)).take n),h):=fun st=>by
          rw[YR (a:=i+1) (b:=i+1+n) (by omega) (by omega) (by omega) (by omega),List.drop_take];rw[show i+1+n-(i+1)=n by omega]
         have C:∀st,opV G st h (.slc none true false false) (some [.str s,.n ((i:Int)+1+n+1)])=some (.str ((s.drop (i+1)).drop (n+1)),h):=fun st=>by
          rw[SA (k:=i+1+n+1) (by omega) (by omega),DP];rw[show i+1+(n+1)=i+1+n+1 by omega]
         have F:=E ((s.drop (i+1)).take n) (by simp only[lY,AB];omega);simp only[DP]at C⊢;simp[Mc.a1,aC,Ks.a1,a,aI,b,kH,o,P,j,w,x,O,C,F,bE,AV.cells,bK,bR,dM,Rs.a1]
       ·have z:eqB (c.toNat:Int) 44=false:=eU.2 fun e=>p (rP.1 (by simp;omega));simp only[ne_eq,p,not_false_eq_true,bD];simp[Mc.a1,aC,Ks.a1,a,aI,b,kH,g,B,o,j,w,z,dM,Rs.a1]
    ·have q:eqB f 0=false:=eU.2 v;have H:bG m ⟨s,f⟩=([],⟨s,f⟩):=zI1 v;rw[H];have M:h.set l (bR tg ⟨s,f⟩)=h:=uI a;simp[Mc.a1,aC,Ks.a1,a,q,M,dM,Rs.a1]
   ·cases d
  ·cases d
 ·cases d
theorem wC{P:Program}{g:Gv}{f:FuncId}{F:List AV->Option AV}(l:∀(I:Nat->Nat->Option Value)(w:World)(a:List AV)(r:AV)(d:Array Value),Holds I w->GvHolds g I w->RelL (Cx.pure I) a d.toList->F a=some r->Calls P f d w fun e k=>(∃v,e=.returned v/\Rel (Cx.pure I) r v)/\Below w.heap.size w k):dW P g f F:=by
 intro I w a r d c n q m;refine(l I w a r d c n q m).mono fun e k p=>?_;obtain⟨⟨v,rfl,t⟩,i⟩:=p;exact⟨v,I,rfl,⟨fun _ _ _ h=>h,fun _ _ _ h _=>h⟩,⟨fun b o u j=>by rw[Below.cell i (p:=⟨b,o,none⟩) (rR (c.cell b o u j))];exact c.cell b o u j,c.one⟩,t,i⟩
theorem XY{C:Cx}{a b:AV}{x y:Value}(h:Rel C a x)(k:Rel C b y):Rel C (.tup [a,b]) (.tuple #[x,y]):=.tup _ _ rfl fun i c v d e=>by match i with
 |0=>simp at d e;subst d e;exact h|1=>simp at d e;subst d e;exact k|_+2=>simp at d
theorem xi2{C:Cx}{a b c:AV}{x y z:Value}(h:Rel C a x)(k:Rel C b y)(l:Rel C c z):Rel C (.tup [a,b,c]) (.tuple #[x,y,z]):=.tup _ _ rfl fun i c v d e=>by match i with
 |0=>simp at d e;subst d e;exact h|1=>simp at d e;subst d e;exact k|2=>simp at d e;subst d e;exact l|_+3=>simp at d
theorem below_grow{w:World}{k:Nat}{os:Array Obj}:Below w.heap.size w (Go.Sort.grow (w.drewN k) os):=by
 have h:(w.drewN k).heap=w.heap/\(w.drewN k).os=w.os/\(w.drewN k).tape=w.tape/\(w.drewN k).output=w.output:=by
  constructor;·simp[World.drewN]
  ·refine⟨?_,?_,?_⟩<;>simp[World.drewN]
 refine⟨h.2.1,h.2.2.1,h.2.2.2,by simp[Go.Sort.grow],fun j a=>?_⟩;simp only[Go.Sort.grow,h.1];rw[Array.getElem?_append_left a]
theorem WS{I:Nat->Nat->Option Value}{a:AV}{c:Array Value}(b:RelL (Cx.pure I) [a] c.toList):∃x,c=#[x]/\Rel (Cx.pure I) a x:=by
 obtain⟨f,g,d,e,b⟩:=b.inv_cons;have:=b.inv_nil;subst this;exact⟨f,by apply kP;simpa using d,e⟩
theorem FS{I:Nat->Nat->Option Value}{a b:AV}{d:Array Value}(c:RelL (Cx.pure I) [a,b] d.toList):∃x y,d=#[x,y]/\Rel (Cx.pure I) a x/\Rel (Cx.pure I) b y:=by
 obtain⟨i,k,e,f,c⟩:=c.inv_cons;obtain⟨j,l,rfl,g,c⟩:=c.inv_cons;have:=c.inv_nil;subst this;exact⟨i,j,by apply kP;simpa using e,f,g⟩
def sX:List AV->Option AV
 |[.n n]=>if-9223372036854775808<=n/\n<=9223372036854775807 then some (.str (Lib.itoa n))else none|_=>none
theorem yU8{P:Program}{b:Gv}{f g:FuncId}(o:P.globalNamed "internal/strconv.uint64pow10"=some g)(q:b.tb g=some (Lib.pow10Tab.map fun z=>Value.int .u64 z))(j:∀(n:Int),-9223372036854775808<=n->n<=9223372036854775807->∀(w:World),Lib.TabIs P w "internal/strconv.uint64pow10" .u64 Lib.pow10Tab->Calls P f #[.int .i64 n] w fun e i=>e=.returned (.string ⟨(Lib.itoa n).toArray⟩)/\∃k d,i=Go.Sort.grow (w.drewN k) d):dW P b f sX:=by
 refine wC fun I w v r B A l p a=>?_;unfold sX at a;split at a
 ·rename_i n;split at a
  ·rename_i c;injection a with a;subst a;obtain⟨x,rfl,u⟩:=WS p;have:=fF u;subst this;obtain⟨T,y,t⟩:=l.tb g _ q;refine(j n c.1 c.2 w (by simp[Lib.TabIs,World.var?,o,t])).mono fun e i m=>?_;obtain⟨rfl,k,d,rfl⟩:=m;exact⟨⟨_,rfl,.str _⟩,below_grow⟩
  ·cases a
 ·cases a
def CV:List AV->Option AV
 |[]=>some (.T)|_=>none
theorem zv6(G:Gam)(h:aA)(d:List (List AV))(f:FuncId)(g:List AV)(t:d.length<=big):∀(k:List (List AV))(i:Nat)(v:Int),d.drop i=k->nJ (fun r=>if r.length=1 then(aE false 1 r).bind (ask G h f g)else none) i k=some v->cY G [5] Mc.cb_L0 h.length [.blk 0,.seq (.seq (.reg [Kc 4 (-1)]) .ret)] (fP Rs.cb (.n v) h) [(0,.sl d),(1,.fn f g),(4,.n 0),(5,.junk),(7,.n d.length),(8,.n i)] h
 |[],i,v,m,c=>by
  have u:=drop_nil m;have j:¬(i:Int)<d.length:=by omega
  simp only[nJ,aT]at c;subst c;refine aJ (Mc.cb_L0.eq_1) ?_;simp[ltB,j,fP,Rs.cb,owns,eS]|x::k,i,v,m,c=>by
  obtain⟨u,q,y⟩:=eT m;have j:(i:Int)<d.length:=by omega
  have w:=dT (i:=i) (by omega);by_cases e:x.length=1
  ·simp only[nJ,e,bD]at c;cases n:aE false 1 x with
   |none=>simp[n]at c|some a=>
    simp only[n,tQ]at c;have p:aE false 1 (cut x 0 1)=some a:=by rw[AP e];exact n
    cases l:ask G h f g a with
    |none=>simp[l]at c|some b=>
     have o:=TI l;simp only[l]at c;refine aJ (Mc.cb_L0.eq_1) ?_;cases b with
     |true=>
      simp only[aT]at c;subst c;simp[ltB,j,sC q e,p,o,fP,Rs.cb,owns,eS]|false=>
      simp[ltB,j,sC q e,p,o,w];refine cZ ?_;have z:=zv6 G h d f g t k (i+1) v y c;simpa using z
  ·simp[nJ,e]at c
theorem yR7(G:Gam):LW G Mc.cb Rs.cb Ks.cb (oR false 1 G):=by
 intro i h r c;obtain⟨a,f,b,v,rfl,d,e,rfl⟩:=zd0 c;rw[aM];have g:=zv6 G h a f b d a 0 v rfl e;simpa[Mc.cb,aC,Ks.cb]using g
theorem ys4(G b:Gam)(g:G Fn.cb=some (.gen (cJ (oR false 1 b)))):LW G Mc.d3 Rs.d3 Ks.d3 (oQ false 1 b):=by
 intro m h r d;obtain⟨l,f,c,v,rfl,i,k,rfl⟩:=zc9 d;rw[aM];have j:∀a:aA,a=h->opV G false a (.call Fn.cb) (some [.sl l,.fn f c])=some (.n v,a):=fun a e=>by subst e;rw[eX g];simp[cJ,oR,i,k]
 simp[Mc.d3,aC,Ks.d3,j,fP,Rs.d3,owns,eS]
theorem WX{G:Gam}{s:Bool}{h:aA}{str:Bs}{l pos:Nat}(a:h[l]?=some (.iter str pos)):opV G s h .nxt (some [.ptr l 0])=if pos<str.length then some (.tup [.T,.n pos,.int .i32 (Utf8.decode ⟨str.toArray⟩ pos).1],h.set l (.iter str (pos+(Utf8.decode ⟨str.toArray⟩ pos).2)))else some (.tup [.F],h):=by rw[eG rfl];simp only[cG,a]
@[simp]theorem xL4{G:Gam}{s:Bool}{h:aA}{a:Bs}:opV G s h .rng (some [.str a])=some (.ptr h.length 0,h++[.iter a 0]):=by rw[eG rfl];rfl
theorem aQ{n:Nat}{a:List (Nat×AV)}{h:aA}(b:h.length=n):trunc n a h=h:=by subst b;exact xu1
def sM(G:Gam)(h:aA)(f:FuncId)(c:List AV)(d:Bool)(s:Bs):Nat->Nat->Option Int
 |0,_=>none|n+1,a=>if a<s.length then(match ask G (h++[.iter s (a+(Utf8.decode ⟨s.toArray⟩ a).2)]) f c (.int .i32 (Utf8.decode ⟨s.toArray⟩ a).1)with
  |some b=>if b=d then some a else sM G h f c d s n (a+(Utf8.decode ⟨s.toArray⟩ a).2)|none=>none)else some (-1)
def GO(G:Gam):List AV->aA->Option AV
 |[.str s,.fn f a,.bool b],h=>(sM G h f a b s (s.length+1) 0).map (.n)|_,_=>none
def zS(G:Gam):List AV->aA->Option AV
 |[.str s,.fn f a],h=>(sM G h f a true s (s.length+1) 0).map (.n)|_,_=>none
def GT(G:Gam):List AV->aA->Option AV
 |[.str s,.fn f a],h=>(sM G h f a true s (s.length+1) 0).map fun i=>.bool (!ltB i 0)|_,_=>none
theorem zw5(G:Gam)(h:aA)(s:Bs)(f:FuncId)(g:List AV)(e:Bool):∀(n c:Nat)(v:Int),sM G h f g e s n c=some v->cY G [7,8,11] Mc.cm_L0 (h.length+1) [.blk 0,.seq (.seq (.reg [Kc 6 (-1)]) .ret)] (fP Rs.cm (.n v) h) [(0,.str s),(1,.fn f g),(2,.bool e),(6,.n 0),(7,.junk),(8,.junk),(10,.ptr h.length 0),(11,.junk)] (h++[.iter s c])
 |0,c,v,a=>by simp[sM]at a|n+1,c,v,a=>by
  refine aJ (Mc.cm_L0.eq_1) ?_;rw[aQ (by simp)];have k:=fun p=>WX (G:=G) (s:=p) (h:=h++[.iter s c]) (str:=s) (l:=h.length) (pos:=c) (by simp);simp only[sM]at a;by_cases d:c<s.length
  ·simp only[d,bD]at a;cases j:ask G (h++[.iter s (c+(Utf8.decode ⟨s.toArray⟩ c).2)]) f g (.int .i32 (Utf8.decode ⟨s.toArray⟩ c).1)with
   |none=>simp[j]at a|some b=>
    have l:=TI j;simp only[j]at a;by_cases i:b=e
    ·simp only[i,bD,aT]at a;subst a i;simp[k,d,l,fP,Rs.cm,owns,eS]
    ·simp only[i,bY]at a;have m:(b==e)=false:=by simp[i]
     simp[k,d,l,m];refine cZ ?_;have o:=zw5 G h s f g e n _ v a;rw[aQ (by simp)];simpa using o
  ·simp only[d,bY,aT]at a;subst a;simp[k,d,fP,Rs.cm,owns,eS]
theorem yS3(G:Gam):LW G Mc.cm Rs.cm Ks.cm (GO G):=by
 intro b h r a;match b,a with
 |[.str s,.fn f c,.bool g],a=>
  simp only[GO,dJ]at a;obtain⟨v,d,rfl⟩:=a;rw[aM];have e:=zw5 G h s f c g _ 0 v d;simpa[Mc.cm,aC,Ks.cm]using e
theorem xr3(G b:Gam)(e:G Fn.cm=some (.gen (cJ (GO b)))):LW G Mc.da Rs.da Ks.da (zS b):=by
 intro c h r a;match c,a with
 |[.str s,.fn f d],a=>
  simp only[zS,dJ]at a;obtain⟨v,i,rfl⟩:=a;rw[aM];have g:opV G false h (.call Fn.cm) (some [.str s,.fn f d,.T])=some (.n v,h):=by rw[eX e];simp[cJ,GO,i]
  simp[Mc.da,aC,Ks.da,g,fP,Rs.da,owns,eS]
theorem xr2(G b:Gam)(e:G Fn.da=some (.gen (cJ (zS b)))):LW G Mc.dx Rs.dx Ks.dx (GT b):=by
 intro c h r a;match c,a with
 |[.str s,.fn f d],a=>
  simp only[GT,dJ]at a;obtain⟨v,i,rfl⟩:=a;rw[aM];have g:opV G false h (.call Fn.da) (some [.str s,.fn f d])=some (.n v,h):=by rw[eX e];simp[cJ,zS,i]
  simp[Mc.dx,aC,Ks.dx,g,fP,Rs.dx,owns,eS]
def pch(n:Int):Bool:=(!ltB n 97&&!ltB 122 n)||(!ltB n 48&&!ltB 57 n)||eqB n 46||eqB n 95||eqB n 45
def MU:List AV->Option AV:=F1 (fG .i32) eBool fun n=>some (!pch n)
theorem xd7(G:Gam):PW G Mc.dd Rs.dd Ks.dd MU:=mK fun x r h=>by
 injection h with h;subst h;rw[aM];simp+contextual[Mc.dd,aC,Ks.dd,Rs.dd,fG,eBool,pch]
def jY:Bs->Bool
 |[]=>false|c::r=>!ltB 32 ((c::r).length:Nat)&&!eqB c.toNat 46&&!eqB c.toNat 45&&(c::r).all fun b=>pch b.toNat
theorem UH{s:Bs}{i:Nat}{b:UInt8}(a:s[i]?=some b)(h:b.toNat<128):Utf8.decode ⟨s.toArray⟩ i=(b.toNat,1):=by
 have c:(ByteArray.get! ⟨s.toArray⟩ i)=b:=by
  show s.toArray[i]! =b;simp[getElem!_def,a]
 unfold Utf8.decode;simp[c,h]
theorem zo6{s:Bs}{i:Nat}{b:UInt8}(d:s[i]?=some b)(h:128<=b.toNat):128<=(Utf8.decode ⟨s.toArray⟩ i).1:=by
 have e:(ByteArray.get! ⟨s.toArray⟩ (i+0))=b:=by
  show s.toArray[i]! =b;simp[getElem!_def,d]
 unfold Utf8.decode;have c:¬b.toNat<128:=by omega
 simp only[e,c,bY];split
 ·split;·simpa using‹_›
  ·decide
 ·split
  ·split;·rename_i a;simp at a;simp;omega
   ·decide
  ·split
   ·split;·rename_i a;simp at a;simp;omega
    ·decide
   ·decide
theorem zF4{n:Int}(h:128<=n):pch n=false:=by
 have a:ltB 122 n=true:=aO.2 (by omega);have b:ltB 57 n=true:=aO.2 (by omega);have c:eqB n 46=false:=eU.2 (by omega);have d:eqB n 95=false:=eU.2 (by omega);have e:eqB n 45=false:=eU.2 (by omega);simp[pch,a,b,c,d,e]
theorem zM9{G:Gam}(d:G Fn.dd=some (.pure MU))(h:aA)(s:Bs):∀(n a:Nat),s.length-a<n->∃v,sM G h Fn.dd [] true s n a=some v/\ltB v 0=(s.drop a).all fun b=>pch b.toNat
 |0,a,m=>by omega|n+1,a,m=>by
  have i:∀h(x:Int),ask G h Fn.dd [] (.int .i32 x)=some (!pch x):=fun h x=>DS (TT d rfl (nB (A:=fG .i32) (R:=eBool) (x:=x) rfl) rfl);simp only[sM,i];by_cases c:a<s.length
  ·obtain⟨b,e,j⟩:=zp0 c;simp only[c,bD,j,qJ];rcases mA b.toNat 128 with l|k
   ·rw[UH e l];cases o:pch b.toNat with
    |true=>
     simp only[nG,dE,bY,eF];exact zM9 d h s n (a+1) (by omega)|false=>exact⟨a,by simp,by simp[bC]⟩
   ·have f:=zF4 (n:=(Utf8.decode ⟨s.toArray⟩ a).1) (by have:=zo6 e k;omega);have g:=zF4 (n:=b.toNat) (by omega);exact⟨a,by simp[f],by simp[g,bC]⟩
  ·have:s.drop a=[]:=by rw[List.drop_eq_nil_iff];omega
   exact⟨-1,by simp[c],by rw[this];rfl⟩
def SV:List AV->Option AV:=F1 eStr eBool fun s=>some (jY s)
theorem xd9(G a:Gam)(g:G Fn.dx=some (.gen (cJ (GT a))))(i:a Fn.dd=some (.pure MU)):PW G Mc.dc Rs.dc Ks.dc SV:=mK fun s r h=>by
 injection h with h;subst h;rw[aM];cases s with
 |nil=>simp[Mc.dc,aC,Ks.dc,Rs.dc,eStr,eBool,jY]|cons c r=>
  obtain⟨v,k,b⟩:=zM9 i [] (c::r) ((c::r).length+1) 0 (by omega);have j:opV G false [] (.call Fn.dx) (some [.str (c::r),.fn Fn.dd []])=some (.bool (!ltB v 0),[]):=by rw[eX g];simp only[cJ,GT,k];rfl
  rw[vB]at b;cases d:ltB 32 ((r.length:Int)+1)<;>cases e:eqB (c.toNat:Int) 46<;>cases f:eqB (c.toNat:Int) 45<;>simp[Mc.dc,aC,Ks.dc,Rs.dc,eStr,eBool,jY,j,b,-List.all_cons,d,e,f]
def SR:List AV->Option AV:=F1 eStr eBool fun s=>some (!jY s)
theorem yc0(G:Gam)(a:G Fn.dc=some (.pure SV)):PW G Mc.d1 Rs.d1 Ks.d1 SR:=mK fun s r h=>by
 injection h with h;subst h;rw[aM];have b:∀st h,opV G st h (.call Fn.dc) (some [.str s])=some (.bool (jY s),h):=fun st h=>bF a rfl (nB (A:=eStr) (R:=eBool) (x:=s) rfl) (.inl rfl);simp[Mc.d1,aC,Ks.d1,Rs.d1,eStr,eBool,b]
theorem zO8(c:UInt8):∀s,(dG c s).length<=s.length+1
 |[]=>by simp[dG]|b::r=>by
  have a:=zO8 c r;unfold dG;split;·simp;omega
  ·split;·rename_i p d h;rw[h]at a;simp at a⊢;omega
   ·simp
def eY(s:Bs):Bool:=!ltB 128 s.length&&!ltB 8 (dG 47 s).length&&(dG 47 s).all jY
def uQ:List AV->Option AV:=F1 eStr eInt fun s=>if s.length<4294967281 then some (if eY s then 0 else 2)else none
theorem yc1(G b:Gam)(j:G Fn.ed=some (.pure CQ))(g:G Fn.d3=some (.gen (cJ (oQ false 1 b))))(i:b Fn.d1=some (.pure SR)):PW G Mc.d0 Rs.d0 Ks.d0 uQ:=mK fun s r h=>by
 split at h
 ·rename_i l;injection h with h;subst h;rw[aM];have f:∀st h,opV G st h (.call Fn.ed) (some [.str s,.str [47]])=some (.sl ((dG 47 s).map rStr.enc),h):=fun st h=>bF j rfl (MH (A:=eStr) (B:=eStr) (R:=eSl rStr) (x:=s) (y:=[47]) (by simp only[l,bD])) (.inr rfl);have a:=TZ (h:=[]) (caps:=[]) (p:=fun x=>!jY x) (f:=Fn.d1) (e:=rStr.enc) (val:=.str) (xs:=dG 47 s) g (by have:=zO8 47 s;unfold big;omega) (fun x=>⟨rfl,rfl⟩) (fun x _=>DS (TT i rfl (nB (A:=eStr) (R:=eBool) (x:=x) rfl) rfl));have k:(dG 47 s).any (fun x=>!jY x)=!(dG 47 s).all jY:=by rw[List.not_all_eq_any_not]
  rw[k]at a;cases d:ltB 128 s.length<;>cases e:ltB 8 (dG 47 s).length<;>cases c:(dG 47 s).all jY<;>simp only[c]at a<;>simp[Mc.d0,aC,Ks.d0,Rs.d0,eStr,eInt,eY,f,a,d,e,c]
 ·cases h
def uE(a:Bs):List Bs->List Bs
 |p::b=>(a++p)::b|[]=>[a]
theorem zG8(l:List Bs)(h:l≠[]):uE [] l=l:=by cases l with
 |nil=>exact absurd rfl h|cons p a=>rfl
theorem xq2{c:UInt8}{a:Bs}{b:UInt8}{r:Bs}(h:b≠c):uE a (dG c (b::r))=uE (a++[b]) (dG c r):=by
 have d:=CD c r;simp only[dG,h,bY];cases e:dG c r with
 |nil=>exact absurd e d|cons p f=>simp[uE]
theorem xq0{c:UInt8}{a:Bs}{r:Bs}:uE a (dG c (c::r))=a::dG c r:=by simp[dG,uE]
structure Touch where
 path:Bs
 dig:Bs deriving DecidableEq,Inhabited
structure Done where
 pkg:Int
 line:Int
 kind:Int
 reads:List Touch
 wrote:Touch deriving DecidableEq,Inhabited
def Touch.row(t:Touch):List AV:=[.str t.path,.str t.dig]
def vM:List AV->Option Touch
 |[.str p,.str d]=>some ⟨p,d⟩|_=>none
theorem UE{a:List AV}{t:Touch}(h:vM a=some t):a=t.row:=by
 unfold vM at h;split at h;·injection h with h;subst h;rfl
 ·cases h
def gT{b:Type}(a:List AV->Option b):List (List AV)->Option (List b)
 |[]=>some []|r::c=>match a r,gT a c with
  |some x,some d=>some (x::d)|_,_=>none
theorem oC{b:Type}{c:List AV->Option b}{enc:b->List AV}(d:∀r x,c r=some x->r=enc x):∀{e:List (List AV)}{a:List b},gT c e=some a->e=a.map enc
 |[],a,h=>by simp[gT]at h;subst h;rfl|r::i,a,h=>by
  simp only[gT]at h;split at h
  ·rename_i x j f g;injection h with h;subst h;rw[d r x f,oC d g];rfl
  ·cases h
theorem rS{b:Type}{c:List AV->Option b}{d:b->List AV}(e:∀x,c (d x)=some x):∀(a:List b),gT c (a.map d)=some a
 |[]=>rfl|x::a=>by simp[gT,e,rS e a]
@[simp]theorem yv2(t:Touch):vM t.row=some t:=rfl
def gU(a:List Touch):List (List AV):=a.map Touch.row
@[simp]theorem xN7{a:List Touch}:(gU a).length=a.length:=by simp[gU]
theorem xt2{a:List Touch}{i:Nat}{t:Touch}(h:a[i]?=some t):(gU a)[i]?=some [.str t.path,.str t.dig]:=by simp[gU,h,Touch.row]
@[simp]theorem zo5(a:List Touch):gT vM (gU a)=some a:=rS yv2 a
def Done.row(d:Done):List AV:=[.n d.pkg,.n d.line,.n d.kind,.sl (gU d.reads),.str d.wrote.path,.str d.wrote.dig]
def UA:List AV->Option Done
 |[.n p,.n l,.n k,.sl a,.str c,.str wd]=>(gT vM a).map fun b=>⟨p,l,k,b,⟨c,wd⟩⟩|_=>none
@[simp]theorem yu1(d:Done):UA d.row=some d:=by simp[UA,Done.row]
def UJ(a:List Done):List (List AV):=a.map Done.row
@[simp]theorem xC8{a:List Done}:(UJ a).length=a.length:=by simp[UJ]
@[simp]theorem xC1(a:List Done):gT UA (UJ a)=some a:=rS yu1 a
def AL(p d:Bs):Bool:=(d++[47]).isPrefixOf p
def LL:List Touch->List Touch->Int
 |_,[]=>0|a,f::r=>if eY f.path=false then 2 else if 65536<f.dig.length then 10 else if(a.getLast?.map fun g=>Op.bytesLess g.path f.path)=some false then 5 else if a.any (fun g=>AL f.path g.path)then 6 else LL (a++[f]) r
def SI(t:List Touch):Int:=if 64<t.length then 10 else LL [] t
structure Bun where
 man:Bs
 pap:List Touch
 src:List Touch
theorem yr1{r:Rd}(h:jC r=0):r.err=0/\r.rest=[]:=by
 unfold jC at h;split at h;·cases h
 ·rename_i a;refine⟨h,?_⟩;rcases Classical.em (r.rest=[])with e|e;·exact e
  ·exact absurd ⟨h,e⟩ a
def nS:List AV->Option AV
 |[.str s,.str t]=>some (.bool (t.isPrefixOf s))|_=>none
end
end Go.Proofs.YtdebajodkallbaaGreatDoor
