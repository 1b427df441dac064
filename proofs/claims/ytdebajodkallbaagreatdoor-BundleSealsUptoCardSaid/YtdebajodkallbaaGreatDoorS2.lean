/- Names of items -/
import Derived.Test.YtdebajodkallbaaGreatDoorS1
import Derived.Test.YtdebajodkallbaaGreatDoorPkA
namespace Go.Proofs.YtdebajodkallbaaGreatDoor
open Go.RowKit Go.IntWalk
def ltI(n:Int):Bool:=(!ltB n 97&&!ltB 122 n)||eqB n 95
def dgI(n:Int):Bool:=!ltB n 48&&!ltB 57 n
def nmI(a:Bool)(n:Int):Bool:=dgI n||(a&&ltI n)
theorem zD0{names:Bool}{n:Int}(h:128<=n):nmI names n=false:=by
 have a:ltB 122 n=true:=aO.2 (by omega);have b:ltB 57 n=true:=aO.2 (by omega);have c:eqB n 95=false:=eU.2 (by omega);simp[nmI,ltI,dgI,a,b,c]
def bI(a:Bool)(b:UInt8):Bool:=nmI a b.toNat
def fL(a:Bool):Bs->Nat
 |[]=>0|c::r=>if bI a c then fL a r+1 else 0
theorem KX(a:Bool):∀s:Bs,fL a s<=s.length
 |[]=>dA _|c::r=>by
  have:=KX a r;rw[fL];split<;>simp;omega
theorem YG(a:Bool):∀s:Bs,fL a s=s.length↔s.all (bI a)=true
 |[]=>by simp[fL]|c::r=>by
  have b:=YG a r;have e:=KX a r;rw[fL];cases h:bI a c with
  |true=>simp only[bD,hJ,qJ,h,eF];rw[<-b];omega|false=>simp[h]
theorem zM4(a:Bool):∀s:Bs,(s.take (fL a s)).all (bI a)=true
 |[]=>rfl|c::r=>by
  rw[fL];cases h:bI a c with
  |true=>simp only[bD,List.take_succ_cons,qJ,h,eF];exact zM4 a r|false=>simp
theorem xl5{names:Bool}{c:UInt8}{r:Bs}(h:bI names c=true):0<fL names (c::r):=by rw[fL,if_pos h];omega
def rX:Bs->Bool
 |[]=>false|c::r=>!ltB 32 ((c::r).length:Nat)&&ltI c.toNat&&(c::r).all (bI true)
def keyW:List Bs:=[[108,101,116],[115,101,116],[105,102],[101,108,115,101],[119,104,105,108,101],[114,101,116,117,114,110],[100,111],[111,117,116],[115,116,111,114,101],[108,111,97,100],[105,110],[105,110,99,108,117,100,101],[100,101,102,105,110,101],[117,110,100,101,102],[119,104,101,110],[117,110,108,101,115,115],[110,111,116,101],[101,120,116,101,114,110],[101,120,112,111,114,116],[119,101,97,107],[102,110],[100,97,116,97]]
def gN(s:Bs):Bool:=rX s&&!keyW.contains s
theorem yz6{s:Bs}(h:rX s=true):0<s.length/\s.length<=32:=by cases s with
 |nil=>cases h|cons c r=>
  unfold rX at h;simp only[bS,lK,bC]at h;exact⟨by simp,by omega⟩
theorem zC7{s:Bs}(h:gN s=true):0<s.length/\s.length<=32:=by
 unfold gN at h;rw[bS]at h;exact yz6 h.1
def PF:Bs->Nat->Option Nat
 |[],n=>some n|c::r,n=>if 4294967295<10*n+(c.toNat-48)then none else PF r (10*n+(c.toNat-48))
def KM(s:Bs)(n:Nat):Nat×Int:=match PF s n with
 |some m=>(m,0)|none=>(0,3)
def yI(s:Bs):Nat×Int:=if 1<s.length/\s.head?=some 48 then(0,4)else KM s 0
def symW:List Bs:=[[124,124],[38,38],[61,61],[33,61],[60,61],[62,61],[60,60],[62,62]]
def LK:Bs:=[124,94,38,60,62,43,45,42,47,37,126,33,40,41,44,61]
def CG(s:Bs):Bs:=if 1<s.length/\symW.contains (s.take 2)=true then s.take 2 else match s with
 |[]=>[]|c::_=>if ltB (Lib.indexByte LK c) 0 then[]else s.take 1
def oG:Bs->(Int×Bs)×Int
 |[]=>((0,[]),4)|c::r=>if ltI c.toNat then(if 32<fL true (c::r)then((0,[]),2)else((1,(c::r).take (fL true (c::r))),0))else if dgI c.toNat then(if(yI ((c::r).take (fL false (c::r)))).2≠0 then((0,[]),(yI ((c::r).take (fL false (c::r)))).2)else if((c::r)[fL false (c::r)]?).any (fun b=>ltI b.toNat)then((0,[]),4)else((2,(c::r).take (fL false (c::r))),0))else if CG (c::r)≠[]then((3,CG (c::r)),0)else((0,[]),4)
def FU(k:Int)(s:Bs):Bool:=!(s==[])&&(eqB (oG s).2 0&&(eqB (oG s).1.1 k&&(oG s).1.2==s))
theorem xs3{s:Bs}{n:Nat}(h:n<=s.length):s.take n=s↔n=s.length:=by
 constructor
 ·intro e;have:=congrArg List.length e;rw[lY]at this;omega
 ·intro e;subst e;exact kE
theorem xv8(s:Bs):FU 1 s=rX s:=by cases s with
 |nil=>rfl|cons c r=>
  have j:((c::r)==([]:Bs))=false:=rfl;unfold FU;rw[j];simp only[iF,eF,oG,rX];cases n:ltI (c.toNat:Int)with
  |true=>
   have g:=YG true (c::r);have i:=KX true (c::r);simp only[bD,uX];by_cases f:32<fL true (c::r)
   ·have q:ltB 32 ((c::r).length:Nat)=true:=aO.2 (by omega);have k:eqB 2 0=false:=rfl;rw[if_pos f,q];simp[k]
   ·rw[if_neg f];simp only[yx8,eF];cases a:(c::r).all (bI true)with
    |true=>
     have e:=g.2 a;have q:ltB 32 ((c::r).length:Nat)=false:=bC.2 (by omega);rw[q,e,kE];simp|false=>
     have e:¬fL true (c::r)=(c::r).length:=fun e=>by rw[g.1 e]at a;cases a
     rw[nF,beq_eq_false_iff_ne];exact fun h=>e ((xs3 i).1 h)
  |false=>
   simp only[dE,bY,nF,eW];have l:eqB 2 1=false:=rfl;have m:eqB 3 1=false:=rfl;have b:eqB 0 1=false:=rfl;split
   ·split;·simp[b]
    ·split;·simp[b]
     ·simp[l]
   ·split;·simp[m]
    ·simp[b]
theorem xa4{s:Bs}(h:s.all (bI false)=true):∀b∈s,48<=b.toNat/\b.toNat<=57:=by
 intro b a;have:=gV.1 h b a;simp only[bI,nmI,eW,uZ,dgI,bS,lK,bC]at this;omega
structure Plc where
 obj:Bs
 sym:Bs
 kd:Int
 pos:Int
 siz:Int deriving DecidableEq,Inhabited
structure Imp where
 lib:Bs
 sym:Bs
 pos:Int deriving DecidableEq,Inhabited
structure Expo where
 sym:Bs
 pos:Int deriving DecidableEq,Inhabited
structure Bin where
 kind:Int
 entry:Int
 img:Bs
 pl:List Plc
 fx:List Int
 im:List Imp
 ex:List Expo
 nt:List (Bs×Bs)deriving DecidableEq,Inhabited
def Plc.row(p:Plc):List AV:=[.str p.obj,.str p.sym,.n p.kd,.n p.pos,.n p.siz]
def Imp.row(p:Imp):List AV:=[.str p.lib,.str p.sym,.n p.pos]
def Expo.row(p:Expo):List AV:=[.str p.sym,.n p.pos]
def eC(n:Int):List AV:=[.n n]
def dI(n:Bs×Bs):List AV:=[.str n.1,.str n.2]
def xX:List AV->Option Plc
 |[.str o,.str s,.n k,.n p,.n z]=>some ⟨o,s,k,p,z⟩|_=>none
def IZ:List AV->Option Imp
 |[.str o,.str s,.n p]=>some ⟨o,s,p⟩|_=>none
def IY:List AV->Option Expo
 |[.str s,.n p]=>some ⟨s,p⟩|_=>none
def AR:List AV->Option Int
 |[.n p]=>some p|_=>none
def AS:List AV->Option (Bs×Bs)
 |[.str a,.str b]=>some (a,b)|_=>none
@[simp]theorem OZ(t:Plc):xX t.row=some t:=rfl
@[simp]theorem yu5(t:Imp):IZ t.row=some t:=rfl
@[simp]theorem yu3(t:Expo):IY t.row=some t:=rfl
@[simp]theorem zn8(t:Int):AR (eC t)=some t:=rfl
@[simp]theorem yu6(t:Bs×Bs):AS (dI t)=some t:=rfl
theorem OY{r:List AV}{t:Plc}(h:xX r=some t):r=t.row:=by
 unfold xX at h;split at h;·injection h with h;subst h;rfl
 ·cases h
theorem yu4{r:List AV}{t:Imp}(h:IZ r=some t):r=t.row:=by
 unfold IZ at h;split at h;·injection h with h;subst h;rfl
 ·cases h
theorem yu2{r:List AV}{t:Expo}(h:IY r=some t):r=t.row:=by
 unfold IY at h;split at h;·injection h with h;subst h;rfl
 ·cases h
theorem UB{r:List AV}{t:Int}(h:AR r=some t):r=eC t:=by
 unfold AR at h;split at h;·injection h with h;subst h;rfl
 ·cases h
theorem zn9{r:List AV}{t:Bs×Bs}(h:AS r=some t):r=dI t:=by
 unfold AS at h;split at h;·injection h with h;subst h;rfl
 ·cases h
def aK(l:List Plc):List (List AV):=l.map Plc.row
def bP(l:List Imp):List (List AV):=l.map Imp.row
def bZ(l:List Expo):List (List AV):=l.map Expo.row
def bO(l:List Int):List (List AV):=l.map eC
def dK(l:List (Bs×Bs)):List (List AV):=l.map dI
@[simp]theorem xe9{l:List Plc}:(aK l).length=l.length:=by simp[aK]
@[simp]theorem yR9{l:List Imp}:(bP l).length=l.length:=by simp[bP]
@[simp]theorem yy1{l:List Expo}:(bZ l).length=l.length:=by simp[bZ]
@[simp]theorem yA0{l:List Int}:(bO l).length=l.length:=by simp[bO]
@[simp]theorem xa1{l:List (Bs×Bs)}:(dK l).length=l.length:=by simp[dK]
theorem yM{l:List Plc}{i:Nat}{t:Plc}(h:l[i]?=some t):(aK l)[i]?=some t.row:=by simp[aK,h]
theorem JT{l:List Imp}{i:Nat}{t:Imp}(h:l[i]?=some t):(bP l)[i]?=some t.row:=by simp[bP,h]
theorem JG{l:List Expo}{i:Nat}{t:Expo}(h:l[i]?=some t):(bZ l)[i]?=some t.row:=by simp[bZ,h]
theorem JO{l:List Int}{i:Nat}{t:Int}(h:l[i]?=some t):(bO l)[i]?=some (eC t):=by simp[bO,h]
theorem KL{l:List (Bs×Bs)}{i:Nat}{t:Bs×Bs}(h:l[i]?=some t):(dK l)[i]?=some (dI t):=by simp[dK,h]
@[simp]theorem xC5(l:List Plc):gT xX (aK l)=some l:=rS OZ l
@[simp]theorem xC4(l:List Imp):gT IZ (bP l)=some l:=rS yu5 l
@[simp]theorem xC2(l:List Expo):gT IY (bZ l)=some l:=rS yu3 l
@[simp]theorem xC3(l:List Int):gT AR (bO l)=some l:=rS zn8 l
@[simp]theorem yv4(l:List (Bs×Bs)):gT AS (dK l)=some l:=rS yu6 l
def Bin.cells(b:Bin):List AV:=[.n b.kind,.n b.entry,.str b.img,.sl (aK b.pl),.sl (bO b.fx),.sl (bP b.im),.sl (bZ b.ex),.sl (dK b.nt)]
def mP:List AV->Option Bin
 |[.n k,.n e,.str i,.sl p,.sl f,.sl m,.sl x,.sl n]=>match gT xX p,gT AR f,gT IZ m,gT IY x,gT AS n with
  |some p,some f,some m,some x,some n=>some ⟨k,e,i,p,f,m,x,n⟩|_,_,_,_,_=>none
 |_=>none
@[simp]theorem jK(b:Bin):mP b.cells=some b:=by simp[mP,Bin.cells]
theorem mE{r:List AV}{b:Bin}(h:mP r=some b):r=b.cells:=by
 unfold mP at h;split at h
 ·split at h
  ·rename_i a c e h4 h5;injection h with h;subst h;rw[oC (enc:=Plc.row) (fun r x=>OY) a,oC (enc:=eC) (fun r x=>UB) c,oC (enc:=Imp.row) (fun r x=>yu4) e,oC (enc:=Expo.row) (fun r x=>yu2) h4,oC (enc:=dI) (fun r x=>zn9) h5];rfl
  ·cases h
 ·cases h
def kN(s:Bs)(i:Nat):Nat:=16777216*(s.getD (i+3) 0).toNat+(65536*(s.getD (i+2) 0).toNat+(256*(s.getD (i+1) 0).toNat+(s.getD i 0).toNat))
theorem XA{x c i:Nat}(g:x<2^i)(h:2^i*c+x<4294967296):aW .or (.n (x:Int)) (.n ((2^i*c:Nat):Int))=some (.n ((2^i*c+x:Nat):Int)):=by
 have e:(BitVec.ofInt 64 (x:Int)|||BitVec.ofInt 64 ((2^i*c:Nat):Int)).toNat=2^i*c+x:=by
  rw[BitVec.toNat_or,Nat.or_comm,Nat.two_pow_add_eq_or_of_lt g];have a:(BitVec.ofInt 64 ((2^i*c:Nat):Int)).toNat=2^i*c:=by rw[DO];omega
  have b:(BitVec.ofInt 64 (x:Int)).toNat=x:=by rw[DO];omega
  rw[a,b]
 have f:fS .or .i64 (x:Int) ((2^i*c:Nat):Int)=some (.n (IntKind.i64.wrap ((BitVec.ofInt 64 (x:Int)|||BitVec.ofInt 64 ((2^i*c:Nat):Int)).toNat:Int))):=rfl;simp only[aW,reduceCtorEq,or_self,bY,bD];rw[f,e,i64_in _ ⟨by omega,by omega⟩]
theorem XC{x c i:Nat}(j:x<2^i)(h:2^i*c+x<4294967296):aW .or (.int .u32 (x:Int)) (.int .u32 ((2^i*c:Nat):Int))=some (.int .u32 ((2^i*c+x:Nat):Int)):=by
 have e:(BitVec.ofInt 32 (x:Int)|||BitVec.ofInt 32 ((2^i*c:Nat):Int)).toNat=2^i*c+x:=by
  rw[BitVec.toNat_or,Nat.or_comm,Nat.two_pow_add_eq_or_of_lt j];have a:(BitVec.ofInt 32 ((2^i*c:Nat):Int)).toNat=2^i*c:=by rw[DO];omega
  have b:(BitVec.ofInt 32 (x:Int)).toNat=x:=by rw[DO];omega
  rw[a,b]
 have f:fS .or .u32 (x:Int) ((2^i*c:Nat):Int)=some (.int .u32 (IntKind.u32.wrap ((BitVec.ofInt 32 (x:Int)|||BitVec.ofInt 32 ((2^i*c:Nat):Int)).toNat:Int))):=rfl;have g:∀n:Nat,n<4294967296->IntKind.u32.wrap (n:Int)=(n:Int):=fun n k=>by
  simp only[IntKind.wrap,IntKind.signed,IntKind.bits];simp;omega
 simp only[aW,reduceCtorEq,or_self,bY,bD];rw[f,e,g _ h]
theorem YN{b i:Nat}(h:b<256)(f:i<=24):aW .shl (.n (b:Int)) (.u (i:Int))=some (.n ((2^i*b:Nat):Int)):=by
 have g:2^i<=2^24:=Nat.pow_le_pow_right (by omega) f;have j:2^i*b<=2^24*255:=Nat.mul_le_mul g (by omega);have a:Nat.min (i:Int).toNat IntKind.i64.bits=i:=by rw[iG];exact vH (show i<=64 by omega)
 have c:(b:Int)*2^i=((2^i*b:Nat):Int):=by rw[Nat.mul_comm];simp
 have e:IntKind.i64.wrap ((b:Int)*2^i)=((2^i*b:Nat):Int):=by rw[c,i64_in _ ⟨by omega,by omega⟩]
 simp only[aW,reduceCtorEq,true_or,bD,a];simp[e]
theorem upE{n:Int}(a:0<=n)(b:n<4000000000000000000):IntKind.i64.wrap (4*((n+3).tdiv 4))=4*((n+3)/4):=by rw[AA (by omega),i64_in _ ⟨by omega,by omega⟩]
theorem YO{b i:Nat}(j:b<256)(g:i<=24):aW .shl (.int .u32 (b:Int)) (.u (i:Int))=some (.int .u32 ((2^i*b:Nat):Int)):=by
 have h:2^i<=2^24:=Nat.pow_le_pow_right (by omega) g;have k:2^i*b<=2^24*255:=Nat.mul_le_mul h (by omega);have a:Nat.min (i:Int).toNat IntKind.u32.bits=i:=by rw[iG];exact vH (show i<=32 by omega)
 have c:(b:Int)*2^i=((2^i*b:Nat):Int):=by rw[Nat.mul_comm];simp
 have f:∀n:Nat,n<4294967296->IntKind.u32.wrap (n:Int)=(n:Int):=fun n l=>by
  simp only[IntKind.wrap,IntKind.signed,IntKind.bits];simp;omega
 have e:IntKind.u32.wrap ((b:Int)*2^i)=((2^i*b:Nat):Int):=by rw[c,f _ (by omega)]
 simp only[aW,reduceCtorEq,true_or,bD,a];simp[e]
def xB:List AV->Option AV
 |[.str s,.n i]=>if 0<=i/\i+3<s.length/\s.length<big then some (.n (kN s i.toNat))else none|_=>none
theorem yD{s:Bs}{i:Nat}(h:i<s.length):s[i]?=some (s.getD i 0):=by rw[nV,jT h];rfl
theorem xO3{n:Nat}(a:n<4294967296):IntKind.u32.wrap (n:Int)=(n:Int):=by
 simp only[IntKind.wrap,IntKind.signed,IntKind.bits];simp;omega
theorem xx0{G:Gam}:PW G Mc.cw Rs.cw Ks.cw xB:=by
 intro P a1 b;unfold xB at b;split at b
 ·rename_i s i;split at b
  ·rename_i B;obtain⟨V,W,A⟩:=B;injection b with b;subst b;obtain⟨n,rfl⟩:∃n:Nat,i=n:=⟨i.toNat,by omega⟩;unfold big at A;have v:∀a h,opV G a h .istr (some [.str s,.n (n:Int)])=some (.int .u8 ((s.getD n 0).toNat:Int),h):=fun a h=>jX (yD (by omega));have w:∀a h,opV G a h .istr (some [.str s,.n ((n+1:Nat):Int)])=some (.int .u8 ((s.getD (n+1) 0).toNat:Int),h):=fun a h=>jX (yD (by omega));have x:∀a h,opV G a h .istr (some [.str s,.n ((n+2:Nat):Int)])=some (.int .u8 ((s.getD (n+2) 0).toNat:Int),h):=fun a h=>jX (yD (by omega));have z:∀a h,opV G a h .istr (some [.str s,.n ((n+3:Nat):Int)])=some (.int .u8 ((s.getD (n+3) 0).toNat:Int),h):=fun a h=>jX (yD (by omega));have M:IntKind.i64.wrap ((n:Int)+1)=((n+1:Nat):Int):=by rw[i64_in _ ⟨by omega,by omega⟩];omega
   have N:IntKind.i64.wrap ((n:Int)+2)=((n+2:Nat):Int):=by rw[i64_in _ ⟨by omega,by omega⟩];omega
   have O:IntKind.i64.wrap ((n:Int)+3)=((n+3:Nat):Int):=by rw[i64_in _ ⟨by omega,by omega⟩];omega
   have Q:=(s.getD n 0).toNat_lt;have S:=(s.getD (n+1) 0).toNat_lt;have T:=(s.getD (n+2) 0).toNat_lt;have U:=(s.getD (n+3) 0).toNat_lt;rw[aM];unfold kN;rw[iG];generalize n+1=E at*;generalize n+2=F at*;generalize n+3=H at*;generalize(s.getD n 0).toNat=g at*;generalize(s.getD E 0).toNat=c at*;generalize(s.getD F 0).toNat=e at*;generalize(s.getD H 0).toNat=f at*;have I:IntKind.i64.wrap (g:Int)=g:=i64_in _ ⟨by omega,by omega⟩;have J:IntKind.i64.wrap (c:Int)=c:=i64_in _ ⟨by omega,by omega⟩;have K:IntKind.i64.wrap (e:Int)=e:=i64_in _ ⟨by omega,by omega⟩;have L:IntKind.i64.wrap (f:Int)=f:=i64_in _ ⟨by omega,by omega⟩;have r:aW .shl (.n (c:Int)) (.u 8)=some (.n ((256*c:Nat):Int)):=YN (i:=8) (by omega) (by omega);have t:aW .shl (.n (e:Int)) (.u 16)=some (.n ((65536*e:Nat):Int)):=YN (i:=16) (by omega) (by omega);have u:aW .shl (.n (f:Int)) (.u 24)=some (.n ((16777216*f:Nat):Int)):=YN (i:=24) (by omega) (by omega);have j:aW .or (.n (g:Int)) (.n ((256*c:Nat):Int))=some (.n ((256*c+g:Nat):Int)):=XA (i:=8) (by omega) (by omega);obtain⟨m,C⟩:∃y,y=256*c+g:=⟨_,rfl⟩;have k:aW .or (.n (m:Int)) (.n ((65536*e:Nat):Int))=some (.n ((65536*e+m:Nat):Int)):=XA (i:=16) (by omega) (by omega);obtain⟨o,D⟩:∃y,y=65536*e+m:=⟨_,rfl⟩;have l:aW .or (.n (o:Int)) (.n ((16777216*f:Nat):Int))=some (.n ((16777216*f+o:Nat):Int)):=XA (i:=24) (by omega) (by omega);rw[<-C]at j⊢;rw[<-D]at k⊢;generalize 16777216*f+o=a2 at l⊢;generalize 256*c=X at r j;generalize 65536*e=Y at t k;generalize 16777216*f=Z at u l;simp[Mc.cw,Ks.cw,aC,v,w,x,z,M,N,O,I,J,K,L,r,t,u,j,k,l,aD,Rs.cw]
  ·cases b
 ·cases b
def xC:List AV->Option AV
 |[.str s,.n i]=>if 0<=i/\i+3<s.length/\s.length<big then some (.int .u32 (kN s i.toNat))else none|_=>none
theorem xw9{G:Gam}:PW G Mc.cy Rs.cy Ks.cy xC:=by
 intro P a1 b;unfold xC at b;split at b
 ·rename_i s i;split at b
  ·rename_i B;obtain⟨V,W,A⟩:=B;injection b with b;subst b;obtain⟨n,rfl⟩:∃n:Nat,i=n:=⟨i.toNat,by omega⟩;unfold big at A;have v:∀a h,opV G a h .istr (some [.str s,.n (n:Int)])=some (.int .u8 ((s.getD n 0).toNat:Int),h):=fun a h=>jX (yD (by omega));have w:∀a h,opV G a h .istr (some [.str s,.n ((n+1:Nat):Int)])=some (.int .u8 ((s.getD (n+1) 0).toNat:Int),h):=fun a h=>jX (yD (by omega));have x:∀a h,opV G a h .istr (some [.str s,.n ((n+2:Nat):Int)])=some (.int .u8 ((s.getD (n+2) 0).toNat:Int),h):=fun a h=>jX (yD (by omega));have z:∀a h,opV G a h .istr (some [.str s,.n ((n+3:Nat):Int)])=some (.int .u8 ((s.getD (n+3) 0).toNat:Int),h):=fun a h=>jX (yD (by omega));have M:IntKind.i64.wrap ((n:Int)+1)=((n+1:Nat):Int):=by rw[i64_in _ ⟨by omega,by omega⟩];omega
   have N:IntKind.i64.wrap ((n:Int)+2)=((n+2:Nat):Int):=by rw[i64_in _ ⟨by omega,by omega⟩];omega
   have O:IntKind.i64.wrap ((n:Int)+3)=((n+3:Nat):Int):=by rw[i64_in _ ⟨by omega,by omega⟩];omega
   have Q:=(s.getD n 0).toNat_lt;have S:=(s.getD (n+1) 0).toNat_lt;have T:=(s.getD (n+2) 0).toNat_lt;have U:=(s.getD (n+3) 0).toNat_lt;rw[aM];unfold kN;rw[iG];generalize n+1=E at*;generalize n+2=F at*;generalize n+3=H at*;generalize(s.getD n 0).toNat=g at*;generalize(s.getD E 0).toNat=c at*;generalize(s.getD F 0).toNat=e at*;generalize(s.getD H 0).toNat=f at*;have I:IntKind.u32.wrap (g:Int)=g:=xO3 (by omega);have J:IntKind.u32.wrap (c:Int)=c:=xO3 (by omega);have K:IntKind.u32.wrap (e:Int)=e:=xO3 (by omega);have L:IntKind.u32.wrap (f:Int)=f:=xO3 (by omega);have r:aW .shl (.int .u32 (c:Int)) (.u 8)=some (.int .u32 ((256*c:Nat):Int)):=YO (i:=8) (by omega) (by omega);have t:aW .shl (.int .u32 (e:Int)) (.u 16)=some (.int .u32 ((65536*e:Nat):Int)):=YO (i:=16) (by omega) (by omega);have u:aW .shl (.int .u32 (f:Int)) (.u 24)=some (.int .u32 ((16777216*f:Nat):Int)):=YO (i:=24) (by omega) (by omega);have j:aW .or (.int .u32 (g:Int)) (.int .u32 ((256*c:Nat):Int))=some (.int .u32 ((256*c+g:Nat):Int)):=XC (i:=8) (by omega) (by omega);obtain⟨m,C⟩:∃y,y=256*c+g:=⟨_,rfl⟩;have k:aW .or (.int .u32 (m:Int)) (.int .u32 ((65536*e:Nat):Int))=some (.int .u32 ((65536*e+m:Nat):Int)):=XC (i:=16) (by omega) (by omega);obtain⟨o,D⟩:∃y,y=65536*e+m:=⟨_,rfl⟩;have l:aW .or (.int .u32 (o:Int)) (.int .u32 ((16777216*f:Nat):Int))=some (.int .u32 ((16777216*f+o:Nat):Int)):=XC (i:=24) (by omega) (by omega);rw[<-C]at j⊢;rw[<-D]at k⊢;generalize 16777216*f+o=a2 at l⊢;generalize 256*c=X at r j;generalize 65536*e=Y at t k;generalize 16777216*f=Z at u l;simp[Mc.cy,Ks.cy,aC,v,w,x,z,M,N,O,I,J,K,L,r,t,u,j,k,l,aD,Rs.cy]
  ·cases b
 ·cases b
def upZ(n:Int):Int:=4*((n+3)/4)
def zU:List AV->Option AV
 |[.n n]=>if 0<=n/\n<=1000000000 then some (.n (upZ n))else none|_=>none
theorem xv6{G:Gam}:PW G Mc.dg Rs.dg Ks.dg zU:=by
 intro g r a;unfold zU at a;split at a
 ·rename_i n;split at a
  ·rename_i h;injection a with a;subst a;have f:IntKind.i64.wrap (n+3)=n+3:=i64_in _ ⟨by omega,by omega⟩;have c:aW .quo (.n (n+3)) (.n 4)=some (.n ((n+3)/4)):=by
    have e:(n+3).tdiv 4=(n+3)/4:=AA (by omega);simp only[aW,fS];simp[e];rw[i64_in _ ⟨by omega,by omega⟩]
   have b:aW .mul (.n ((n+3)/4)) (.n 4)=some (.n (upZ n)):=by
    simp only[aW,fS];simp;rw[i64_in _ ⟨by omega,by omega⟩];unfold upZ;omega
   generalize(n+3)/4=y at c b;rw[aM];simp[Mc.dg,Ks.dg,aC,f,c,b,aD,Rs.dg]
  ·cases a
 ·cases a
def vX(a:Bs):List (Bs×Bs)->Bs×Bool
 |[]=>([],false)|n::r=>if n.1=a then(n.2,true)else vX a r
def rJ:List AV->Option AV
 |[.agg c,.str a]=>match mP c with
  |some b=>if b.nt.length<big then some (.tup [.str (vX a b.nt).1,.bool (vX a b.nt).2])else none|none=>none
 |_=>none
theorem iS(b:Bin)(n:Nat):bN n b.cells=true:=by simp[Bin.cells,bN,low]
theorem wR{fr:List (Nat×AV)}{a x:Blk}(c:bW 1 fr=true)(b:cV 1 [a]=true):trunc 1 fr [a,x]=[a]:=by unfold trunc;simp[c,b]
theorem SD{h:aA}{p d:Bs}:aU 2 (h++[.cells [.str [],.str []]]) (.ptr h.length 0) (.agg [.str p,.str d])=some (h++[.cells [.str p,.str d]]):=by
 have:=nP (h:=h++[Blk.cells [.str [],.str []]]) (l:=h.length) (n:=2) (vs:=[.str [],.str []]) (us:=[.str p,.str d]) (by simp) rfl rfl (by omega) rfl;simpa[-bB]using this
theorem zD1(G:Gam)(b:Bin)(f:Bs)(m:b.nt.length<big)(c:List AV)(r:∀n,bN n c=true):∀(g:List (Bs×Bs))(i:Nat),b.nt.drop i=g->i<=b.nt.length->cY G [7] Mc.bu_L0 1 [.blk 0,.seq (.seq (.reg [Km 4 (.c (.str [])),Kb 5 false]) .ret)] (aD Rs.bu (.tup [.str (vX f g).1,.bool (vX f g).2])) [(0,.agg c),(1,.str f),(2,.ptr 0 0),(4,.str []),(5,.F),(7,.junk),(9,.sl (dK b.nt)),(10,.n b.nt.length),(11,.n i)] [.cells c]
 |[],i,j,x=>by
  have E:=drop_nil j;have e:i=b.nt.length:=by omega
  subst e;refine aJ (Mc.bu_L0.eq_1) ?_;rw[aQ (n:=1) rfl];simp[vX,aD,Rs.bu]|(a,t)::g,i,j,x=>by
  obtain⟨F,A,B⟩:=eT j;have q:ltB (i:Int) (b.nt.length:Int)=true:=aO.2 (by omega);have z:=dT (i:=i) (by unfold big at m⊢;omega);have D:=KL A;have l:∀h,bA 2 h (.sl (dK b.nt)) (.n (i:Int))=some (.fptr [.str a,.str t] 0):=fun h=>by simp[bA,D,dI]
  have u:∀h,aB 2 true h (.fptr [.str a,.str t] 0)=some (.agg [.str a,.str t]):=fun h=>by simp[aB,cut,aE]
  have w:aU 2 [.cells c,.cells [.str [],.str []]] (.ptr 1 0) (.agg [.str a,.str t])=some [.cells c,.cells [.str a,.str t]]:=SD (h:=[.cells c]);have v:aB 1 false [.cells c,.cells [.str a,.str t]] (.ptr 1 0)=some (.str a):=aR (l:=1) rfl rfl;have C:aB 1 false [.cells c,.cells [.str a,.str t]] (.ptr 1 1)=some (.str t):=aR (l:=1) rfl rfl;have o:=r 1;have s:=zD1 G b f m c r g (i+1) B (by omega);refine aJ (Mc.bu_L0.eq_1) ?_;rw[aQ (n:=1) rfl];by_cases k:a=f
  ·subst k;simp only[vX,bD];simp[q,l,u,w,v,C,dV,aD,Rs.bu,-aB,-bB]
  ·simp only[vX,if_neg k];have y:(a==f)=false:=by simpa using k
   generalize dK b.nt=R at l s⊢;simp[q,l,u,w,v,dV,y,z,-aB,-bB];refine cZ ?_;rw[wR (by simp[bW,low,o]) (by simp[cV,gD,o])];simpa using s
theorem zD2{G:Gam}:PW G Mc.bu Rs.bu Ks.bu rJ:=by
 intro m r a;unfold rJ at a;split at a
 ·rename_i c l;split at a
  ·rename_i b j;split at a
   ·rename_i k;injection a with a;subst a;obtain rfl:c=b.cells:=mE j;have e:=zD1 G b l k b.cells (iS b) b.nt 0 rfl (by omega);have f:∀i:aA,aB 1 false (.cells b.cells::i) (.ptr 0 7)=some (.sl (dK b.nt)):=fun i=>aR (l:=0) rfl rfl;have g:∀h,opV G h [] .box (some [.agg b.cells])=some (.ptr 0 0,[.cells b.cells]):=fun h=>sI (h:=[]) (v:=.agg b.cells) (by simp[AV.cells,Bin.cells]);rw[aM];generalize b.cells=c at e f g⊢;simp[Mc.bu,Ks.bu,aC,g,f,-aB];simpa using e
   ·cases a
  ·cases a
 ·cases a
theorem yZ9{G:Gam}:PW G Mc.d5 Rs.d5 Ks.d5 rJ:=zD2
def BM(p:Plc):Bool:=decide (-1000000000000<=p.pos)&&decide (p.pos<=1000000000000)&&decide (-1000000000000<=p.siz)&&decide (p.siz<=1000000000000)
theorem KO{p:Plc}(h:BM p=true):(-1000000000000<=p.pos/\p.pos<=1000000000000)/\(-1000000000000<=p.siz/\p.siz<=1000000000000):=by simpa[BM,and_assoc]using h
def qV(b:Bin):Bool:=decide (b.pl.length<1000000)&&b.pl.all BM
theorem yL{b:Bin}(h:qV b=true):b.pl.length<1000000/\∀p∈b.pl,BM p=true:=by simpa[qV]using h
def kB(a:Int)(l:List Plc):Bool:=l.any fun p=>decide (p.pos<=a)&&decide (a<=p.pos+p.siz-4)
def xA:List AV->Option AV
 |[.agg c,.n a]=>match mP c with
  |some b=>if qV b=true then some (.bool (kB a b.pl))else none|none=>none
 |_=>none
theorem SE{h:aA}{p:Plc}:aU 5 (h++[.cells [.str [],.str [],.n 0,.n 0,.n 0]]) (.ptr h.length 0) (.agg p.row)=some (h++[.cells p.row]):=by
 have:=nP (h:=h++[Blk.cells [.str [],.str [],.n 0,.n 0,.n 0]]) (l:=h.length) (n:=5) (vs:=[.str [],.str [],.n 0,.n 0,.n 0]) (us:=p.row) (by simp) rfl rfl (by omega) rfl;simpa[-bB]using this
theorem zS8(G:Gam)(b:Bin)(a:Int)(hok:qV b=true)(c:List AV)(w:∀n,bN n c=true):∀(f:List Plc)(i:Nat),b.pl.drop i=f->i<=b.pl.length->cY G [6] Mc.bk_L0 1 [.blk 0,.seq (.seq (.reg [Kb 4 false]) .ret)] (aD Rs.bk (.bool (kB a f))) [(0,.agg c),(1,.n a),(2,.ptr 0 0),(4,.F),(6,.junk),(8,.sl (aK b.pl)),(9,.n b.pl.length),(10,.n i)] [.cells c]
 |[],i,o,D=>by
  have K:=drop_nil o;have e:i=b.pl.length:=by omega
  subst e;refine aJ (Mc.bk_L0.eq_1) ?_;rw[aQ (n:=1) rfl];simp[kB,aD,Rs.bk]|p::f,i,o,D=>by
  obtain⟨L,y,H⟩:=eT o;obtain⟨J,C⟩:=yL hok;obtain⟨⟨k1,k2⟩,k3,k4⟩:=KO (C p (fB y));have q:ltB (i:Int) (b.pl.length:Int)=true:=aO.2 (by omega);have x:=dT (i:=i) (by unfold big;omega);have I:=yM y;have E:p.row.length=5:=rfl;have g:∀h,bA 5 h (.sl (aK b.pl)) (.n (i:Int))=some (.fptr p.row 0):=fun h=>by simp[bA,I,E]
  have r:∀h,aB 5 true h (.fptr p.row 0)=some (.agg p.row):=fun h=>by simp[aB,cut,aE,Plc.row]
  have u:aU 5 [.cells c,.cells [.str [],.str [],.n 0,.n 0,.n 0]] (.ptr 1 0) (.agg p.row)=some [.cells c,.cells p.row]:=SE (h:=[.cells c]);have s:aB 1 false [.cells c,.cells p.row] (.ptr 1 3)=some (.n p.pos):=aR (l:=1) rfl rfl;have z:aB 1 false [.cells c,.cells p.row] (.ptr 1 4)=some (.n p.siz):=aR (l:=1) rfl rfl;have j:=w 1;have A:IntKind.i64.wrap (p.pos+p.siz)=p.pos+p.siz:=i64_in _ ⟨by omega,by omega⟩;have B:IntKind.i64.wrap (p.pos+p.siz-4)=p.pos+p.siz-4:=i64_in _ ⟨by omega,by omega⟩;have k:=zS8 G b a hok c w f (i+1) H (by omega);have F:kB a (p::f)=(decide (p.pos<=a)&&decide (a<=p.pos+p.siz-4)||kB a f):=rfl;refine aJ (Mc.bk_L0.eq_1) ?_;rw[aQ (n:=1) rfl,F];by_cases m:p.pos<=a
  ·have l:ltB a p.pos=false:=bC.2 (by omega);by_cases v:a<=p.pos+p.siz-4
   ·have t:ltB (p.pos+p.siz-4) a=false:=bC.2 (by omega);simp[q,g,r,u,s,z,A,B,l,t,m,v,aD,Rs.bk,-aB,-bB]
   ·have t:ltB (p.pos+p.siz-4) a=true:=aO.2 (by omega);simp only[m,v,decide_true,decide_false,nF,uY];generalize aK b.pl=R at g k⊢;simp[q,g,r,u,s,z,A,B,l,t,x,-aB,-bB];refine cZ ?_;rw[wR (by simp[bW,low,j]) (by simp[cV,gD,j])];simpa using k
  ·have l:ltB a p.pos=true:=aO.2 (by omega);simp only[m,decide_false,eW,uY];generalize aK b.pl=R at g k⊢;simp[q,g,r,u,s,l,x,-aB,-bB];refine cZ ?_;rw[wR (by simp[bW,low,j]) (by simp[cV,gD,j])];simpa using k
theorem qO{G:Gam}(b:Bin)(a:Bool):opV G a [] .box (some [.agg b.cells])=some (.ptr 0 0,[.cells b.cells]):=sI (h:=[]) (v:=.agg b.cells) (by simp[AV.cells,Bin.cells])
theorem xw7{G:Gam}:PW G Mc.bk Rs.bk Ks.bk xA:=by
 intro m r c;unfold xA at c;split at c
 ·rename_i e a;split at c
  ·rename_i b j;split at c
   ·rename_i k;injection c with c;subst c;obtain rfl:e=b.cells:=mE j;have f:=zS8 G b a k b.cells (iS b) b.pl 0 rfl (by omega);have g:∀i:aA,aB 1 false (.cells b.cells::i) (.ptr 0 3)=some (.sl (aK b.pl)):=fun i=>aR (l:=0) rfl rfl;have h:=fun l=>qO (G:=G) b l;rw[aM];generalize b.cells=e at f g h⊢;simp[Mc.bk,Ks.bk,aC,h,g,-aB];simpa using f
   ·cases c
  ·cases c
 ·cases c
def pE(a:Int)(y:Bs)(l:List Plc):Bool:=l.any fun p=>p.pos==a&&(y==[]||p.sym==y)
def uS:List AV->Option AV
 |[.agg c,.n a,.str y]=>match mP c with
  |some b=>if qV b=true then some (.bool (pE a y b.pl))else none|none=>none
 |_=>none
theorem zj6(G:Gam)(b:Bin)(a:Int)(y:Bs)(hok:qV b=true)(c:List AV)(x:∀n,bN n c=true):∀(g:List Plc)(i:Nat),b.pl.drop i=g->i<=b.pl.length->cY G [8] Mc.bd_L0 1 [.blk 0,.seq (.seq (.reg [Kb 6 false]) .ret)] (aD Rs.bd (.bool (pE a y g))) [(0,.agg c),(1,.n a),(2,.str y),(3,.ptr 0 0),(6,.F),(8,.junk),(10,.sl (aK b.pl)),(11,.n b.pl.length),(12,.n i)] [.cells c]
 |[],i,t,A=>by
  have J:=drop_nil t;have e:i=b.pl.length:=by omega
  subst e;refine aJ (Mc.bd_L0.eq_1) ?_;rw[aQ (n:=1) rfl];simp[pE,aD,Rs.bd]|p::g,i,t,A=>by
  obtain⟨K,D,E⟩:=eT t;obtain⟨I,H⟩:=yL hok;have q:ltB (i:Int) (b.pl.length:Int)=true:=aO.2 (by omega);have z:=dT (i:=i) (by unfold big;omega);have F:=yM D;have B:p.row.length=5:=rfl;have f:∀h,bA 5 h (.sl (aK b.pl)) (.n (i:Int))=some (.fptr p.row 0):=fun h=>by simp[bA,F,B]
  have m:∀h,aB 5 true h (.fptr p.row 0)=some (.agg p.row):=fun h=>by simp[aB,cut,aE,Plc.row]
  have r:aU 5 [.cells c,.cells [.str [],.str [],.n 0,.n 0,.n 0]] (.ptr 1 0) (.agg p.row)=some [.cells c,.cells p.row]:=SE (h:=[.cells c]);have o:aB 1 false [.cells c,.cells p.row] (.ptr 1 3)=some (.n p.pos):=aR (l:=1) rfl rfl;have u:aB 1 false [.cells c,.cells p.row] (.ptr 1 1)=some (.str p.sym):=aR (l:=1) rfl rfl;have k:=x 1;have l:=zj6 G b a y hok c x g (i+1) E (by omega);have C:pE a y (p::g)=(p.pos==a&&(y==[]||p.sym==y)||pE a y g):=rfl;refine aJ (Mc.bd_L0.eq_1) ?_;rw[aQ (n:=1) rfl,C];cases v:(p.pos==a)with
  |true=>
   have j:eqB p.pos a=true:=gW.2 (by simpa using v);cases s:(y==[])with
   |true=>simp[q,f,m,r,o,j,s,dV,aD,Rs.bd,-aB,-bB]|false=>cases w:(p.sym==y)with
    |true=>simp[q,f,m,r,o,u,j,s,w,dV,aD,Rs.bd,-aB,-bB]|false=>
     simp only[uZ,nF,uY];generalize aK b.pl=R at f l⊢;simp[q,f,m,r,o,u,j,s,w,dV,z,-aB,-bB];refine cZ ?_;rw[wR (by simp[bW,low,k]) (by simp[cV,gD,k])];simpa using l
  |false=>
   have j:eqB p.pos a=false:=eU.2 (by simpa using v);simp only[eW,uY];generalize aK b.pl=R at f l⊢;simp[q,f,m,r,o,j,z,-aB,-bB];refine cZ ?_;rw[wR (by simp[bW,low,k]) (by simp[cV,gD,k])];simpa using l
theorem yi4{G:Gam}:PW G Mc.bd Rs.bd Ks.bd uS:=by
 intro m r c;unfold uS at c;split at c
 ·rename_i e a y;split at c
  ·rename_i b j;split at c
   ·rename_i k;injection c with c;subst c;obtain rfl:e=b.cells:=mE j;have f:=zj6 G b a y k b.cells (iS b) b.pl 0 rfl (by omega);have g:∀i:aA,aB 1 false (.cells b.cells::i) (.ptr 0 3)=some (.sl (aK b.pl)):=fun i=>aR (l:=0) rfl rfl;have h:=fun l=>qO (G:=G) b l;rw[aM];generalize b.cells=e at f g h⊢;simp[Mc.bd,Ks.bd,aC,h,g,-aB];simpa using f
   ·cases c
  ·cases c
 ·cases c
def atE(a:Int)(p:Plc):Bool:=decide (p.pos<=a)&&decide (0<p.siz)&&decide (a<p.pos+p.siz)
def mJ(a:Int):Bool:=decide (-1000000000000<=a)&&decide (a<=1000000000000)
theorem SB{a:Int}(h:mJ a=true):-1000000000000<=a/\a<=1000000000000:=by simpa[mJ]using h
def GG:List AV->aA->Option AV
 |[.agg b,.ptr l 0],h=>match xX b with
  |some p=>match h[l]? with
   |some (.cellsT _ [.n a])=>if BM p=true/\mJ a=true then some (.bool (atE a p))else none|_=>none
  |none=>none
 |_,_=>none
theorem xu9{a p:Int}(b:-1000000000000<=a/\a<=1000000000000)(c:-1000000000000<=p/\p<=1000000000000)(h:p<=a):IntKind.u64.wrap (IntKind.u64.wrap a-IntKind.u64.wrap p)=a-p:=by
 simp only[IntKind.wrap,IntKind.signed,IntKind.bits];simp;omega
theorem xv0{a:Int}(b:0<=a)(c:a<=1000000000000):IntKind.u64.wrap a=a:=by
 simp only[IntKind.wrap,IntKind.signed,IntKind.bits];simp;omega
theorem TO{G:Gam}(p:Plc)(a:Bool)(h:aA):opV G a h .box (some [.agg p.row])=some (.ptr h.length 0,h++[.cells p.row]):=sI (h:=h) (v:=.agg p.row) (by simp[AV.cells,Plc.row])
theorem KT{h:aA}{p:Plc}{o:Nat}{v:AV}(a:p.row[o]?=some v):aB 1 false (h++[.cells p.row]) (.ptr h.length o)=some v:=aR (l:=h.length) (by simp) a
theorem ye8{G:Gam}:LW G Mc.bt Rs.bt Ks.bt GG:=by
 intro A h r b;unfold GG at b;split at b
 ·rename_i B l;split at b
  ·rename_i p y;split at b
   ·rename_i tg a t;split at b
    ·rename_i s;injection b with b;subst b;obtain rfl:=OY y;obtain⟨k1,k2⟩:=KO s.1;have k3:=SB s.2;have x:l<h.length:=(aV.1 t).1;have w:(h++[Blk.cells p.row])[l]?=some (.cellsT tg [.n a]):=by rw[gC x];exact t
     have f:aB 1 false (h++[.cells p.row]) (.ptr l 0)=some (.n a):=by simp[aB,w,cut,aE]
     have g:=fun z=>TO (G:=G) p z h;have i:aB 1 false (h++[.cells p.row]) (.ptr h.length 3)=some (.n p.pos):=KT rfl;have m:aB 1 false (h++[.cells p.row]) (.ptr h.length 4)=some (.n p.siz):=KT rfl;rw[aM];unfold atE;by_cases c:p.pos<=a
     ·have e:ltB a p.pos=false:=bC.2 (by omega);by_cases k:0<p.siz
      ·have j:ltB 0 p.siz=true:=aO.2 (by omega);have u:=xu9 k3 k1 c;have v:=xv0 (a:=p.siz) (by omega) (by omega);by_cases o:a<p.pos+p.siz
       ·have n:ltB (a-p.pos) p.siz=true:=aO.2 (by omega);simp[Mc.bt,aC,Ks.bt,g,f,i,m,e,j,n,u,v,c,k,o,fP,Rs.bt,owns,eS,-aB]
       ·have n:ltB (a-p.pos) p.siz=false:=bC.2 (by omega);simp[Mc.bt,aC,Ks.bt,g,f,i,m,e,j,n,u,v,c,k,o,fP,Rs.bt,owns,eS,-aB]
      ·have j:ltB 0 p.siz=false:=bC.2 (by omega);simp[Mc.bt,aC,Ks.bt,g,f,i,m,e,j,c,k,fP,Rs.bt,owns,eS,-aB]
     ·have e:ltB a p.pos=true:=aO.2 (by omega);simp[Mc.bt,aC,Ks.bt,g,f,i,e,c,fP,Rs.bt,owns,eS,-aB]
    ·cases b
   ·cases b
  ·cases b
 ·cases b
def DG:List AV->aA->Option AV
 |[.agg b,.ptr l 0],h=>match xX b with
  |some p=>match h[l]? with
   |some (.cellsT _ [.n a])=>some (.bool (p.pos==a))|_=>none
  |none=>none
 |_,_=>none
theorem xx1{G:Gam}:LW G Mc.cz Rs.cz Ks.cz DG:=by
 intro s h r b;unfold DG at b;split at b
 ·rename_i t l;split at b
  ·rename_i p n;split at b
   ·rename_i tg a f;injection b with b;subst b;obtain rfl:=OY n;have m:l<h.length:=(aV.1 f).1;have k:(h++[Blk.cells p.row])[l]?=some (.cellsT tg [.n a]):=by rw[gC m];exact f
    have g:aB 1 false (h++[.cells p.row]) (.ptr l 0)=some (.n a):=by simp[aB,k,cut,aE]
    have i:=fun o=>TO (G:=G) p o h;have j:aB 1 false (h++[.cells p.row]) (.ptr h.length 3)=some (.n p.pos):=KT rfl;rw[aM];cases e:(p.pos==a)with
    |true=>
     have c:eqB p.pos a=true:=gW.2 (by simpa using e);simp[Mc.cz,aC,Ks.cz,i,g,j,c,fP,Rs.cz,owns,eS,-aB]|false=>
     have c:eqB p.pos a=false:=eU.2 (by simpa using e);simp[Mc.cz,aC,Ks.cz,i,g,j,c,fP,Rs.cz,owns,eS,-aB]
   ·cases b
  ·cases b
 ·cases b
def DB:List AV->aA->Option AV
 |[.agg b,.ptr l 0],h=>match xX b with
  |some p=>match h[l]? with
   |some (.cellsT _ [.str y,.n a])=>some (.bool (p.sym==y&&p.pos==a))|_=>none
  |none=>none
 |_,_=>none
theorem yy3{G:Gam}:LW G Mc.b8 Rs.b8 Ks.b8 DB:=by
 intro v h r b;unfold DB at b;split at b
 ·rename_i w l;split at b
  ·rename_i p t;split at b
   ·rename_i tg y a k;injection b with b;subst b;obtain rfl:=OY t;have s:l<h.length:=(aV.1 k).1;have m:(h++[Blk.cells p.row])[l]?=some (.cellsT tg [.str y,.n a]):=by rw[gC s];exact k
    have e:aB 1 false (h++[.cells p.row]) (.ptr l 0)=some (.str y):=by simp[aB,m,cut,aE]
    have n:aB 1 false (h++[.cells p.row]) (.ptr l 1)=some (.n a):=by simp[aB,m,cut,aE]
    have f:=fun u=>TO (G:=G) p u h;have g:aB 1 false (h++[.cells p.row]) (.ptr h.length 1)=some (.str p.sym):=KT rfl;have o:aB 1 false (h++[.cells p.row]) (.ptr h.length 3)=some (.n p.pos):=KT rfl;rw[aM];cases c:(p.sym==y)with
    |false=>simp[Mc.b8,aC,Ks.b8,f,e,g,c,dV,fP,Rs.b8,owns,eS,-aB]|true=>cases j:(p.pos==a)with
     |true=>
      have i:eqB p.pos a=true:=gW.2 (by simpa using j);simp[Mc.b8,aC,Ks.b8,f,e,n,g,o,c,i,dV,fP,Rs.b8,owns,eS,-aB]|false=>
      have i:eqB p.pos a=false:=eU.2 (by simpa using j);simp[Mc.b8,aC,Ks.b8,f,e,n,g,o,c,i,dV,fP,Rs.b8,owns,eS,-aB]
   ·cases b
  ·cases b
 ·cases b
theorem zv5(G:Gam)(h:aA)(e:List (List AV))(f:FuncId)(j:List AV)(w:e.length<=big):∀(l:List (List AV))(i:Nat)(v:Int),e.drop i=l->nJ (fun u=>if u.length=5 then(aE true 5 u).bind (ask G h f j)else none) i l=some v->cY G [5] Mc.bm_L0 h.length [.blk 0,.seq (.seq (.reg [Kc 4 (-1)]) .ret)] (fP Rs.bm (.n v) h) [(0,.sl e),(1,.fn f j),(4,.n 0),(5,.junk),(7,.n e.length),(8,.n i)] h
 |[],i,v,n,c=>by
  have y:=drop_nil n;have k:¬(i:Int)<e.length:=by omega
  simp only[nJ,aT]at c;subst c;refine aJ (Mc.bm_L0.eq_1) ?_;simp[ltB,k,fP,Rs.bm,owns,eS]|x::l,i,v,n,c=>by
  obtain⟨y,t,A⟩:=eT n;have k:(i:Int)<e.length:=by omega
  have z:=dT (i:=i) (by omega);by_cases g:x.length=5
  ·simp only[nJ,g,bD]at c;cases o:aE true 5 x with
   |none=>simp[o]at c|some a=>
    simp only[o,tQ]at c;have s:aE true 5 (cut x 0 5)=some a:=by rw[AP g];exact o
    cases m:ask G h f j a with
    |none=>simp[m]at c|some b=>
     have r:=TI m;simp only[m]at c;refine aJ (Mc.bm_L0.eq_1) ?_;cases b with
     |true=>
      simp only[aT]at c;subst c;simp[ltB,k,sC t g,s,r,fP,Rs.bm,owns,eS]|false=>
      simp[ltB,k,sC t g,s,r,z];refine cZ ?_;have B:=zv5 G h e f j w l (i+1) v A c;simpa using B
  ·simp[nJ,g]at c
theorem yR6(G:Gam):LW G Mc.bm Rs.bm Ks.bm (oR true 5 G):=by
 intro j h r c;obtain⟨a,f,b,v,rfl,e,g,rfl⟩:=zd0 c;rw[aM];have i:=zv5 G h a f b e a 0 v rfl g;simpa[Mc.bm,aC,Ks.bm]using i
theorem ys3(G b:Gam)(i:G Fn.bm=some (.gen (cJ (oR true 5 b)))):LW G Mc.cl Rs.cl Ks.cl (oQ true 5 b):=by
 intro n h r g;obtain⟨m,f,c,v,rfl,j,l,rfl⟩:=zc9 g;rw[aM];have k:∀a:aA,a=h->opV G false a (.call Fn.bm) (some [.sl m,.fn f c])=some (.n v,a):=fun a e=>by subst e;rw[eX i];simp[cJ,oR,j,l]
 simp[Mc.cl,aC,Ks.cl,k,fP,Rs.cl,owns,eS]
theorem WJ(x:Plc):aE true 5 x.row=some (.agg x.row)/\x.row.length=5:=⟨by simp[aE,Plc.row],rfl⟩
theorem zE8{G:Gam}{b:Bool}{h:aA}{x:Int}:opV G b h .max (some [.n x,.n 0])=some (.n (if 0<=x then x else 0),h):=by
 rw[eV rfl];simp only[dH,QQ];by_cases a:0<=x;·rw[if_pos a];simp;omega
 ·rw[if_neg a];simp;omega
def atI(a:Int)(l:List Plc):Int:=jM (atE a) 0 l
def GC:List AV->Option AV
 |[.agg c,.n a]=>match mP c with
  |some b=>if qV b=true/\mJ a=true then some (.tup [.n (if 0<=atI a b.pl then atI a b.pl else 0),.bool (decide (0<=atI a b.pl))])else none|none=>none
 |_=>none
theorem zU7{G G0:Gam}(s:G Fn.bm=some (.gen (cJ (oR true 5 G0))))(o:G0 Fn.bt=some (.gen (cJ GG))):PW G Mc.c4 Rs.c4 Ks.c4 GC:=by
 intro y r c;unfold GC at c;split at c
 ·rename_i k a;split at c
  ·rename_i b t;split at c
   ·rename_i l;injection c with c;subst c;obtain rfl:k=b.cells:=mE t;obtain⟨z,n⟩:=yL l.1;have e:opV G false [.cells b.cells,.cells [.n a]] (.call Fn.bm) (some [.sl (aK b.pl),.fn Fn.bt [.ptr 1 0]])=some (.n (atI a b.pl),[.cells b.cells,.cells [.n a]]):=yS5 (G0:=G0) (xs:=b.pl) (e:=Plc.row) (val:=fun f=>.agg f.row) (agg:=true) (n:=5) s (by unfold big;omega) WJ fun g u=>by
     refine DS ?_;have v:=n g u;simp only[eD,o,cJ,GG,OZ,tM,mM];rw[if_pos ⟨v,l.2⟩];rfl
    have i:∀m:aA,aB 1 false (.cells b.cells::m) (.ptr 0 3)=some (.sl (aK b.pl)):=fun m=>aR (l:=0) rfl rfl;have j:=fun w=>qO (G:=G) b w;rw[aM];generalize atI a b.pl=x at e⊢;generalize b.cells=k at e i j⊢;generalize aK b.pl=R at e i;by_cases h:0<=x
    ·have q:ltB x 0=false:=bC.2 (by omega);rw[if_pos h];simp[Mc.c4,Ks.c4,aC,j,i,e,q,h,zE8,aD,Rs.c4,-aB]
    ·have q:ltB x 0=true:=aO.2 (by omega);rw[if_neg h];simp[Mc.c4,Ks.c4,aC,j,i,e,q,h,zE8,aD,Rs.c4,-aB]
   ·cases c
  ·cases c
 ·cases c
def tA:List AV->Option AV
 |[.str s]=>if s.length<=1000000 then some (.bool (eY s))else none|_=>none
theorem yk0{G:Gam}(f:G Fn.d0=some (.pure uQ)):PW G Mc.bl Rs.bl Ks.bl tA:=by
 intro g r a;unfold tA at a;split at a
 ·rename_i s;split at a
  ·rename_i i;injection a with a;subst a;have b:∀e h,opV G e h (.call Fn.d0) (some [.str s])=some (.n (if eY s then 0 else 2),h):=fun e h=>bF f (us:=[.str s]) rfl (nB (A:=eStr) (R:=eInt) (f:=fun s=>if s.length<4294967281 then some (if eY s then 0 else 2)else none) (x:=s) (r:=if eY s then 0 else 2) (if_pos (by omega))) (.inl rfl);rw[aM];cases c:eY s with
   |true=>
    rw[c]at b;have q:eqB 0 0=true:=rfl;simp[Mc.bl,Ks.bl,aC,b,aD,Rs.bl]|false=>
    rw[c]at b;have q:eqB 2 0=false:=rfl;simp[Mc.bl,Ks.bl,aC,b,q,aD,Rs.bl]
  ·cases a
 ·cases a
def oF(s:Bs):Bool:=eY (Lib.cut s [33]).1&&(!(Lib.cut s [33]).2.2||eY (Lib.cut s [33]).2.1)
def zQ:List AV->Option AV
 |[.str s]=>if s.length<=1000000/\(Lib.cut s [33]).1.length<=1000000/\(Lib.cut s [33]).2.1.length<=1000000 then some (.bool (oF s))else none|_=>none
theorem yZ4{G:Gam}(l:G Fn.ef=some (.pure wX))(g:G Fn.bl=some (.pure tA)):PW G Mc.b4 Rs.b4 Ks.b4 zQ:=by
 intro n r a;unfold zQ at a;split at a
 ·rename_i s;split at a
  ·rename_i m;obtain⟨o,j,k⟩:=m;injection a with a;subst a;have c:∀b h,opV G b h (.call Fn.ef) (some [.str s,.str [33]])=some (.tup [.str (Lib.cut s [33]).1,.str (Lib.cut s [33]).2.1,.bool (Lib.cut s [33]).2.2],h):=fun b h=>bF l (us:=[.str s,.str [33]]) rfl (by simp only[wX];rw[if_pos (by omega)]) (.inl rfl);have e:∀b h,opV G b h (.call Fn.bl) (some [.str (Lib.cut s [33]).1])=some (.bool (eY (Lib.cut s [33]).1),h):=fun b h=>bF g (us:=[.str (Lib.cut s [33]).1]) rfl (by simp only[tA];rw[if_pos j]) (.inl rfl);have i:∀b h,opV G b h (.call Fn.bl) (some [.str (Lib.cut s [33]).2.1])=some (.bool (eY (Lib.cut s [33]).2.1),h):=fun b h=>bF g (us:=[.str (Lib.cut s [33]).2.1]) rfl (by simp only[tA];rw[if_pos k]) (.inl rfl);rw[aM];unfold oF;generalize(Lib.cut s [33]).1=x at c e⊢;generalize(Lib.cut s [33]).2.1=y at c i⊢;generalize(Lib.cut s [33]).2.2=w at c⊢;cases f:eY x with
   |false=>
    rw[f]at e;simp[Mc.b4,Ks.b4,aC,c,e,aD,Rs.b4]|true=>
    rw[f]at e;cases w with
    |false=>simp[Mc.b4,Ks.b4,aC,c,e,aD,Rs.b4]|true=>simp[Mc.b4,Ks.b4,aC,c,e,i,aD,Rs.b4]
  ·cases a
 ·cases a
def WM(s:Bs):Bool:=!ltB 2 (dG 33 s).length&&(eY ((dG 33 s).headD [])&&eY ((dG 33 s).getLastD []))
theorem xd8{s:Bs}(h:(33:UInt8)∈s):jY s=false:=by cases s with
 |nil=>rfl|cons c r=>
  have:((c::r).all fun b=>pch b.toNat)=false:=by
   rw[List.all_eq_false];exact⟨33,h,by decide⟩
  simp only[jY,this,nF]
theorem YX(c:UInt8){d:UInt8}(i:d≠c):∀{s:Bs},d∈s->∃w∈dG c s,d∈w
 |[],h=>by cases h|b::r,h=>by
  by_cases k:b=c
  ·subst k;rcases fE.1 h with e|g;·exact absurd e i
   ·obtain⟨w,a,f⟩:=YX b i g;exact⟨w,by simp[dG,a],f⟩
  ·cases j:dG c r with
   |nil=>exact absurd j (CD c r)|cons p m=>
    have e:dG c (b::r)=(b::p)::m:=by simp[dG,k,j]
    rw[e];rcases fE.1 h with l|g;·exact⟨b::p,qK,by rw[l];exact qK⟩
    ·obtain⟨w,a,f⟩:=YX c i g;rw[j]at a;rcases fE.1 a with rfl|a;·exact⟨b::w,qK,rO _ f⟩
     ·exact⟨w,rO _ a,f⟩
theorem xe0{s:Bs}(h:(33:UInt8)∈s):eY s=false:=by
 obtain⟨w,b,a⟩:=YX 47 (d:=33) (by decide) h;have:(dG 47 s).all jY=false:=by
  rw[List.all_eq_false];exact⟨w,b,by rw[xd8 a];simp⟩
 simp only[eY,this,nF]
theorem yZ3(s:Bs):oF s=WM s:=by
 unfold oF WM;by_cases h:(33:UInt8)∈s
 ·obtain⟨a,b,e,j,l⟩:=(index_one 33 s).1 h;rw[l];rw[e,YY 33 a b j];simp only[nG,uY];by_cases f:(33:UInt8)∈b
  ·rw[xe0 f];obtain⟨g,c,i,k,_⟩:=(index_one 33 b).1 f;have m:ltB 2 ((a::dG 33 b).length:Nat)=true:=by
    rw[i,YY 33 g c k];have:0<(dG 33 c).length:=by cases n:dG 33 c with
     |nil=>exact absurd n (CD 33 c)|cons _ _=>simp
    exact aO.2 (by simp;omega)
   rw[m];simp
  ·rw[YZ 33 b f];rfl
 ·rw[(index_one 33 s).2 h,YZ 33 s h];have q:ltB 2 1=false:=rfl;simp[q]
def kL(n:Nat):Nat:=4*((n+3)/4)
theorem ZQ(n:Nat):n<=kL n/\kL n<=n+3:=by unfold kL;omega
def yO(p:Plc):Bool:=oF p.obj&&gN p.sym&&((eqB p.kd 1&&!ltB p.siz 2)||(eqB p.kd 2&&!ltB p.siz 0&&eqB (p.siz.tmod 4) 0))&&!ltB 8192 p.siz
def LP(c:Bs)(a b:Nat):Bool:=((c.take b).drop a).all (·==0)
def oJ(a:Bs):List Plc->Nat->List Plc->Bool
 |_,e,[]=>e==a.length|b,e,p::r=>!b.any (fun q=>q.obj==p.obj&&q.sym==p.sym)&&yO p&&eqB p.pos (kL e)&&!ltB a.length (kL e+p.siz)&&LP a e (kL e)&&oJ a (b++[p]) (kL e+p.siz.toNat) r
def iJ(b:Bin):Bool:=!ltB b.pl.length 1&&!ltB 128 b.pl.length&&!ltB 65536 b.img.length&&oJ b.img [] 0 b.pl
theorem yP{p:Plc}(h:yO p=true):0<=p.siz/\p.siz<=8192/\(p.kd=1\/p.kd=2)/\gN p.sym=true/\oF p.obj=true:=by
 unfold yO at h;simp only[bS,Bool.or_eq_true,lK,bC,gW]at h;obtain⟨⟨⟨b,c⟩,a⟩,h4⟩:=h;refine⟨?_,h4,?_,c,b⟩;·rcases a with a|a<;>omega
 ·rcases a with a|a;·exact .inl a.1
  ·exact .inr a.1.1
theorem qZ{f:Bs}:∀{l g:List Plc}{e:Nat},oJ f g e l=true->∀p∈l,yO p=true/\(e:Int)<=p.pos/\p.pos+p.siz<=f.length
 |[],_,_,_,p,a=>by cases a|q::r,g,e,h,p,a=>by
  rw[oJ]at h;simp only[bS,lK,bC,gW]at h;obtain⟨⟨⟨⟨⟨j,b⟩,k⟩,h4⟩,h5⟩,i⟩:=h;have m:=yP b;have n:=ZQ e;rcases fE.1 a with rfl|a;·exact⟨b,by omega,by omega⟩
  ·have c:=qZ i p a;exact⟨c.1,by omega,c.2.2⟩
def Apart:List Plc->Prop
 |[]=>True|p::r=>(∀q∈r,p.pos+p.siz<=q.pos)/\Apart r
theorem XN{g:Bs}:∀{l b:List Plc}{e:Nat},oJ g b e l=true->Apart l
 |[],_,_,_=>trivial|q::r,b,e,h=>by
  rw[oJ]at h;simp only[bS,lK,bC,gW]at h;obtain⟨⟨⟨⟨⟨i,c⟩,j⟩,h4⟩,h5⟩,a⟩:=h;have k:=yP c;refine⟨fun p f=>?_,XN a⟩;have:=(qZ a p f).2.1;omega
theorem nM{b:Bin}(h:iJ b=true):(1<=b.pl.length/\b.pl.length<=128)/\b.img.length<=65536/\oJ b.img [] 0 b.pl=true:=by
 unfold iJ at h;simp only[bS,lK,bC]at h;obtain⟨⟨⟨a,c⟩,e⟩,h4⟩:=h;exact⟨⟨by omega,by omega⟩,by omega,h4⟩
def oI(a:Int):List Plc->Option Plc
 |[]=>none|p::r=>if atE a p=true then some p else oI a r
theorem IH{a:Int}{p:Plc}:atE a p=true↔p.pos<=a/\0<p.siz/\a<p.pos+p.siz:=by unfold atE;simp[and_assoc]
theorem zG2{a:Int}:∀(l:List Plc)(i:Nat),(oI a l=none/\jM (atE a) i l=-1)\/∃(k:Nat)(p:Plc),oI a l=some p/\l[k]?=some p/\jM (atE a) i l=((i+k:Nat):Int)
 |[],i=>.inl ⟨rfl,rfl⟩|p::r,i=>by
  rw[oI,jM];cases h:atE a p with
  |true=>exact .inr ⟨0,p,by simp,rfl,by simp⟩|false=>
   rcases zG2 r (i+1)with⟨b,c⟩|⟨k,q,b,c,e⟩;·exact .inl ⟨by simpa using b,by simpa using c⟩
   ·refine .inr ⟨k+1,q,by simpa using b,by simpa using c,?_⟩;simp only[dE,bY];rw[e];congr 1;omega
def kS(S:List Int)(a:Int):Bool:=S.all fun b=>!(ltB (b-4) a&&ltB a (b+4))
def inE(b:List Plc)(a:Int):Bool:=(oI a b).any fun p=>!ltB (p.pos+p.siz) (a+4)
def kW(b:List Plc)(S:List Int)(a:Int):Bool:=inE b a&&kS S a
theorem QA{a:Int}:∀{l:List Plc},Apart l->(∀p∈l,0<=p.siz)->inE l a=kB a l
 |[],_,_=>rfl|p::r,h,i=>by
  have j:=QA (a:=a) h.2 (fun q b=>i q (rO _ b));have e:kB a (p::r)=(decide (p.pos<=a)&&decide (a<=p.pos+p.siz-4)||kB a r):=rfl;rw[e];unfold inE at j⊢;rw[oI];have u:=i p qK;by_cases c:atE a p=true
  ·rw[if_pos c];obtain⟨k,n,o⟩:=IH.1 c;have m:kB a r=false:=by
    unfold kB;rw[List.any_eq_false];intro q b;have t:=h.1 q b;simp;omega
   rw[m];simp only[AG,uZ,k,decide_true,eF];by_cases f:a<=p.pos+p.siz-4
   ·have:ltB (p.pos+p.siz) (a+4)=false:=bC.2 (by omega);simp[this,f]
   ·have:ltB (p.pos+p.siz) (a+4)=true:=aO.2 (by omega);simp[this,f]
  ·rw[if_neg c,j];have:(decide (p.pos<=a)&&decide (a<=p.pos+p.siz-4))=false:=by
    rw[Bool.and_eq_false_iff];by_cases g:p.pos<=a
    ·right;simp only[AI];intro s;exact c (IH.2 ⟨g,by omega,by omega⟩)
    ·left;simpa using g
   rw[this,uY]
def fxP(b:Bin):List Int->List Int->Bool
 |_,[]=>true|S,a::r=>!(S.getLast?.any fun l=>!ltB l a)&&kW b.pl S a&&b.pl.any (fun p=>p.pos==(kN b.img a.toNat:Int))&&fxP b (S++[a]) r
def imP(b:Bin):List Int->List Imp->Bool
 |_,[]=>true|S,x::r=>!(S.getLast?.any fun l=>!ltB l x.pos)&&kW b.pl (b.fx++S) x.pos&&eqB (kN b.img x.pos.toNat:Int) 0&&eY x.lib&&gN x.sym&&imP b (S++[x.pos]) r
def oO(b:Bin):Bool:=fxP b [] b.fx&&imP b [] b.im
def fxR(b:Bin):Int->List Int->Bool
 |_,[]=>true|l,a::r=>!ltB a (l+4)&&kB a b.pl&&pE (kN b.img a.toNat:Int) [] b.pl&&fxR b a r
def imR(b:Bin):Int->List Imp->Bool
 |_,[]=>true|l,x::r=>!ltB x.pos (l+4)&&kB x.pos b.pl&&eqB (kN b.img x.pos.toNat:Int) 0&&eY x.lib&&gN x.sym&&kS b.fx x.pos&&imR b x.pos r
def zC(b:Bin):Bool:=fxR b (-4) b.fx&&imR b (-4) b.im
theorem yi3(n:Int)(l:List Plc):pE n [] l=l.any fun p=>p.pos==n:=by unfold pE;congr 1;funext p;simp
theorem zS9{a:Int}{l:List Plc}(e:∀p∈l,0<=p.pos)(h:kB a l=true):0<=a:=by
 unfold kB at h;obtain⟨p,c,b⟩:=tK.1 h;have:=e p c;simp at b;omega
theorem UQ{S:List Int}{a:Int}:kS S a=true↔∀b∈S,a<=b-4\/b+4<=a:=by
 unfold kS;rw[gV];refine forall_congr' fun b=>forall_congr' fun _=>?_;simp only[lK,Bool.and_eq_false_iff,bC]
theorem yy8(S T:List Int)(a:Int):kS (S++T) a=(kS S a&&kS T a):=by simp[kS,List.all_append]
def HR(S:List Int)(l:Int):Prop:=(S=[]/\l=-4)\/(S.getLast?=some l/\∀b∈S,b<=l)
theorem zh0{S:List Int}{l a:Int}(h:HR S l)(k:0<=a):(!(S.getLast?.any fun l=>!ltB l a)&&kS S a)=!ltB a (l+4):=by
 rcases h with⟨rfl,rfl⟩|⟨e,f⟩
 ·have:ltB a (-4+4)=false:=bC.2 (by omega);rw[this];rfl
 ·rw[e];simp only[AG,Bool.not_not];have j:l∈S:=List.mem_of_getLast? e;rcases dD (ltB a (l+4))with c|c
  ·rw[c];rw[aO]at c;rcases dD (ltB l a)with d|d
   ·rw[aO]at d;have:kS S a=false:=by
     rw[Bool.eq_false_iff];intro i;have:=UQ.1 i l j;omega
    rw[this];simp
   ·rw[d];rfl
  ·rw[c];rw[bC]at c;have d:ltB l a=true:=aO.2 (by omega);have:kS S a=true:=UQ.2 fun b g=>by have:=f b g;omega
   rw[d,this];rfl
theorem zh1{S:List Int}{l a:Int}(h:HR S l)(f:l+4<=a):HR (S++[a]) a:=by
 refine .inr ⟨by simp,fun b c=>?_⟩;rcases kD.1 c with c|c
 ·rcases h with⟨rfl,_⟩|⟨_,e⟩;·cases c
  ·have:=e b c;omega
 ·have:b=a:=by simpa using c
  omega
theorem zt6(b:Bin)(g:Apart b.pl)(e:∀p∈b.pl,0<=p.pos/\0<=p.siz):∀(r S:List Int)(l:Int),HR S l->fxP b S r=fxR b l r
 |[],_,_,_=>rfl|a::r,S,l,h=>by
  rw[fxP,fxR,kW,QA g (fun p f=>(e p f).2),yi3];rcases dD (kB a b.pl)with w|w
  ·have i:=zS9 (fun p f=>(e p f).1) w;have j:=zh0 h i;rw[w,eF,j,uX];rcases dD (ltB a (l+4))with c|c;·rw[c];rfl
   ·rw[c,zt6 b g e r (S++[a]) a (zh1 h (by rw[bC]at c;omega))]
  ·rw[w];simp
theorem zw3(b:Bin)(i:Apart b.pl)(e:∀p∈b.pl,0<=p.pos/\0<=p.siz):∀(r:List Imp)(S:List Int)(l:Int),HR S l->imP b S r=imR b l r
 |[],_,_,_=>rfl|x::r,S,l,h=>by
  rw[imP,imR,kW,QA i (fun p g=>(e p g).2),yy8];rcases dD (kB x.pos b.pl)with w|w
  ·have j:=zS9 (fun p g=>(e p g).1) w;have a:=zh0 h j;rcases dD (ltB x.pos (l+4))with c|c
   ·rw[c]at a⊢;rcases dD (kS S x.pos)with f|f
    ·rw[f,uX]at a;rw[a];rfl
    ·rw[f];simp
   ·rw[c]at a⊢;simp only[iF,bS]at a;rw[a.1,a.2,w,zw3 b i e r (S++[x.pos]) x.pos (zh1 h (by rw[bC]at c;omega))];cases kS b.fx x.pos<;>simp
  ·rw[w];simp
theorem ZW{b:Bin}(h:iJ b=true):oO b=zC b:=by
 obtain⟨_,_,c⟩:=nM h;have e:=XN c;have a:∀p∈b.pl,0<=p.pos/\0<=p.siz:=fun p a=>by
  have:=qZ c p a;have:=yP this.1;omega
 unfold oO zC;rw[zt6 b e a _ [] (-4) (.inl ⟨rfl,rfl⟩),zw3 b e a _ [] (-4) (.inl ⟨rfl,rfl⟩)]
def exP(a:List Plc):Option Bs->List Expo->Bool
 |_,[]=>true|l,x::r=>!(l.any fun y=>!Op.bytesLess y x.sym)&&a.any (fun p=>p.sym==x.sym&&p.pos==x.pos)&&exP a (some x.sym) r
def exR(a:List Plc):Bs->List Expo->Bool
 |_,[]=>true|l,x::r=>gN x.sym&&Op.bytesLess l x.sym&&pE x.pos x.sym a&&exR a x.sym r
theorem zr4(a:List Plc)(j:∀p∈a,gN p.sym=true):∀(r:List Expo)(l:Option Bs),exP a l r=exR a (l.getD []) r
 |[],_=>rfl|x::r,l=>by
  rw[exP,exR,zr4 a j r (some x.sym)];have e:pE x.pos x.sym a=a.any (fun p=>p.pos==x.pos&&(x.sym==[]||p.sym==x.sym)):=rfl;rw[e];rcases dD (a.any (fun p=>p.sym==x.sym&&p.pos==x.pos))with c|c
  ·obtain⟨p,h,g⟩:=tK.1 c;simp only[bS,beq_iff_eq]at g;have b:gN x.sym=true:=by rw[<-g.1];exact j p h
   have i:a.any (fun p=>p.pos==x.pos&&(x.sym==[]||p.sym==x.sym))=true:=tK.2 ⟨p,h,by simp[g.1,g.2]⟩;rw[c,i,b];cases l with
   |none=>
    have:Op.bytesLess [] x.sym=true:=by
     have:=(zC7 b).1;cases f:x.sym with
     |nil=>rw[f]at this;simp at this|cons _ _=>rfl
    simp[this]|some y=>simp
  ·rw[c];rcases dD (gN x.sym)with b|b
   ·have i:a.any (fun p=>p.pos==x.pos&&(x.sym==[]||p.sym==x.sym))=false:=by
     rw[List.any_eq_false]at c⊢;intro p h;have k:=c p h;have f:(x.sym==[])=false:=by
      have:=(zC7 b).1;cases f:x.sym with
      |nil=>rw[f]at this;simp at this|cons _ _=>rfl
     rw[f,uY,Bool.and_comm];exact k
    rw[i];simp
   ·rw[b];simp
def kT:List Bs->List (Bs×Bs)->Bool
 |_,[]=>true|seen,n::r=>!seen.contains n.1&&gN n.1&&!ltB 65536 n.2.length&&kT (seen++[n.1]) r
def tU(b:Bin):Bool:=iJ b&&oO b&&kT [] b.nt&&!ltB 64 b.nt.length&&((eqB b.kind 1&&eqB b.entry 0&&(b.pl.head?.any fun p=>eqB p.kd 1)&&b.ex.isEmpty)||(eqB b.kind 2&&eqB b.entry (-1)&&b.im.isEmpty&&exP b.pl none b.ex))
def gS(b:Bin):Int:=if tU b then 0 else 1
def ON(b:Bin):Bool:=iJ b&&zC b&&!ltB 64 b.nt.length&&((eqB b.kind 1&&eqB b.entry 0&&(b.pl.head?.any fun p=>eqB p.kd 1)&&b.ex.isEmpty)||(eqB b.kind 2&&eqB b.entry (-1)&&b.im.isEmpty))&&exR b.pl [] b.ex&&kT [] b.nt
theorem yn7(b:Bin):tU b=ON b:=by
 unfold tU ON;rcases dD (iJ b)with a|a
 ·obtain⟨_,_,c⟩:=nM a;rw[ZW a,zr4 b.pl (fun p e=>(yP (qZ c p e).1).2.2.2.1) b.ex none];simp only[Option.getD_none];rw[a];cases f:b.ex with
  |nil=>
   simp only[exR,List.isEmpty_nil,uX];cases zC b<;>cases kT [] b.nt<;>cases ltB 64 (b.nt.length:Int)<;>simp|cons x r=>
   simp only[List.isEmpty_cons,nF,uY];cases zC b<;>cases kT [] b.nt<;>cases ltB 64 (b.nt.length:Int)<;>cases exR b.pl [] (x::r)<;>simp
 ·rw[a];simp
def eJ(a:List Bool):List (List AV):=a.map fun b=>[.bool b]
def tX:List (List AV)->Option (List Bool)
 |[]=>some []|[.bool b]::r=>(tX r).map (b::·)|_=>none
theorem PC:∀c:List Bool,tX (eJ c)=some c
 |[]=>rfl|b::r=>by
  have a:=PC r;simp only[eJ]at a;simp[eJ,tX,a]
theorem PB:∀{f:List (List AV)}{a:List Bool},tX f=some a->f=eJ a
 |[],a,h=>by simp[tX]at h;subst h;rfl|r::g,a,h=>by
  unfold tX at h;split at h;·rename_i e;cases e
  ·rename_i b i e;cases e;cases c:tX g with
   |none=>simp[c]at h|some j=>
    simp only[c,fC,aT]at h;subst h;rw[PB c];rfl
  ·cases h
@[simp]theorem ZP{a:List Bool}:(eJ a).length=a.length:=by simp[eJ]
theorem xv1{us:List Bool}{i:Nat}(h:i<us.length):∃b,(eJ us)[i]?=some [.bool b]:=⟨us[i],by simp[eJ,h]⟩
theorem xv2(a:List Bool)(i:Nat)(b:Bool):(eJ a).set i [.bool b]=eJ (a.set i b):=by simp[eJ,List.map_set]
theorem xv3(b:List Bool)(a n:Nat):((eJ b).drop a).take n=eJ ((b.drop a).take n):=by simp[eJ,List.map_take,List.map_drop]
def iW(b:List Bool)(a:Nat):Nat->List Bool
 |0=>b|k+1=>(iW b a k).set (a+k) true
theorem RW(b:List Bool)(a:Nat):∀k,(iW b a k).length=b.length
 |0=>rfl|k+1=>by rw[iW,rL,RW b a k]
theorem zN9(b:List Bool)(a:Nat):∀k i,(iW b a k)[i]?=if a<=i/\i<a+k/\i<b.length then some true else b[i]?
 |0,i=>by rw[iW,if_neg (by omega)]|k+1,i=>by
  rw[iW,iY,RW,zN9 b a k i];by_cases e:a+k=i
  ·subst e;rw[if_pos rfl];by_cases h:a+k<b.length;·rw[if_pos h,if_pos ⟨by omega,by omega,h⟩]
   ·rw[if_neg h,if_neg (by omega),lX (by omega)]
  ·rw[if_neg e];by_cases h:a<=i/\i<a+k/\i<b.length;·rw[if_pos h,if_pos ⟨h.1,by omega,h.2.2⟩]
   ·rw[if_neg h,if_neg (by omega)]
def bmB(S:List Int)(i:Nat):Bool:=S.any fun b=>decide (b<=i)&&decide ((i:Int)<b+4)
def bmU(n:Nat)(S:List Int):List Bool:=(List.range n).map (bmB S)
@[simp]theorem yj6{n:Nat}{S:List Int}:(bmU n S).length=n:=by simp[bmU]
theorem IK{n:Nat}{S:List Int}(i:Nat):(bmU n S)[i]?=if i<n then some (bmB S i)else none:=by
 unfold bmU;rw[tN];by_cases h:i<n;·rw[List.getElem?_range h,if_pos h];rfl
 ·rw[if_neg h,lX (by simpa using h)];rfl
theorem yj7(n:Nat):bmU n []=List.replicate n false:=by
 apply rK;intro i;rw[IK,List.getElem?_replicate];rfl
theorem yj8{n:Nat}{S:List Int}{a:Nat}:iW (bmU n S) a 4=bmU n (S++[(a:Int)]):=by
 apply rK;intro i;rw[zN9,IK,IK,yj6];have e:bmB (S++[(a:Int)]) i=(bmB S i||(decide ((a:Int)<=i)&&decide ((i:Int)<a+4))):=by simp[bmB,List.any_append]
 rw[e];by_cases h:i<n
 ·rw[if_pos h,if_pos h];by_cases b:a<=i/\i<a+4
  ·rw[if_pos ⟨b.1,b.2,h⟩];have:(decide ((a:Int)<=i)&&decide ((i:Int)<a+4))=true:=by simp;omega
   rw[this];simp
  ·rw[if_neg (by omega)];have:(decide ((a:Int)<=i)&&decide ((i:Int)<a+4))=false:=by rw[Bool.eq_false_iff];intro c;simp at c;omega
   rw[this];simp
 ·rw[if_neg h,if_neg h,if_neg (by omega)]
theorem yj9{n:Nat}{S:List Int}{a:Nat}(h:a+4<=n):(((bmU n S).drop a).take 4).contains true=!kS S a:=by
 rw[Bool.eq_iff_iff];simp only[List.contains_iff_mem,lK,Bool.eq_false_iff,ne_eq,UQ];constructor
 ·intro l f;obtain⟨k,c⟩:=tO.1 l;rw[fZ]at c;split at c
  ·rename_i s;rw[nW,IK,if_pos (by omega)]at c;simp only[aT]at c;unfold bmB at c;obtain⟨b,e,i⟩:=tK.1 c;simp only[bS,fU]at i;have:=f b e;omega
  ·cases c
 ·intro f;have:∃b∈S,¬((a:Int)<=b-4\/b+4<=(a:Int)):=xL fun m=>f fun b e=>xL fun g=>m ⟨b,e,g⟩;obtain⟨b,e,i⟩:=this;have j:∀k,k<4->b<=((a+k:Nat):Int)->((a+k:Nat):Int)<b+4->true∈((bmU n S).drop a).take 4:=fun k c o g=>by
   refine tO.2 ⟨k,?_⟩;rw[fZ,if_pos c,nW,IK,if_pos (by omega)];have:bmB S (a+k)=true:=by
    unfold bmB;exact tK.2 ⟨b,e,by simp;omega⟩
   rw[this]
  by_cases r:(a:Int)<=b
  ·obtain⟨k,c⟩:∃k:Nat,(k:Int)=b-a:=⟨(b-a).toNat,by omega⟩;exact j k (by omega) (by omega) (by omega)
  ·exact j 0 (by omega) (by omega) (by omega)
def Ks.bi:List Nat:=[0,1,4,6,7,8,9]
def Rs.bi:List RV:=[.tmp 4]
def Mc.bi_L0:MC:=.s [zb 10 .lss 9 8] (.seq (.ite (.t 10) .skip (.exit 0)) (.b 1 (.s [zi 11 1 7 9,zl 12 11,zM 6 12] (.s [zm 13 6,zm 14 1,zb 15 .eql 13 14] (.ite (.t 15) (.r [Kb 4 true]) .skip))) (.reg [zc 16 .add 9 1,zM 9 16])))
def Mc.bi:MC:=.s [Kb 4 false] (.seq (.s [zM 7 0,Kn 8 1 7,Kc 9 0] (.blk 0 (.loop [6] Mc.bi_L0))) (.r [Kb 4 false]))
structure Pkg where
 name:Bs
 ver:Bs
 rcp:Bs
 tree:List Touch
def pt(x:PD):Touch:=⟨x.1,x.2⟩
theorem zG9{n p:Bs}:(n++[47]).isPrefixOf p=true↔∃r,p=n++47::r:=by
 rw[List.isPrefixOf_iff_prefix];constructor;·rintro⟨r,rfl⟩;exact⟨r,by simp⟩
 ·rintro⟨r,rfl⟩;exact⟨r,by simp⟩
def before(a b:Touch):Prop:=a.path<b.path/\AL b.path a.path=false
theorem zR1:∀(t e:List Touch),e.Pairwise before->(LL e t=0↔(∀f∈t,eY f.path=true/\f.dig.length<=65536)/\(e++t).Pairwise before)
 |[],e,m=>by simp[LL,m]|f::r,e,m=>by
  rw[LL];by_cases l:eY f.path=false
  ·rw[if_pos l];constructor;·intro h;cases h
   ·rintro⟨h,_⟩;have:=(h f (by simp)).1;rw[l]at this;cases this
  ·rw[if_neg l];by_cases n:65536<f.dig.length
   ·rw[if_pos n];constructor;·intro h;cases h
    ·rintro⟨h,_⟩;have:=(h f (by simp)).2;omega
   ·rw[if_neg n];by_cases i:(e.getLast?.map fun g=>Op.bytesLess g.path f.path)=some false
    ·rw[if_pos i];constructor;·intro h;cases h
     ·rintro⟨_,h⟩;obtain⟨g,c,j⟩:=dJ.1 i;have k:=(List.pairwise_append.1 h).2.2 g (List.mem_of_getLast? c) f (by simp);rw[bytesLess_eq]at j;have:=of_decide_eq_false j;exact absurd k.1 this
    ·rw[if_neg i];have u:∀g∈e,g.path<f.path:=by
      intro g c;cases j:e.getLast? with
      |none=>rw[List.getLast?_eq_none_iff]at j;subst j;cases c|some z=>
       rw[j]at i;have s:z.path<f.path:=by
        simp only[fC,aT]at i;rw[bytesLess_eq]at i;simpa using i
       obtain⟨x,rfl⟩:=List.getLast?_eq_some_iff.1 j;rcases kD.1 c with c|c;·exact List.lt_trans ((List.pairwise_append.1 m).2.2 g c z (by simp)).1 s
       ·obtain rfl:g=z:=by simpa using c
        exact s
     by_cases h4:e.any (fun g=>AL f.path g.path)=true
     ·rw[if_pos h4];constructor;·intro h;cases h
      ·rintro⟨_,h⟩;obtain⟨g,c,k⟩:=tK.1 h4;have:=((List.pairwise_append.1 h).2.2 g c f (by simp)).2;rw[k]at this;cases this
     ·rw[if_neg h4];have w:(e++[f]).Pairwise before:=by
       rw[List.pairwise_append];refine⟨m,by simp,fun a o b k=>?_⟩;obtain rfl:b=f:=by simpa using k
       refine⟨u a o,?_⟩;cases v:AL b.path a.path with
       |false=>rfl|true=>exact absurd (tK.2 ⟨a,o,v⟩) h4
      rw[zR1 r (e++[f]) w,iN];simp only[NY];constructor
      ·rintro⟨a,b⟩;refine⟨fun g c=>?_,b⟩;rcases fE.1 c with rfl|c;·exact⟨by simpa using l,by omega⟩
       ·exact a g c
      ·rintro⟨a,b⟩;exact⟨fun g c=>a g (rO _ c),b⟩
theorem xt5{t:List Touch}:SI t=0↔t.length<=64/\(∀f∈t,eY f.path=true/\f.dig.length<=65536)/\t.Pairwise before:=by
 unfold SI;by_cases h:64<t.length
 ·rw[if_pos h];constructor;·intro h;cases h
  ·rintro⟨a,_⟩;omega
 ·rw[if_neg h,zR1 t [] .nil];simp only[kZ];constructor;·rintro⟨a,b⟩;exact⟨by omega,a,b⟩
  ·rintro⟨_,a,b⟩;exact⟨a,b⟩
theorem yi5:∀{a b:Bs},AL b a=true->a<b:=by
 intro a b h;obtain⟨r,rfl⟩:=zG9.1 h;induction a with
 |nil=>simp|cons c a e=>simpa using e (zG9.2 ⟨r,rfl⟩)
theorem xN8{t:List Touch}(h:SI t=0){f g:Touch}(o:f∈t)(r:g∈t):AL f.path g.path=false:=by
 obtain⟨_,_,v⟩:=xt5.1 h;cases e:AL f.path g.path with
 |false=>rfl|true=>
  exfalso;have m:=yi5 e;obtain⟨i,s⟩:=tO.1 o;obtain⟨j,u⟩:=tO.1 r;obtain⟨k,c⟩:=aV.1 s;obtain⟨l,b⟩:=aV.1 u;have n:=List.pairwise_iff_getElem.1 v;rcases Nat.lt_trichotomy i j with a|a|a
  ·have:=(n i j k l a).1;rw[c,b]at this;exact List.lt_irrefl _ (List.lt_trans this m)
  ·subst a;rw[c]at b;subst b;exact List.lt_irrefl _ m
  ·have:=(n j i l k a).2;rw[c,b,e]at this;cases this
structure PkgOK(p:Pkg):Prop where
 name:jY p.name=true
 ver:jY p.ver=true
 tree:SI p.tree=0
 path:∀f∈p.tree,eY (p.name++47::f.path)=true
 rcp:∃f∈p.tree,f.path=p.rcp
section
variable{d:List Pkg}(hok:∀p∈d,PkgOK p)(hnm:d.Pairwise (fun p q=>p.name≠q.name))
include hok hnm
end
def Pkg.row(p:Pkg):List AV:=[.str p.name,.str p.ver,.str p.rcp,.sl (gU p.tree)]
def UC:List AV->Option Pkg
 |[.str a,.str b,.str c,.sl e]=>(gT vM e).map fun t=>⟨a,b,c,t⟩|_=>none
theorem yu8(p:Pkg):UC p.row=some p:=by simp[UC,Pkg.row]
def UI(d:List Pkg):List (List AV):=d.map Pkg.row
@[simp]theorem xC7{d:List Pkg}:(UI d).length=d.length:=by simp[UI]
@[simp]theorem xC0(d:List Pkg):gT UC (UI d)=some d:=rS yu8 d
theorem zu6(G:Gam)(a:List Bs)(s:Bs)(h:a.length<=big):∀(c:List Bs)(i:Nat)(x:AV),a.drop i=c->i<=a.length->cY G [6] Mc.bi_L0 0 [.blk 0,.seq (.seq (.reg [Kb 4 false]) .ret)] (aD Rs.bi (.bool (c.contains s))) [(0,.sl (kR a)),(1,.str s),(4,.F),(6,x),(7,.sl (kR a)),(8,.n a.length),(9,.n i)] []
 |[],i,x,f,l=>by
  have t:=drop_nil f;have b:ltB (i:Int) (a.length:Int)=false:=bC.2 (by omega);refine aJ (Mc.bi_L0.eq_1) ?_;simp[bM,trunc,bW,low,cV,b,aD,Rs.bi]|y::c,i,x,f,l=>by
  obtain⟨u,j,n⟩:=eT f;have b:ltB (i:Int) (a.length:Int)=true:=aO.2 (by omega);have r:IntKind.i64.wrap ((i:Int)+1)=((i+1:Nat):Int):=dT (by unfold big at h⊢;omega);refine aJ (Mc.bi_L0.eq_1) ?_;by_cases g:y=s
  ·subst g;simp[bM,trunc,bW,low,cV,b,sC (PL j),cut,dV,aD,Rs.bi]
  ·have k:(y==s)=false:=by simp[g]
   have o:=zu6 G a s h c (i+1) .junk n (by omega);have m:¬s=y:=fun e=>g e.symm;simp[bM,trunc,bW,low,cV,b,sC (PL j),cut,dV,k,r,m];refine cZ ?_;simpa[bM,trunc,bW,low,cV]using o
theorem yQ4{G:Gam}:PW G Mc.bi Rs.bi Ks.bi mL:=by
 intro g r h;unfold mL at h;split at h
 ·rename_i a s;split at h
  ·rename_i b c;have:=UD c;subst this;split at h
   ·rename_i e;injection h with h;subst h;rw[PY,aM];have f:=zu6 G b s e b 0 .junk rfl (by simp);simpa[Mc.bi,aC,Ks.bi]using f
   ·cases h
  ·cases h
 ·cases h
theorem UF:∀b:List Bs,xY (kR b)=some b
 |[]=>rfl|x::r=>by
  have a:=UF r;simp[xY,kR]at a⊢;simpa using a
end Go.Proofs.YtdebajodkallbaaGreatDoor
