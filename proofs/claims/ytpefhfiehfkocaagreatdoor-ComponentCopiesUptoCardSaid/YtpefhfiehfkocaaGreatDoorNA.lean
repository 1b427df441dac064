/- Names of items -/
import Derived.Test.YtpefhfiehfkocaaGreatDoorRmI
namespace Go.Proofs.YtpefhfiehfkocaaGreatDoor
open Go.RowKit Go.IntWalk
def ltI(n:Int):Bool:=(!ltB n 97&&!ltB 122 n)||eqB n 95
def dgI(n:Int):Bool:=!ltB n 48&&!ltB 57 n
def nmI(a:Bool)(n:Int):Bool:=dgI n||(a&&ltI n)
theorem zO7{names:Bool}{n:Int}(h:128<=n):nmI names n=false:=by
 have a:ltB 122 n=true:=cH.2 (by omega);have b:ltB 57 n=true:=cH.2 (by omega);have c:eqB n 95=false:=gM.2 (by omega);simp[nmI,ltI,dgI,a,b,c]
def bI(a:Bool)(b:UInt8):Bool:=nmI a b.toNat
def eO(a:Bool):Bs->Nat
 |[]=>0|c::r=>if bI a c then eO a r+1 else 0
theorem MN(a:Bool):∀s:Bs,eO a s<=s.length
 |[]=>bP _|c::r=>by
  have:=MN a r;rw[eO];split<;>simp;omega
theorem zd3(a:Bool):∀s:Bs,eO a s=s.length↔s.all (bI a)=true
 |[]=>by simp[eO]|c::r=>by
  have b:=zd3 a r;have d:=MN a r;rw[eO];cases h:bI a c with
  |true=>simp only[aM,jA,sL,h,gH];rw[<-b];omega|false=>simp[h]
theorem zX5(a:Bool):∀s:Bs,(s.take (eO a s)).all (bI a)=true
 |[]=>rfl|c::r=>by
  rw[eO];cases h:bI a c with
  |true=>simp only[aM,List.take_succ_cons,sL,h,gH];exact zX5 a r|false=>simp
theorem xo6{names:Bool}{c:UInt8}{r:Bs}(h:bI names c=true):0<eO names (c::r):=by rw[eO,if_pos h];omega
def QM:Bs->Bool
 |[]=>false|c::r=>!ltB 32 ((c::r).length:Nat)&&ltI c.toNat&&(c::r).all (bI true)
def keyW:List Bs:=[[108,101,116],[115,101,116],[105,102],[101,108,115,101],[119,104,105,108,101],[114,101,116,117,114,110],[100,111],[111,117,116],[115,116,111,114,101],[108,111,97,100],[105,110],[105,110,99,108,117,100,101],[100,101,102,105,110,101],[117,110,100,101,102],[119,104,101,110],[117,110,108,101,115,115],[110,111,116,101],[101,120,116,101,114,110],[101,120,112,111,114,116],[119,101,97,107],[102,110],[100,97,116,97]]
def nK(s:Bs):Bool:=QM s&&!keyW.contains s
def PV:Bs->Nat->Option Nat
 |[],n=>some n|c::r,n=>if 4294967295<10*n+(c.toNat-48)then none else PV r (10*n+(c.toNat-48))
def LH(s:Bs)(n:Nat):Nat×Int:=match PV s n with
 |some m=>(m,0)|none=>(0,3)
def xK(s:Bs):Nat×Int:=if 1<s.length/\s.head?=some 48 then(0,4)else LH s 0
def symW:List Bs:=[[124,124],[38,38],[61,61],[33,61],[60,61],[62,61],[60,60],[62,62]]
def NE:Bs:=[124,94,38,60,62,43,45,42,47,37,126,33,40,41,44,61]
def BM(s:Bs):Bs:=if 1<s.length/\symW.contains (s.take 2)=true then s.take 2 else match s with
 |[]=>[]|c::_=>if ltB (Lib.indexByte NE c) 0 then[]else s.take 1
def nL:Bs->(Int×Bs)×Int
 |[]=>((0,[]),4)|c::r=>if ltI c.toNat then(if 32<eO true (c::r)then((0,[]),2)else((1,(c::r).take (eO true (c::r))),0))else if dgI c.toNat then(if(xK ((c::r).take (eO false (c::r)))).2≠0 then((0,[]),(xK ((c::r).take (eO false (c::r)))).2)else if((c::r)[eO false (c::r)]?).any (fun b=>ltI b.toNat)then((0,[]),4)else((2,(c::r).take (eO false (c::r))),0))else if BM (c::r)≠[]then((3,BM (c::r)),0)else((0,[]),4)
def GP(k:Int)(s:Bs):Bool:=!(s==[])&&(eqB (nL s).2 0&&(eqB (nL s).1.1 k&&(nL s).1.2==s))
theorem xw9{s:Bs}{n:Nat}(h:n<=s.length):s.take n=s↔n=s.length:=by
 constructor
 ·intro e;have:=congrArg List.length e;rw[sM]at this;omega
 ·intro e;subst e;exact zJ
theorem xF0(s:Bs):GP 1 s=QM s:=by cases s with
 |nil=>rfl|cons c r=>
  have i:((c::r)==([]:Bs))=false:=rfl;unfold GP;rw[i];simp only[lA,gH,nL,QM];cases m:ltI (c.toNat:Int)with
  |true=>
   have f:=zd3 true (c::r);have h:=MN true (c::r);simp only[aM,Bool.and_true];by_cases d:32<eO true (c::r)
   ·have q:ltB 32 ((c::r).length:Nat)=true:=cH.2 (by omega);have j:eqB 2 0=false:=rfl;rw[if_pos d,q];simp[j]
   ·rw[if_neg d];simp only[yH6,gH];cases a:(c::r).all (bI true)with
    |true=>
     have e:=f.2 a;have q:ltB 32 ((c::r).length:Nat)=false:=dQ.2 (by omega);rw[q,e,zJ];simp|false=>
     have e:¬eO true (c::r)=(c::r).length:=fun e=>by rw[f.1 e]at a;cases a
     rw[Bool.and_false,beq_eq_false_iff_ne];exact fun g=>e ((xw9 h).1 g)
  |false=>
   simp only[bM,bH,Bool.and_false,iB];have k:eqB 2 1=false:=rfl;have l:eqB 3 1=false:=rfl;have b:eqB 0 1=false:=rfl;split
   ·split;·simp[b]
    ·split;·simp[b]
     ·simp[k]
   ·split;·simp[l]
    ·simp[b]
theorem xb4{s:Bs}(h:s.all (bI false)=true):∀b∈s,48<=b.toNat/\b.toNat<=57:=by
 intro b a;have:=fK.1 h b a;simp only[bI,nmI,iB,Bool.or_false,dgI,bR,mM,dQ]at this;omega
theorem index_one(c:UInt8):∀s:Bs,(c∈s->∃a b,s=a++c::b/\c∉a/\Lib.cut s [c]=(a,b,true))/\(c∉s->Lib.cut s [c]=(s,[],false)):=by
 intro s;refine⟨fun h=>?_,fun h=>?_⟩
 ·rcases Lib.index_spec s [c]with⟨d,g⟩|⟨i,d,g,e,h4⟩
  ·obtain⟨j,o,m⟩:=List.mem_iff_getElem.1 h;have:=g j (by omega);simp only[Lib.occAt,zE o,m]at this;simp at this
  ·have f:=Lib.index_room s [c] (by omega);rw[d]at f;have l:i<s.length:=by simp at f;omega
   have k:=zE l;have n:s[i]=c:=by
    simp only[Lib.occAt,k]at e;have h5:c=s[i]:=by simpa[List.isPrefixOf]using e
    exact h5.symm
   refine⟨s.take i,s.drop (i+1),?_,?_,?_⟩;·conv=>lhs;rw[<-sO i s,k,n]
   ·intro q;obtain⟨j,o,m⟩:=List.mem_iff_getElem.1 q;have p:j<i:=by simp at o;omega
    have:=h4 j p;simp only[List.getElem_take]at m;simp only[Lib.occAt,zE (show j<s.length by omega),m]at this;simp at this
   ·unfold Lib.cut;rw[if_pos (by rw[d];omega),d];simp
 ·rcases Lib.index_spec s [c]with⟨d,g⟩|⟨i,d,g,e,h4⟩
  ·unfold Lib.cut;rw[if_neg (by rw[d];omega)]
  ·exfalso;have f:=Lib.index_room s [c] (by omega);rw[d]at f;have l:i<s.length:=by simp at f;omega
   have k:=zE l;simp only[Lib.occAt,k]at e;have n:c=s[i]:=by simpa[List.isPrefixOf]using e
   exact h (by rw[n];exact IQ l)
structure Plc where
 obj:Bs
 sym:Bs
 kd:Int
 pos:Int
 siz:Int deriving DecidableEq,Inhabited
structure Imp where
 lib:Bs
 sym:Bs
 pos:Int deriving DecidableEq,Inhabited
structure Expo where
 sym:Bs
 pos:Int deriving DecidableEq,Inhabited
structure Bin where
 kind:Int
 entry:Int
 img:Bs
 pl:List Plc
 fx:List Int
 im:List Imp
 ex:List Expo
 nt:List (Bs×Bs)deriving DecidableEq,Inhabited
def Plc.row(p:Plc):List AV:=[.str p.obj,.str p.sym,.n p.kd,.n p.pos,.n p.siz]
def Imp.row(p:Imp):List AV:=[.str p.lib,.str p.sym,.n p.pos]
def Expo.row(p:Expo):List AV:=[.str p.sym,.n p.pos]
def iE(n:Int):List AV:=[.n n]
def eW(n:Bs×Bs):List AV:=[.str n.1,.str n.2]
def wV:List AV->Option Plc
 |[.str o,.str s,.n k,.n p,.n z]=>some ⟨o,s,k,p,z⟩|_=>none
def JX:List AV->Option Imp
 |[.str o,.str s,.n p]=>some ⟨o,s,p⟩|_=>none
def JU:List AV->Option Expo
 |[.str s,.n p]=>some ⟨s,p⟩|_=>none
def JV:List AV->Option Int
 |[.n p]=>some p|_=>none
def zT:List AV->Option (Bs×Bs)
 |[.str a,.str b]=>some (a,b)|_=>none
@[simp]theorem PO(t:Plc):wV t.row=some t:=rfl
@[simp]theorem yC4(t:Imp):JX t.row=some t:=rfl
@[simp]theorem yB8(t:Expo):JU t.row=some t:=rfl
@[simp]theorem yC0(t:Int):JV (iE t)=some t:=rfl
@[simp]theorem yC6(t:Bs×Bs):zT (eW t)=some t:=rfl
theorem PN{r:List AV}{t:Plc}(h:wV r=some t):r=t.row:=by
 unfold wV at h;split at h;·injection h with h;subst h;rfl
 ·cases h
theorem yC3{r:List AV}{t:Imp}(h:JX r=some t):r=t.row:=by
 unfold JX at h;split at h;·injection h with h;subst h;rfl
 ·cases h
theorem yB7{r:List AV}{t:Expo}(h:JU r=some t):r=t.row:=by
 unfold JU at h;split at h;·injection h with h;subst h;rfl
 ·cases h
theorem yB9{r:List AV}{t:Int}(h:JV r=some t):r=iE t:=by
 unfold JV at h;split at h;·injection h with h;subst h;rfl
 ·cases h
theorem zt1{r:List AV}{t:Bs×Bs}(h:zT r=some t):r=eW t:=by
 unfold zT at h;split at h;·injection h with h;subst h;rfl
 ·cases h
def dM(l:List Plc):List (List AV):=l.map Plc.row
def gQ(l:List Imp):List (List AV):=l.map Imp.row
def gZ(l:List Expo):List (List AV):=l.map Expo.row
def fW(l:List Int):List (List AV):=l.map iE
def iU(l:List (Bs×Bs)):List (List AV):=l.map eW
@[simp]theorem xV9{l:List Plc}:(dM l).length=l.length:=by simp[dM]
@[simp]theorem xP9{l:List Imp}:(gQ l).length=l.length:=by simp[gQ]
@[simp]theorem xM6{l:List Expo}:(gZ l).length=l.length:=by simp[gZ]
@[simp]theorem xN9{l:List Int}:(fW l).length=l.length:=by simp[fW]
@[simp]theorem xR0{l:List (Bs×Bs)}:(iU l).length=l.length:=by simp[iU]
theorem zS3{l:List Plc}{i:Nat}{t:Plc}(h:l[i]?=some t):(dM l)[i]?=some t.row:=by simp[dM,h]
theorem zH0{l:List Imp}{i:Nat}{t:Imp}(h:l[i]?=some t):(gQ l)[i]?=some t.row:=by simp[gQ,h]
theorem zw2{l:List Expo}{i:Nat}{t:Expo}(h:l[i]?=some t):(gZ l)[i]?=some t.row:=by simp[gZ,h]
theorem zy4{l:List Int}{i:Nat}{t:Int}(h:l[i]?=some t):(fW l)[i]?=some (iE t):=by simp[fW,h]
theorem xb2{l:List (Bs×Bs)}{i:Nat}{t:Bs×Bs}(h:l[i]?=some t):(iU l)[i]?=some (eW t):=by simp[iU,h]
@[simp]theorem xL3(l:List Plc):dW wV (dM l)=some l:=mQ PO l
@[simp]theorem xL0(l:List Imp):dW JX (gQ l)=some l:=mQ yC4 l
@[simp]theorem xK8(l:List Expo):dW JU (gZ l)=some l:=mQ yB8 l
@[simp]theorem xK9(l:List Int):dW JV (fW l)=some l:=mQ yC0 l
@[simp]theorem yD7(l:List (Bs×Bs)):dW zT (iU l)=some l:=mQ yC6 l
def Bin.cells(b:Bin):List AV:=[.n b.kind,.n b.entry,.str b.img,.sl (dM b.pl),.sl (fW b.fx),.sl (gQ b.im),.sl (gZ b.ex),.sl (iU b.nt)]
def sW:List AV->Option Bin
 |[.n k,.n e,.str i,.sl p,.sl f,.sl m,.sl x,.sl n]=>match dW wV p,dW JV f,dW JX m,dW JU x,dW zT n with
  |some p,some f,some m,some x,some n=>some ⟨k,e,i,p,f,m,x,n⟩|_,_,_,_,_=>none
 |_=>none
@[simp]theorem DR(b:Bin):sW b.cells=some b:=by simp[sW,Bin.cells]
theorem DS{r:List AV}{b:Bin}(h:sW r=some b):r=b.cells:=by
 unfold sW at h;split at h
 ·split at h
  ·rename_i a c d h4 h5;injection h with h;subst h;rw[rC (enc:=Plc.row) (fun r x=>PN) a,rC (enc:=iE) (fun r x=>yB9) c,rC (enc:=Imp.row) (fun r x=>yC3) d,rC (enc:=Expo.row) (fun r x=>yB7) h4,rC (enc:=eW) (fun r x=>zt1) h5];rfl
  ·cases h
 ·cases h
end Go.Proofs.YtpefhfiehfkocaaGreatDoor
