/- The reference -/
import Derived.Test.YtpefhfiehfkocaaGreatDoorRmA
import Derived.Lib.AtoiAll
import Derived.Shelf.Strings.Cut
import Derived.Lib.AtoiErrMem
import Derived.Shelf.SlSortCmp.WholeK
namespace Go.Proofs.YtpefhfiehfkocaaGreatDoor
open Go.RowKit Go.IntWalk
section
attribute[local congr]ite_congr
end
abbrev JH(b:UInt8):List AV:=[.int .u8 b.toNat]
def BW:List AV->Option AV
 |[.str s,.int .u8 c]=>some (.n (Lib.indexByte s c.toNat.toUInt8))|_=>none
def BV:List AV->Option AV
 |[.str s,.str a]=>if s.length<4294967281 then some (.tup [.str (Lib.cut s a).1,.str (Lib.cut s a).2.1,.bool (Lib.cut s a).2.2])else none|_=>none
theorem yA4{P:Program}{i:Gv}{f g:Nat}{m:Int}(u:i g=some [.n m])(q:∀(s c:ByteArray)(w:World),s.size<4294967281->w.cell? ⟨g,0,none⟩=some (.int .i64 m)->Calls P f #[.string s,.string c] w fun e j=>e=.returned (.tuple #[.string ⟨(Lib.cut s.data.toList c.data.toList).1.toArray⟩,.string ⟨(Lib.cut s.data.toList c.data.toList).2.1.toArray⟩,.bool (Lib.cut s.data.toList c.data.toList).2.2])/\∃n,j=w.drewN n):dP P i f BV:=by
 refine xR fun I w E r H k v B a=>?_;unfold BV at a;split at a
 ·rename_i s c;split at a
  ·rename_i p;injection a with a;subst a;obtain⟨x,y,rfl,C,D⟩:=GM B;have:=eD C;subst this;have:=eD D;subst this;have A:w.cell? ⟨g,0,none⟩=some (.int .i64 m):=by
    have:=v.gl g _ u;cases this with|fptr _ _ b o F k1 k2=>
     have e:=k2 0 (.n m) rfl;have:=dK e;have d:=k.cell _ _ _ (k1 0 (.n m) rfl);rw[this]at d;simpa using d
   refine(q ⟨s.toArray⟩ ⟨c.toArray⟩ w (by rw[nB];exact p) A).mono fun e j z=>?_;obtain⟨rfl,n,rfl⟩:=z;refine⟨⟨_,rfl,xm7 (.str _) (.str _) (.bool _)⟩,?_⟩;have:=below_grow (w:=w) (k:=n) (os:=#[]);rwa[Go.Sort.grow_empty]at this
  ·cases a
 ·cases a
theorem yT3{P:Program}{g:Gv}{f:Nat}(i:∀(s:ByteArray)(c:Int)(w:World),Calls P f #[.string s,.int .u8 c] w fun e d=>e=.returned (.int .i64 (Lib.indexByte s.data.toList c.toNat.toUInt8))/\d=w):dP P g f BW:=by
 refine xR fun I w q r z u v k a=>?_;unfold BW at a;split at a
 ·rename_i s c;injection a with a;subst a;obtain⟨x,y,rfl,o,p⟩:=GM k;have:=eD o;subst this;have:=dK p;subst this;refine(i ⟨s.toArray⟩ c w).mono fun e d j=>?_;obtain⟨rfl,rfl⟩:=j;exact⟨⟨_,rfl,.int _ _⟩,Below.refl _ _⟩
 ·cases a
theorem yS0{P:Program}{d:Gv}{f:Nat}(g:∀(s t:ByteArray)(w:World),Calls P f #[.string s,.string t] w fun e c=>e=.returned (.bool (Lib.hasPrefix s.data.toList t.data.toList))/\c=w):dP P d f qR:=by
 refine xR fun I w p r v q u j a=>?_;unfold qR at a;split at a
 ·rename_i s t;injection a with a;subst a;obtain⟨x,y,rfl,k,o⟩:=GM j;have:=eD k;subst this;have:=eD o;subst this;refine(g ⟨s.toArray⟩ ⟨t.toArray⟩ w).mono fun e c i=>?_;obtain⟨rfl,rfl⟩:=i;exact⟨⟨_,rfl,.bool _⟩,Below.refl _ _⟩
 ·cases a
theorem yw0{P:Program}{g:Gv}{f:Nat}(j:∀(s:ByteArray)(w:World),s.size<=281474976710656->Calls P f #[.string s] w fun e d=>e=.returned (.string s)/\Below w.heap.size w d):dP P g f fun c=>match c with|[.str s]=>if s.length<=281474976710656 then some (.str s)else none|_=>none:=by
 refine xR fun I w c r y u v o a=>?_;split at a
 ·rename_i s;split at a
  ·rename_i p;injection a with a;subst a;obtain⟨x,rfl,q⟩:=zP7 o;have:=eD q;subst this;refine(j ⟨s.toArray⟩ w (by rw[nB];exact p)).mono fun e d k=>?_;obtain⟨rfl,i⟩:=k;exact⟨⟨_,rfl,.str _⟩,i⟩
  ·cases a
 ·cases a
theorem yZ5{c:Gv}{I:Nat->Nat->Option Value}{w:World}(d:Holds I w)(i:GvHolds c I w){g:Nat}{m:Int}(f:c g=some [.int .i64 m]):w.cell? ⟨g,0,none⟩=some (.int .i64 m):=by
 have:=i.gl g _ f;cases this with|fptr _ _ b o j k1 k2=>
  have e:=k2 0 (.n m) rfl;have:=dK e;have a:=d.cell _ _ _ (k1 0 (.n m) rfl);rw[this]at a;simpa using a
def NR:List AV->Option AV
 |[.str s,.str t]=>if s.length<4294967281 then some (.bool (Lib.contains s t))else none|_=>none
theorem yz4{P:Program}{c:Gv}{f g:Nat}{m:Int}(o:c g=some [.n m])(k:∀(s t:ByteArray)(w:World),s.size<4294967281->w.cell? ⟨g,0,none⟩=some (.int .i64 m)->Calls P f #[.string s,.string t] w fun e d=>e=.returned (.bool (Lib.contains s.data.toList t.data.toList))/\d=w):dP P c f NR:=by
 refine xR fun I w A r B i p u a=>?_;unfold NR at a;split at a
 ·rename_i s t;split at a
  ·rename_i j;injection a with a;subst a;obtain⟨x,y,rfl,v,z⟩:=GM u;have:=eD v;subst this;have:=eD z;subst this;refine(k ⟨s.toArray⟩ ⟨t.toArray⟩ w (by rw[nB];exact j) (yZ5 i p o)).mono fun e d q=>?_;obtain⟨rfl,rfl⟩:=q;exact⟨⟨_,rfl,.bool _⟩,Below.refl _ _⟩
  ·cases a
 ·cases a
def uB:List AV->Option AV
 |[.str s,.str [c]]=>some (.n (Lib.countByte s c))|_=>none
theorem yz8{P:Program}{g:Gv}{f:Nat}(i:∀(s:ByteArray)(c:UInt8)(w:World),Calls P f #[.string s,.string ⟨#[c]⟩] w fun e d=>e=.returned (.int .i64 (Lib.countByte s.data.toList c))/\d=w):dP P g f uB:=by
 refine xR fun I w q r z u v k a=>?_;unfold uB at a;split at a
 ·rename_i s c;injection a with a;subst a;obtain⟨x,y,rfl,o,p⟩:=GM k;have:=eD o;subst this;have:=eD p;subst this;refine(i ⟨s.toArray⟩ c w).mono fun e d j=>?_;obtain⟨rfl,rfl⟩:=j;exact⟨⟨_,rfl,.int _ _⟩,Below.refl _ _⟩
 ·cases a
def HE:List AV->Option AV
 |[.str s,.str t]=>some (.n (Lib.compareBytes s t))|_=>none
theorem yy6{P:Program}{d:Gv}{f:Nat}(g:∀(s t:ByteArray)(w:World),Calls P f #[.string s,.string t] w fun e c=>e=.returned (.int .i64 (Lib.compareBytes s.data.toList t.data.toList))/\c=w):dP P d f HE:=by
 refine xR fun I w p r v q u j a=>?_;unfold HE at a;split at a
 ·rename_i s t;injection a with a;subst a;obtain⟨x,y,rfl,k,o⟩:=GM j;have:=eD k;subst this;have:=eD o;subst this;refine(g ⟨s.toArray⟩ ⟨t.toArray⟩ w).mono fun e c i=>?_;obtain⟨rfl,rfl⟩:=i;exact⟨⟨_,rfl,.int _ _⟩,Below.refl _ _⟩
 ·cases a
theorem yn9{B:Base}{C:Cx}{h:aA}{w k:World}(d:Inv B C h w){rows:List (List AV)}{f:Array Value}{e:TypeId}{a c g:Nat}(D:w.heap.size<=g)(i:Below w.heap.size w k)(F:k.heap[g]?=some (.cells f e (0,0)))(p:rows.length<=c)(E:c<=maxLen)(J:∀K∈rows,K.length=a)(A:f.size=c*a)(I:RelL (Cx.pure C.im) rows.flatten (f.toList.take (rows.length*a)))(y:∀u∈f.toList.take (rows.length*a),u.oneCell'=true):Inv B (C.addAr h.length 0 (some ⟨g,c,a,e,false⟩)) (h++[.arr a 0 rows true]) k/\Rel (C.addAr h.length 0 (some ⟨g,c,a,e,false⟩)) (.own h.length 0 rows.length) (.slice (some ⟨g,0,none⟩) rows.length c)/\C.Le (C.addAr h.length 0 (some ⟨g,c,a,e,false⟩)):=by
 have H:=(d.fr h.length (bP _)).2 0;have q:=KD (w:=w) (some ⟨g,c,a,e,false⟩) H;have j:(C.addAr h.length 0 (some ⟨g,c,a,e,false⟩)).ar h.length 0=some (some ⟨g,c,a,e,false⟩):=by simp[Cx.addAr]
 refine⟨d.add q i (fun b o u x=>vA d i b o u x) (fun b o u x=>d.one b o u x) (blk:=.arr a 0 rows true) (.inr ⟨_,f,j,oJ d.hB D,p,E,J,F,A,I,y,fun _ o=>?_,(fun e=>by cases e),rfl,zf7 e rows⟩) (fun b i=>?_) (fun l r=>rfl) (fun l v r=>by simp[Cx.addAr,r]) (fun P S Q T rows U e v O=>?_),.own _ _ _ ⟨g,c,a,e,false⟩ j p,q.le⟩
 ·show C.im g o=none;cases z:C.im g o with
  |none=>rfl|some u=>have:=rA (d.im _ _ _ z);omega
 ·simp only[aU,j,aE]at i;omega
 ·injection e with N M L s;subst s;simp only[Cx.addAr,true_and];rw[if_neg (by omega)];exact(d.fr h.length (bP _)).2 v
def wT(c bytes:Nat)(h:aA)(a:List (List AV)):Option (AV×aA):=if a.isEmpty then some (.sl [],h)else if dH c a/\a.length*bytes<=140737488355328/\a.length<=maxLen then some (.own h.length 0 a.length,h++[.arr c 0 a true])else none
def pC(c bytes:Nat):List AV->aA->Option (AV×aA)
 |[.nils],h=>some (.nils,h)|[.sl a],h=>wT c bytes h a|[.own l e n],h=>match h[l]? with
  |some (.arrX false none d f a _wr)=>if e=f/\n=a.length/\d=c then wT c bytes h a else none|_=>none
 |_,_=>none
theorem JK{P:Program}{gv:Gv}{f:FuncId}{a2:TypeId}{z bytes:Nat}(W:∀(a:Addr)(n c:Nat)(news:List Value)(w:World),news.length=n*z->n<=maxLen->n*bytes<=140737488355328->(∀j u,news[j]?=some u->w.cell? (a.add j)=some u)->(∀u∈news,u.oneCell'=true)->Calls P f #[.slice (some a) n c] w fun o k=>(∃L,o=.returned L/\k.ownsRow w.heap.size a2 z L n news)/\Below w.heap.size w k)(O:∀(n c:Nat)(w:World),Calls P f #[.slice none n c] w fun o k=>o=.returned (.slice none 0 0)/\k=w):gG P gv f (pC z bytes):=by
 intro B C h w f2 r F V f3 g q d;have T:∀{r:AV}{F:aA},wT z bytes h []=some (r,F)->r=.sl []/\F=h:=fun e=>by
  simp only[wT,List.isEmpty_nil,aM,aE,aR]at e;exact⟨e.1.symm,e.2.symm⟩
 have U:∀{rows:List (List AV)}{a:Addr}{c:Nat}{news:List Value},wT z bytes h rows=some (r,F)->RelL (Cx.pure C.im) rows.flatten news->(∀j u,news[j]?=some u->w.cell? (a.add j)=some u)->(∀u∈news,u.oneCell'=true)->(rows≠[]->news.length=rows.length*z)->Calls P f #[.slice (some a) rows.length c] w fun o k=>∃v D,o=.returned v/\C.Le D/\Inv B D F k/\Rel D r v/\Keep B w k:=fun{rows a c news}e c3 b2 Y c2=>by cases rows with
  |nil=>
   obtain⟨rfl,rfl⟩:=T e;refine(W a 0 c [] w (by simp) (by simp) (by simp) (fun j u i=>by simp at i) (fun u H=>by cases H)).mono fun o k p=>?_;obtain⟨⟨L,rfl,S⟩,y⟩:=p;rcases S.2 with⟨rfl,_⟩|⟨a3,M,N,rfl,_⟩;·exact⟨_,C,rfl,.refl C,g.grow y,.slnil,.grown y g.hB⟩
   ·exact⟨_,C,rfl,.refl C,g.grow y,.slz _ _,.grown y g.hB⟩|cons J rs=>
   simp only[wT,List.isEmpty_cons,bM,bH]at e;split at e
   ·rename_i b3;obtain⟨s1,s2,s3⟩:=b3;simp only[aE,aR]at e;obtain⟨rfl,rfl⟩:=e;refine(W a (J::rs).length c news w (c2 (by simp)) s3 s2 b2 Y).mono fun o k p=>?_;obtain⟨⟨L,rfl,S⟩,y⟩:=p;rcases S.2 with⟨_,hz⟩|⟨a3,M,N,rfl,q1,q2,q3,q4,q5,Z⟩;·simp at hz
    ·obtain⟨t1,t2,t3⟩:=yn9 (rows:=J::rs) g q1 y q2 q3 q4 (tS s1) q5 (by rw[Z];exact c3) (by rw[Z];exact Y);exact⟨_,_,rfl,t3,t1,t2,.grown y g.hB⟩
   ·cases e
 unfold pC at d;split at d
 ·obtain⟨v,K,s,E,q⟩:=q.inv_cons;have:=q.inv_nil;subst this;have I:V=#[v]:=by apply kK;simpa using s
  subst I;simp only[aE,aR]at d;obtain⟨rfl,rfl⟩:=d;cases E;refine(O 0 0 w).mono fun o k p=>?_;obtain⟨rfl,rfl⟩:=p;exact⟨_,C,rfl,.refl C,g,.nils,.refl _ _⟩
 ·rename_i rows;obtain⟨v,K,s,E,q⟩:=q.inv_cons;have:=q.inv_nil;subst this;have I:V=#[v]:=by apply kK;simpa using s
  subst I;cases E with
  |slnil=>
   obtain⟨rfl,rfl⟩:=T d;refine(O 0 0 w).mono fun o k p=>?_;obtain⟨rfl,rfl⟩:=p;exact⟨_,C,rfl,.refl C,g,.slnil,.refl _ _⟩|slz a M=>exact U (rows:=[]) (news:=[]) d .nil (fun j u i=>by simp at i) (fun u H=>by cases H) (fun h=>absurd rfl h)|sl _ b o M f1 K b1 g1 g2 g3=>
   have d2:rows≠[]->dH z rows=true:=fun A=>by cases rows with
    |nil=>exact absurd rfl A|cons x a1=>
     simp only[wT,List.isEmpty_cons,bM,bH]at d;split at d;·rename_i e;exact e.1
     ·cases d
   obtain⟨l,k1,k2⟩:=QL (size:=f1) rows o K (fun J d1=>by
    obtain⟨d3,c1⟩:=lM.1 d1;exact g1 d3 J c1) g2 g3;refine U (news:=l) d k1 (fun j u i=>by rw[Addr.add_lit];exact g.im _ _ _ (k2 j u i)) (fun u H=>?_) (fun A=>?_)
   ·obtain⟨j,i⟩:=lM.1 H;exact g.one _ _ _ (k2 j u i)
   ·rw[<-k1.1,lR rows (tS (d2 A))]
 ·rename_i l h3 n;split at d
  ·rename_i sz i1 rows wr hl;split at d
   ·rename_i e;obtain⟨rfl,rfl,rfl⟩:=e;obtain⟨v,K,s,E,q⟩:=q.inv_cons;have:=q.inv_nil;subst this;have I:V=#[v]:=by apply kK;simpa using s
    subst I;generalize X:rows.length=n at E;cases E with
    |ownnil _ _ Q=>
     have hx:rows=[]:=List.length_eq_zero_iff.1 X;subst hx;obtain⟨rfl,rfl⟩:=T d;refine(O 0 0 w).mono fun o k p=>?_;obtain⟨rfl,rfl⟩:=p;exact⟨_,C,rfl,.refl C,g,.slnil,.refl _ _⟩|own _ _ _ r' Q b1=>
     rcases g.ok l _ hl with⟨k1,_⟩|⟨r2,N,k1,k2,k3,k4,k5,k6,k7,k8,e3,k9⟩;·rw[Q]at k1;cases k1
     ·rw[Q]at k1;injection k1 with k1;injection k1 with k1;subst k1;subst X;refine U (news:=N.toList.take (rows.length*r'.size)) d k8 (fun j u i=>?_) e3 (fun A=>?_)
      ·rw[Addr.add_lit,cell_of_heap k6];rw[fS]at i;split at i;·simpa using i
       ·cases i
      ·rw[<-k8.1,lR rows k5];have hs:dH sz rows=true:=by cases rows with
        |nil=>exact absurd rfl A|cons x a1=>
         simp only[wT,List.isEmpty_cons,bM,bH]at d;split at d;·rename_i e;exact e.1
         ·cases d
       cases rows with
       |nil=>exact absurd rfl A|cons x a1=>
        have s:=k5 x (by simp);have e2:=tS hs x (by simp);rw[<-s,e2]
   ·cases d
  ·cases d
 ·cases d
def uC(a:Nat):List AV->aA->Option (AV×aA)
 |[.nils,.n k],h=>if 0<k/\k<=1000000 then some (.own h.length 0 0,h++[.arr a 0 [] true])else if k=0 then some (.nils,h)else none|_,_=>none
theorem zz4{P:Program}{z:Gv}{f:FuncId}{e:TypeId}{s:Nat}(A:∀(n:Nat)(w:World),0<n->n<=1000000->Calls P f #[.slice none 0 0,.int .i64 n] w fun o g=>∃i j,o=.returned (.slice (some ⟨w.heap.size,0,none⟩) 0 i)/\g.heap[w.heap.size]?=some (.cells j e (0,0))/\j.size=i*s/\i<=maxLen/\Below w.heap.size w g)(D:∀(w:World),Calls P f #[.slice none 0 0,.int .i64 0] w fun o g=>o=.returned (.slice none 0 0)/\g=w):gG P z f (uC s):=by
 intro B C h w U r V T W p c a;unfold uC at a;split at a
 ·rename_i k;obtain⟨v,Q,y,F,c⟩:=c.inv_cons;obtain⟨S,Q,rfl,H,c⟩:=c.inv_cons;have:=c.inv_nil;subst this;have I:T=#[v,S]:=by apply kK;simpa using y
  subst I;cases F;have:=dK H;subst this;split at a
  ·rename_i d;obtain⟨n,rfl⟩:∃n:Nat,k=n:=⟨k.toNat,by omega⟩;simp only[aE,aR]at a;obtain⟨rfl,rfl⟩:=a;refine(A n w (by omega) (by omega)).mono fun o g d=>?_;obtain⟨i,j,rfl,J,K,L,q⟩:=d;obtain⟨M,N,O⟩:=OJ (rows:=[]) p q J (lD _) L (fun _ c=>by cases c) K (by simp;exact .nil) (fun u E=>by simp at E);exact⟨_,_,rfl,O,M,N,.grown q p.hB⟩
  ·split at a
   ·rename_i d;subst d;simp only[aE,aR]at a;obtain⟨rfl,rfl⟩:=a;refine(D w).mono fun o g d=>?_;obtain⟨rfl,rfl⟩:=d;exact⟨_,C,rfl,.refl C,p,.nils,.refl _ _⟩
   ·cases a
 ·cases a
abbrev PD:=Bs×Bs
def gW(x:PD):List Value:=[.string ⟨x.1.toArray⟩,.string ⟨x.2.toArray⟩]
def dZ(x:PD):List AV:=[.str x.1,.str x.2]
def wU:List (List AV)->Option (List PD)
 |[]=>some []|[.str p,.str d]::r=>(wU r).map ((p,d)::·)|_=>none
theorem XF:∀{c:List (List AV)}{a:List PD},wU c=some a->c=a.map dZ
 |[],a,h=>by simp[wU]at h;subst h;rfl|r::j,a,h=>by
  unfold wU at h;split at h;·rename_i e;cases e
  ·rename_i p d i e;cases e;simp only[bS]at h;obtain⟨g,f,rfl⟩:=h;rw[XF f];rfl
  ·cases h
theorem PM:∀c:List PD,wU (c.map dZ)=some c
 |[]=>rfl|(p,d)::r=>by
  have a:=PM r;simp[wU,dZ]at a⊢;simpa[dZ]using a
def oO(x y:PD):Bool:=!Op.bytesLess y.1 x.1
theorem RE{x y:PD}:oO x y=true↔x.1<=y.1:=by
 unfold oO;rw[Go.Proofs.bytesLess_eq];simp only[mM,IV];exact List.not_lt
theorem yX4{x y z:PD}(a:oO x y=true)(c:oO y z=true):oO x z=true:=by rw[RE]at*;exact List.le_trans a c
theorem yX3{x y:PD}(h:¬oO x y=true):oO y x=true:=by
 rw[RE]at*;exact(List.le_total x.1 y.1).resolve_left h
def AE(x:PD):List PD->List PD
 |[]=>[x]|y::r=>if oO x y then x::y::r else y::AE x r
def kV:List PD->List PD
 |[]=>[]|x::r=>AE x (kV r)
theorem YK(x:PD):∀l,(AE x l).Perm (x::l)
 |[]=>.refl _|y::r=>by
  unfold AE;split;·exact .refl _
  ·exact((YK x r).cons y).trans (.swap x y r)
theorem MZ:∀l,(kV l).Perm l
 |[]=>.refl _|x::r=>(YK x _).trans ((MZ r).cons x)
theorem zH7(x:PD):∀{l:List PD},l.Pairwise (fun a b=>oO a b=true)->(AE x l).Pairwise (fun a b=>oO a b=true)
 |[],_=>by simp[AE]|y::r,h=>by
  obtain⟨e,f⟩:=iC.1 h;unfold AE;split
  ·rename_i d;refine iC.2 ⟨fun z c=>?_,h⟩;rcases dD.1 c with rfl|c;·exact d
   ·exact yX4 d (e z c)
  ·rename_i d;refine iC.2 ⟨fun z c=>?_,zH7 x f⟩;rcases dD.1 ((YK x r).subset c)with rfl|c;·exact yX3 d
   ·exact e z c
theorem ze5:∀l,(kV l).Pairwise (fun a b=>oO a b=true)
 |[]=>.nil|x::r=>zH7 x (ze5 r)
def lP:List PD->Bool
 |[]=>true|x::r=>r.all (fun y=>decide (x.1≠y.1))&&lP r
theorem JZ:∀{l:List PD},lP l=true↔l.Pairwise (fun a b=>a.1≠b.1)
 |[]=>by simp[lP]|x::r=>by simp[lP,JZ (l:=r)]
theorem yE1{l:List PD}(h:lP l=true){x y:PD}(f:x∈l)(g:y∈l)(e:x.1=y.1):x=y:=by
 rw[JZ]at h;induction l with
 |nil=>cases f|cons z r j=>
  obtain⟨d,i⟩:=iC.1 h;rcases dD.1 f with c|c
  ·rcases dD.1 g with a|a;·rw[c,a]
   ·subst c;exact absurd e (d y a)
  ·rcases dD.1 g with a|a;·subst a;exact absurd e.symm (d x c)
   ·exact j i c a
theorem yE2{l m:List PD}(h:l.Perm m):lP l=true->lP m=true:=by
 rw[JZ,JZ];exact fun k=>h.pairwise k (fun a=>a.symm)
theorem ya8{l m:List PD}(i:lP l=true)(e:m.Perm l)(j:m.Pairwise (fun a b=>oO a b=true)):m=kV l:=by
 refine List.Perm.eq_of_pairwise (le:=fun x y=>oO x y=true) (fun a b f g c d=>?_) j (ze5 l) (e.trans (MZ l).symm);rw[RE]at c d;exact yE1 i (e.subset f) ((MZ l).subset g) (List.le_antisymm c d)
def vZ(d:List FuncId):List AV->aA->Option (AV×aA)
 |[.own l c n,.fn g []],h=>match h[l]? with
  |some (.arrX false none 2 f e true)=>match wU e with
   |some a=>if d.contains g/\c=f/\n=a.length/\n<=big/\lP a=true then some (.tup [],h.set l (.arr 2 c ((kV a).map dZ) true))else none|none=>none
  |_=>none
 |_,_=>none
theorem WY:∀a b:Bs,decide (Lib.compareBytes a b<0)=decide (a<b)
 |[],[]=>by simp[Lib.compareBytes]|[],_::_=>by simp[Lib.compareBytes]|_::_,[]=>by simp[Lib.compareBytes]|a::x,b::y=>by
  have g:=WY x y;simp only[Lib.compareBytes,List.cons_lt_cons_iff];by_cases c:a<b;·simp[c]
  ·by_cases d:b<a
   ·have f:¬a=b:=fun e=>by subst e;exact c d
    simp[c,d,f]
   ·have f:a=b:=UInt8.le_antisymm (UInt8.not_lt.1 d) (UInt8.not_lt.1 c);subst f;simpa[c]using g
def cfP(x y:PD):Int:=Lib.compareBytes x.1 y.1
theorem ltP(x y:PD):Go.Proofs.ltOf cfP x y=Go.Sort.ltStr x.1 y.1:=WY x.1 y.1
theorem yc6:Go.Sort.SWO (Go.Proofs.ltOf cfP)where
 irrefl x:=by rw[ltP];exact Go.Sort.swo_ltStr.irrefl x.1
 trans x y z a c:=by rw[ltP]at a c⊢;exact Go.Sort.swo_ltStr.trans _ _ _ a c
 ntrans x y z a c:=by rw[ltP]at a c⊢;exact Go.Sort.swo_ltStr.ntrans _ _ _ a c
theorem zG1(w:World)(b:Nat)(d:Array Value)(k:Nat):(Go.Sort.putRow id w b 0 d).heap[k]?=if b=k then(w.heap[k]?).map (Go.Sort.onCells (Go.Sort.putCells id 0 d))else w.heap[k]?:=by
 simp only[Go.Sort.putRow,Go.Sort.mapBlock];rw[wH]
theorem zg3{B:Base}{C:Cx}{h:aA}{w w':World}(c:Inv B C h w){l z d:Nat}{y rows':List (List AV)}{F:Array Value}{r:RowAt}(p:h[l]?=some (.arr d z y true))(g:C.ar l z=some (some r))(q:rows'.length=y.length)(L:∀x∈rows',x.length=d)(K:RelL (Cx.pure C.im) rows'.flatten F.toList)(W:∀u∈F.toList,u.oneCell'=true)(X:w'.os=w.os)(Y:w'.tape=w.tape)(V:w'.output=w.output){os:Array Obj}(H:w'.heap=(Go.Sort.putRow id w r.block 0 F).heap++os):Inv B C (h.set l (.arr d z rows' true)) w'/\Keep B w w':=by
 have M:(Go.Sort.putRow id w r.block 0 F).heap.size=w.heap.size:=by simp
 have E:∀k,k<w.heap.size->w'.heap[k]?=if r.block=k then(w.heap[k]?).map (Go.Sort.onCells (Go.Sort.putCells id 0 F))else w.heap[k]?:=fun k a=>by rw[H,II (by rw[M];exact a),zG1]
 have J:w.heap.size<=w'.heap.size:=by rw[H,Array.size_append,M];omega
 rcases c.ok l _ p with⟨k1,_⟩|⟨r',f,k1,k2,k3,k4,k5,k6,k7,k8,b1,k9,k10,k11,k12⟩;·rw[g]at k1;cases k1
 rw[g]at k1;injection k1 with k1;injection k1 with k1;subst k1;have j:r.block<w.heap.size:=fM k6;have U:w'.heap[r.block]?=some (.cells (Go.Sort.putCells id 0 F f) r.elem r.fz):=by rw[E _ j,if_pos rfl,k6];rfl
 have i:∀k,k<w.heap.size->k≠r.block->w'.heap[k]?=w.heap[k]?:=fun k a s=>by rw[E k a,if_neg (fun e=>s e.symm)]
 refine⟨c.turn p (.refl C) J (fun b O P=>⟨i b P (fun e=>O (by simp[aU,g,e])),fun _=>rfl⟩) (fun b o u v=>?_) c.one ?_ (fun b j=>.inl j) c.fr (VU c p),⟨⟨X,Y,V,J,fun k a=>i k (by have:=c.hB;omega) (by omega)⟩,fun k a2 a=>(i k (fM a) (fun e=>by subst e;rw[k6]at a;cases a)).trans a⟩⟩
 ·have s:b≠r.block:=fun e=>by subst e;rw[k9 rfl o]at v;cases v
  have D:=c.im b o u v;rw[World.cell?_of_block (w:=w) (i b (rA D) s)];exact D
 ·have Q:rows'.flatten.length=rows'.length*d:=lR (n:=d) rows' L;have A:F.size=rows'.length*d:=by have:=K.1;rw[Q]at this;simpa using this.symm
  have T:y.length*r.size<=r.cap*r.size:=kH _ k3;have a3:F.size<=f.size:=by rw[k7,A,q,<-k11];exact T
  have N:(Go.Sort.putCells id 0 F f).toList.take (rows'.length*r.size)=F.toList:=by
   rw[k11,<-A];apply kL;intro a1;rw[fS];split
   ·rename_i I;simp only[Go.Sort.putCells];have S:a1<f.size:=by omega
    simp[S,I]
   ·rename_i I;symm;rw[uM];simp;omega
  refine .inr ⟨r,_,g,k2,by rw[q];exact k3,k4,fun x Z=>by rw[k11];exact L x Z,U,?_,?_,?_,k9,(fun e=>by cases e),k11,k12.len (by rw[q];exact bP _)⟩;·simp[Go.Sort.putCells,k7]
  ·rw[N];exact K
  ·rw[N];exact W
theorem QJ{d e:Type}{n:Nat}(f:d->List e)(c:∀x,(f x).length=n):∀(l:List d)(i j:Nat)(x:d)(b:e),l[i]?=some x->(f x)[j]?=some b->(l.map f).flatten[i*n+j]?=some b
 |[],i,j,x,b,h,_=>by simp at h|y::r,0,j,x,b,h,a=>by
  simp at h;subst h;rw[fE,oF,aX (by simpa using(aF.1 a).1)];simpa using a|y::r,i+1,j,x,b,h,a=>by
  have g:=QJ f c r i j x b (by simpa using h) a;rw[fE,oF,dY (by rw[c,gL];omega),c,show(i+1)*n+j-n=i*n+j by rw[gL];omega];exact g
theorem QK{c d:Type}{n:Nat}(f:c->List d)(a:∀x,(f x).length=n):∀l:List c,(l.map f).flatten.length=l.length*n
 |[]=>by simp|x::r=>by rw[fE,oF,iS,a,QK f a r,jA,gL];omega
theorem KA(x:PD):(gW x).length=2:=rfl
theorem XZ(a:List PD):(Go.Sort.flatK gW 2 a.toArray).toList=(a.map gW).flatten:=by
 apply kL;intro i;by_cases d:i<a.length*2
 ·have e:i/2<a.length:=by omega
  have c:i%2<2:=by omega
  have g:(Go.Sort.flatK gW 2 a.toArray).toList[i]?=some ((gW a[i/2])[i%2]'(by rw[KA];exact c)):=by
   rw[gI (by simp;exact d)];have:=Go.Sort.get_flatK gW 2 a.toArray i (by simpa using d);rw[kO _ i (by simpa using d)]at this;rw[Array.getElem_toList,this];rw[kO a.toArray (i/2) (by simpa using e),List.getElem_toArray,kO _ (i%2) (by rw[KA];exact c)]
  have f:=QJ gW KA a (i/2) (i%2) a[i/2] _ (by simp[e]) (gI (by rw[KA];exact c));rw[show i/2*2+i%2=i by omega]at f;rw[g,f]
 ·rw[uM.2 (by simp;omega),uM.2 (by rw[QK gW KA];omega)]
theorem zU5{C:Cx}:∀a:List PD,RelL C (a.map dZ).flatten (a.map gW).flatten
 |[]=>.nil|(p,d)::r=>.cons (.str p) (.cons (.str d) (zU5 r))
theorem zU6{C:Cx}:∀(c:List PD){a:List Value},RelL C (c.map dZ).flatten a->a=(c.map gW).flatten
 |[],a,h=>h.inv_nil|(p,d)::r,a,h=>by
  obtain⟨j,g,rfl,e,h⟩:=RelL.inv_cons (a:=.str p) h;obtain⟨k,i,rfl,f,h⟩:=RelL.inv_cons (a:=.str d) h;rw[eD e,eD f,zU6 r h];rfl
theorem xf3(d:List PD):∀u∈(d.map gW).flatten,u.oneCell'=true:=fun u a=>by
 obtain⟨l,c,a⟩:=List.mem_flatten.1 a;obtain⟨x,_,rfl⟩:=jE.1 c;simp[gW]at a;rcases a with rfl|rfl<;>rfl
theorem yS4{B:Base}{C:Cx}{h:aA}{w:World}(p:Inv B C h w){l i:Nat}{a:List PD}{r:RowAt}{s:Bool}(q:h[l]?=some (.arr 2 i (a.map dZ) s))(f:C.ar l i=some (some r)):Go.Sort.HoldsK gW 2 w r.block 0 a.toArray/\r.block<w.heap.size:=by
 rcases p.ok l _ q with⟨k1,_⟩|⟨v,k,k1,k2,k3,k4,k5,k6,k7,k8,u,k9,k10,k11,k12⟩;·rw[f]at k1;cases k1
 rw[f]at k1;injection k1 with k1;injection k1 with k1;subst k1;refine⟨fun j d=>?_,fM k6⟩;have e:=zU6 a k8;rw[<-XZ]at e;have g:j<(Go.Sort.flatK gW 2 a.toArray).toList.length:=by simpa using d
 have o:j<r.cap*r.size:=by rw[k11];simp at d k3;omega
 refine⟨?_,by rw[eT];exact RowAt.thaw k6 o⟩;rw[eT,cell_of_heap k6,<-uJ];have c:(k.toList.take ((a.map dZ).length*r.size))[j]?=some ((Go.Sort.flatK gW 2 a.toArray).toList[j]'g):=by rw[e];exact gI g
 rw[fS]at c;split at c;·rw[c,kO _ j d];simp
 ·cases c
theorem xu0{P:Program}{V:Gv}{f:FuncId}{F:List FuncId}(W:∀g∈F,∀(p:Option Addr)(q:Nat)(w:World),Calls P f #[.slice p 0 q,.func (.func g) #[] #[]] w fun e y=>e=.returned (.tuple #[])/\y=w)(X:∀g∈F,∀(z L q:Nat)(d:Array PD)(w:World),Go.Sort.HoldsK gW 2 w z L d->z<w.heap.size->d.size<4611686018427387904->Calls P f #[.slice (some ⟨z,L,none⟩) d.size q,.func (.func g) #[] #[]] w fun e y=>e=.returned (.tuple #[])/\∃k n D,Go.Sort.PermIn 0 d.size d k/\Go.Sort.SortedIn (Go.Proofs.ltOf cfP) 0 d.size k/\y=Go.Proofs.sortWorldK gW 2 w z L n k D):gG P V f (vZ F):=by
 intro f3 C h w g1 r h' f1 g2 H u o;unfold vZ at o;split at o
 ·rename_i l f2 n g;split at o
  ·rename_i h3 h2 B;split at o
   ·rename_i a hd;have:=XF hd;subst this;split at o
    ·rename_i A;obtain⟨M,rfl,rfl,Y,a3⟩:=A;simp only[aE,aR]at o;obtain⟨rfl,rfl⟩:=o;obtain⟨v,us,U,K,u⟩:=u.inv_cons;obtain⟨T,us,rfl,d2,u⟩:=u.inv_cons;have:=u.inv_nil;subst this;have d3:f1=#[v,T]:=by apply kK;simpa using U
     subst d3;have b1:T=.func (.func g) #[] #[]:=by cases d2 with|fn _ _ vs J _=>
       have:vs=#[]:=by apply IH;simpa using J.symm
       subst this;rfl
     subst b1;by_cases Q:a=[]
     ·subst Q;have hh:h.set l (.arr 2 f2 ((kV []).map dZ) true)=h:=by
       obtain⟨g3,e⟩:=aF.1 B;refine kL fun i=>?_;rw[iZ];split;·rename_i E;subst E;rw[B];simp[kV]
       ·rfl
      have d1:∃p q,v=.slice p 0 q:=by cases K with
       |ownnil _ _ s=>exact⟨_,_,rfl⟩|own _ _ _ r s Z=>exact⟨_,_,rfl⟩
      obtain⟨p,q,rfl⟩:=d1;rw[hh];refine(W g (by simpa using M) p q w).mono fun e y I=>?_;obtain⟨rfl,rfl⟩:=I;exact⟨_,C,rfl,.refl C,H,.tup [] #[] rfl (fun i c v h=>by simp at h),.refl _ _⟩
     have h0:0<a.length:=zH.2 Q;generalize N:a.length=n at K;cases K with
     |ownnil _ _ s=>omega|own _ _ _ r s Z=>
      obtain⟨q1,q2⟩:=yS4 H B s;have A:=X g (by simpa using M) r.block 0 r.cap a.toArray w q1 q2 (by unfold big at Y;simp;omega);rw[List.size_toArray,N]at A;refine A.mono fun e y I=>?_;obtain⟨rfl,k,e3,D,O,J,rfl⟩:=I;have S:k.size=a.length:=by rw[O.1];simp
      have a1:k.toList=kV a:=by
       refine ya8 a3 ?_ ?_
       ·have:=O.2.2;rw[<-N]at this;rw[show k.extract 0 a.length=k by rw[<-S];exact Array.extract_size]at this;have E:a.toArray.extract 0 a.length=a.toArray:=by simp
        rw[E]at this;simpa using this
       ·rw[List.pairwise_iff_getElem];intro i j b2 c2 c1;have b3:i<k.size:=by simpa using b2
        have c3:j<k.size:=by simpa using c2
        have:=J i j (lD _) c1 (by omega);rw[kO k j c3,kO k i b3,ltP]at this;rw[RE,Array.getElem_toList,Array.getElem_toList];simp only[Go.Sort.ltStr,IV]at this;exact List.not_lt.1 this
      have a2:k=(kV a).toArray:=by apply kK;simpa using a1
      subst a2;obtain⟨t1,t2⟩:=zg3 H (rows':=(kV a).map dZ) (F:=Go.Sort.flatK gW 2 (kV a).toArray) B s (by simpa using S) (fun x hx=>by obtain⟨i1,_,rfl⟩:=jE.1 hx;rfl) (by rw[XZ];exact zU5 _) (by rw[XZ];exact xf3 _) (w':=Go.Proofs.sortWorldK gW 2 w r.block 0 e3 (kV a).toArray D) rfl rfl rfl (os:=D) rfl;exact⟨_,C,rfl,.refl C,t1,.tup [] #[] rfl (fun i c v h=>by simp at h),t2⟩
    ·cases o
   ·cases o
  ·cases o
 ·cases o
def wX(p:PD):AV×AV:=(.str p.1,.str p.2)
def JT:List (AV×AV)->Option (List PD)
 |[]=>some []|(.str p,.str d)::r=>(JT r).map ((p,d)::·)|_=>none
theorem zs7:∀{c:List (AV×AV)}{a:List PD},JT c=some a->c=a.map wX
 |[],a,h=>by simp[JT]at h;subst h;rfl|r::j,a,h=>by
  unfold JT at h;split at h;·rename_i e;cases e
  ·rename_i p d i e;cases e;simp only[bS]at h;obtain⟨g,f,rfl⟩:=h;rw[zs7 f];rfl
  ·cases h
def pick(a:List PD)(b:Bs->Bool)(seen:List Nat):List PD:=(seen.filterMap fun i=>a[i]?).filter fun p=>b p.1
theorem xj0{a:List PD}{b:Bs->Bool}{seen:List Nat}{i:Nat}{p:PD}(h:a[i]?=some p):pick a b (seen++[i])=pick a b seen++(if b p.1 then[p]else[]):=by simp only[pick,List.filterMap_append,List.filter_append,List.filterMap_cons,h,List.filterMap_nil,IL,List.filter_nil]
theorem xk3(a:List PD):(List.range a.length).filterMap (fun i=>a[i]?)=a:=by
 apply kL;intro i;induction a generalizing i with
 |nil=>simp|cons x r c=>
  rw[jA,List.range_succ_eq_map,List.filterMap_cons];simp only[wL,List.filterMap_map];cases i with
  |zero=>rfl|succ i=>
   rw[oG,oG,<-c i];congr 1
theorem xi9{c:List PD}{b:Bs->Bool}{seen:List Nat}(e:seen.Nodup)(g:∀i∈seen,i<c.length)(d:∀i,i<c.length->i∈seen):(pick c b seen).Perm (c.filter fun p=>b p.1):=by
 have f:seen.Perm (List.range c.length):=(List.perm_ext_iff_of_nodup e List.nodup_range).2 fun a=>⟨fun h=>jF.2 (g a h),fun h=>d a (jF.1 h)⟩;have:=(f.filterMap fun i=>c[i]?).filter fun p=>b p.1;rw[xk3]at this;exact this
def left(n:Nat)(seen:List Nat):List Nat:=(List.range n).filter fun i=>!seen.contains i
theorem zK4{n:Nat}{seen:List Nat}(h:left n seen=[]):∀i,i<n->i∈seen:=by
 intro i a;have:=List.filter_eq_nil_iff.1 h i (jF.2 a);simpa using this
theorem zK3{n:Nat}{seen:List Nat}{i:Nat}:i∈left n seen↔i<n/\i∉seen:=by simp[left]
theorem zK5{n:Nat}{seen:List Nat}{i:Nat}(a:i∈left n seen):(left n (seen++[i])).length<(left n seen).length:=by
 have e:left n (seen++[i])=(left n seen).filter fun k=>k !=i:=by
  simp only[left,List.filter_filter];refine List.filter_congr fun k _=>?_;by_cases h:k=i;·subst h;simp
  ·simp[h]
 rw[e];exact List.length_filter_lt_length_iff_exists.2 ⟨i,a,by simp⟩
theorem yE3{l:List PD}{p:PD->Bool}(h:lP l=true):lP (l.filter p)=true:=by
 rw[JZ]at*;exact h.filter p
def DW:List (List AV)->Option (List Bs)
 |[]=>some []|[.str s]::r=>(DW r).map (s::·)|_=>none
def EC(a:List Bs):List (List AV):=a.map fun s=>[.str s]
theorem zt7:∀{c:List (List AV)}{a:List Bs},DW c=some a->c=EC a
 |[],a,h=>by simp[DW]at h;subst h;rfl|r::f,a,h=>by
  unfold DW at h;split at h;·rename_i e;cases e
  ·rename_i s g e;cases e;simp only[bS]at h;obtain⟨i,d,rfl⟩:=h;rw[zt7 d];rfl
  ·cases h
theorem zu7{a:List Bs}{i:Nat}{s:Bs}(h:a[i]?=some s):(EC a)[i]?=some [.str s]:=by simp[EC,h]
@[simp]theorem xM5{a:List Bs}:(EC a).length=a.length:=by simp[EC]
def idxFrom{a:Type}[DecidableEq a](x:a)(i:Nat):List a->Int
 |[]=>-1|y::r=>if x=y then i else idxFrom x (i+1) r
def yG:List AV->Option AV
 |[.sl a,.str s]=>match DW a with
  |some x=>if x.length<=big then some (.n (idxFrom s 0 x))else none|none=>none
 |_=>none
theorem zH6(G:Gam)(r:AV)(a:List Bs)(s:Bs)(k:a.length<=big):∀(d:List Bs)(i:Nat),a.drop i=d->i+d.length=a.length->r=.n (idxFrom s i d)->cY G [5] Mc.cn_L0 0 [.blk 0,.seq (.seq (.reg [Kc 4 (-1)]) .ret)] (aJ Rs.cn r) [(0,.sl (EC a)),(1,.str s),(4,.n 0),(5,.junk),(7,.n a.length),(8,.n i)] []
 |[],i,j,f,c=>by
  refine bQ (Mc.cn_L0.eq_1) ?_;simp at f;simp[idxFrom]at c;subst c;simp[aY,trunc,cQ,low,bG,bY,jJ,f,aJ,Rs.cn,cZ,eR,fA,view]|x::d,i,j,f,c=>by
  refine bQ (Mc.cn_L0.eq_1) ?_;simp at f;have o:(i:Int)<a.length:=by omega
  have p:a[i]?=some x:=by have:=congrArg (·[0]?) j;simpa using this
  have u:a.drop (i+1)=d:=by rw[<-List.drop_drop,j];rfl
  have q:IntKind.i64.wrap ((i:Int)+1)=((i+1:Nat):Int):=by unfold big at k;rw[i64_in _ (by omega)];rfl
  by_cases e:s=x
  ·have g:(s==x)=true:=by simp[e]
   simp only[idxFrom,if_pos e]at c;subst c;simp[aY,trunc,cQ,low,bG,bY,jJ,o,EO (zu7 p),cut,eC,g,aJ,Rs.cn,cZ,eR,fA,view]
  ·have g:(s==x)=false:=by simp[e]
   simp only[idxFrom,if_neg e]at c;simp[aY,trunc,cQ,low,bG,bY,jJ,o,EO (zu7 p),cut,eC,g,q];refine dT ?_;have v:=zH6 G r a s k d (i+1) u (by omega) c;simpa[aY,trunc,cQ,low,bG,gR]using v
theorem yT4(G:Gam)(c:List AV)(r:AV)(h:yG c=some r):wpM G Mc.cn (aJ Rs.cn r) [] (aC Ks.cn c) []:=by
 unfold yG at h;split at h
 ·rename_i a s;split at h
  ·rename_i d e;have:=zt7 e;subst this;split at h
   ·rename_i f;injection h with h;rw[aT];have g:=zH6 G r d s f d 0 rfl (by simp) h.symm;simpa[Mc.cn,aC,Ks.cn,aW]using g
   ·cases h
  ·cases h
 ·cases h
def uA:List AV->Option AV
 |[.sl a,.str s]=>match DW a with
  |some x=>if x.length<=big then some (.bool (!ltB (idxFrom s 0 x) 0))else none|none=>none
 |_=>none
theorem yz3(G:Gam)(f:G Fn.cn=some (.pure yG))(c:List AV)(r:AV)(h:uA c=some r):wpM G Mc.cw (aJ Rs.cw r) [] (aC Ks.cw c) []:=by
 unfold uA at h;split at h
 ·rename_i a s;split at h
  ·rename_i j e;split at h
   ·rename_i g;injection h with h;subst h;have i:∀d h,opV G d h (.call Fn.cn) (some [.sl a,.str s])=some (.n (idxFrom s 0 j),h):=fun d h=>cU f rfl (by simp[yG,e,g]) (.inl rfl);rw[aT];simp[Mc.cw,aC,Ks.cw,i,aJ,Rs.cw,cZ,eR,fA,view]
   ·cases h
  ·cases h
 ·cases h
theorem zb6{P:Program}{d:Gv}{f:FuncId}{F c:List AV->Option AV}(h:dP P d f F)(j:∀a r,c a=some r->F a=some r):dP P d f c:=fun I w a r o g i k e=>h I w a r o g i k (j a r e)
def at1(G:Gam)(f:FuncId)(a:List AV):Option AV:=match G f with
 |some (.pure F)=>F a|_=>none
def mI(c:List AV)(d:AV):List AV->Option AV:=fun a=>if pO a c then some d else none
theorem tT{P:Program}{d:Gv}{G:Gam}(i:GamOK P d G){f:FuncId}{c:List AV}{e:AV}(h:at1 G f c=some e):dP P d f (mI c e):=by
 unfold at1 at h;split at h
 ·rename_i F g;exact zb6 (i.ok f _ g) fun k o a=>by
   unfold mI at a;split at a
   ·rename_i j;injection a with a;subst a;rw[uQ _ _ j];exact h
   ·cases a
 ·cases h
def yW(F c:List AV->Option AV):List AV->Option AV:=fun a=>match F a with
 |some r=>some r|none=>c a
theorem LX{P:Program}{c:Gv}{f:FuncId}{F d:List AV->Option AV}(h:dP P c f F)(o:dP P c f d):dP P c f (yW F d):=fun I w e r k g i j a=>by
 unfold yW at a;split at a
 ·rename_i q p;injection a with a;subst a;exact h I w e _ k g i j p
 ·exact o I w e r k g i j a
def Ks.az:List Nat:=[0,1,4,5,6,7,12]
def Rs.az:List RV:=[.tmp 4]
def Dl.az:List (List Nat):=[[6,7]]
def Mc.az_L0:MC:=.seq (.rgn (.t 12) (some 13) false [ze 14 0 13]) (.seq (.ite (.t 14) .skip (.exit 0)) (.blk 1 (.s [iz 15 .ent [.t 12],ze 16 0 15,ze 17 1 15,zM 6 16,zM 7 17] (.s [zm 18 1,zm 19 6,Zv 20 [.t 18,.t 19]] (.ite (.t 20) (.reg [zm 21 5,zm 22 6,zm 23 7,iz 24 (.bld [.str [],.str []] [(0,1),(1,1)]) [.t 22,.t 23],Zb 25 2 [.t 24],Zs 26 2 32 21 25,zM 5 26]) .skip)))))
def Mc.az:MC:=.s [kz 4 (.newnil 2) []] (.s [kz 5 (.newnil 2) []] (.seq (.s [zm 8 0,Zk 9 8,zf 10 1 9,zl 11 10,kz 12 .rngm [.t 11]] (.blk 0 (.loop [6,7] Mc.az_L0))) (.s [zm 27 5,zg 28 Fn.df [.t 27,.c (.fn Fn.dj [])]] (.r [zm 29 5,zM 4 29]))))
def Ks.bw:List Nat:=[0,1,4]
def Rs.bw:List RV:=[.tmp 4]
def Dl.bw:List (List Nat):=[]
def Mc.bw:MC:=.s [Kb 4 false] (.d [zm 5 1,zm 6 0,Zk 7 6,zf 8 0 7,zl 9 8,zm 10 0,Zk 11 10,zf 12 4 11,zl 13 12,zi 14 4 9 13,zf 15 0 14,zl 16 15,iz 17 (.bin .add) [.t 16,.c (.str [47])],zg 18 Fn.c9 [.t 5,.t 17],zm 19 18,Gm 19 false 20 0,Gk 19 false 21 20,Gf 19 false 22 2 21,Gl 19 false 23 22,Gm 19 false 24 1,Gg 19 false 25 Fn.cw [.t 23,.t 24],Zp 26 19 25,zM 4 26] .ret)
def Ks.cc:List Nat:=[2]
def Rs.cc:List RV:=[.tmp 2]
def Dl.cc:List (List Nat):=[]
def Mc.cc:MC:=.s [Kb 2 false] (.r [Kb 2 true])
theorem jY{h t:aA}{l:Nat}{b:Blk}(a:h[l]?=some b):(h++t)[l]?=some b:=by rw[aX (aF.1 a).1];exact a
theorem KV{g:Nat}{e:Bool}{h t:aA}{a v:AV}(c:aB g e h a=some v):aB g e (h++t) a=some v:=by cases a with
 |ptr l f=>
  simp only[aB]at c⊢;split at c;·rename_i s d;rw[jY d];exact c
  ·cases c|eptr l q i f=>
  simp only[aB]at c⊢;split at c;·rename_i j tg p r o u d;rw[jY d];exact c
  ·cases c|fptr k f=>exact c|_=>simp[aB]at c
theorem yS6{c:Nat}{h t:aA}{x i v:AV}(a:bN c h x i=some v):bN c (h++t) x i=some v:=by
 unfold bN at a⊢;split at a;·exact a
 ·exact a
 ·split at a;·rename_i d;rw[jY d];exact a
  ·cases a
 ·cases a
theorem xo0{h t:aA}{x:AV}{c:List (List AV)}(a:rowsOf h x=some c):rowsOf (h++t) x=some c:=by
 unfold rowsOf at a⊢;split at a;·exact a
 ·exact a
 ·exact a
 ·split at a;·rename_i d;rw[jY d];exact a
  ·cases a
 ·cases a
theorem zG4{d:Nat}{h:aA}{x i e:AV}(a:bN d h x i=some e):(∃c,e=.fptr c 0)\/∃l v j,e=.eptr l v j 0:=by
 unfold bN at a;split at a
 ·split at a
  ·split at a
   ·split at a;·injection a with a;exact .inl ⟨_,a.symm⟩
    ·cases a
   ·cases a
  ·cases a
 ·split at a
  ·split at a
   ·split at a;·injection a with a;exact .inl ⟨_,a.symm⟩
    ·cases a
   ·cases a
  ·cases a
 ·split at a
  ·split at a
   ·split at a
    ·split at a;·injection a with a;exact .inr ⟨_,_,_,a.symm⟩
     ·cases a
    ·cases a
   ·cases a
  ·cases a
 ·cases a
def BE(h:aA)(x:AV):Option (List (List AV)):=match x with
 |.sl a=>some a|.tsl a=>some a|.nils=>some []|.own l v n=>rowsOf h (.own l v n)|_=>none
theorem xr1{h:aA}{x:AV}{c:List (List AV)}(a:BE h x=some c):view h x=some (.sl c):=by
 unfold BE at a;split at a;·injection a with a;subst a;rfl
 ·injection a with a;subst a;rfl
 ·injection a with a;subst a;rfl
 ·simp[view,a]
 ·cases a
theorem xr0{h t:aA}{x:AV}{c:List (List AV)}(a:BE h x=some c):BE (h++t) x=some c:=by
 unfold BE at a⊢;split at a;·exact a
 ·exact a
 ·exact a
 ·exact xo0 a
 ·cases a
def oD:List AV->aA->Option AV
 |[.ptr l 0,.str s],h=>match aB 1 false h (.ptr l 0),aB 1 false h (.ptr l 4),aB 1 false h (.ptr l 2)with
  |some f,some (.n a),some d=>(match bN 4 h f (.n a),BE h d with
   |some e,some g=>(match aB 1 false h e,uA [.sl g,.str s]with
    |some (.str nm),some (.bool c)=>if nm.length+1<=rZ then some (.bool (Lib.hasPrefix s (nm++[47])||c))else none|_,_=>none)|_,_=>none)|_,_,_=>none
 |_,_=>none
theorem zj8{j:List AV}{h:aA}{r:AV}(d:oD j h=some r):∃l s g a f e i nm c,j=[.ptr l 0,.str s]/\aB 1 false h (.ptr l 0)=some g/\aB 1 false h (.ptr l 4)=some (.n a)/\aB 1 false h (.ptr l 2)=some f/\bN 4 h g (.n a)=some e/\BE h f=some i/\aB 1 false h e=some (.str nm)/\uA [.sl i,.str s]=some (.bool c)/\nm.length+1<=rZ/\r=.bool (Lib.hasPrefix s (nm++[47])||c):=by
 unfold oD at d;split at d
 ·rename_i l s;split at d
  ·rename_i g a f k o p;split at d
   ·rename_i e i h4 h5;split at d
    ·rename_i nm c q u;split at d
     ·rename_i v;injection d with d;exact⟨l,s,g,a,f,e,i,nm,c,rfl,k,o,p,h4,h5,q,u,v,d.symm⟩
     ·cases d
    ·cases d
   ·cases d
  ·cases d
 ·cases d
theorem yk5{d:List AV}{h t:aA}{r:AV}(p:oD d h=some r):oD d (h++t)=some r:=by
 obtain⟨l,s,u,a,q,e,v,nm,c,rfl,f,g,i,h4,h5,j,k,o,rfl⟩:=zj8 p;simp only[oD,KV f,KV g,KV i,yS6 h4,xr0 h5,KV j,k];rw[if_pos o]
@[simp]theorem xU5{G:Gam}{s:Bool}{h:aA}{l a:Nat}:opV G s h .nilck (some [.ptr l a])=some (.ptr l a,h):=by rw[bW rfl];rfl
theorem xF4{G:Gam}(B:G Fn.c9=some (.pure qR))(A:G Fn.cw=some (.pure uA)):LW G Mc.bw Rs.bw Ks.bw oD:=by
 intro F h r z;obtain⟨l,s,I,a,C,e,E,nm,c,rfl,i,o,w,h4,h5,p,y,g,rfl⟩:=zj8 z;have f:∀d,opV G d h (.call Fn.c9) (some [.str s,.str (nm++[47])])=some (.bool (Lib.hasPrefix s (nm++[47])),h):=fun d=>cU B (us:=[.str s,.str (nm++[47])]) rfl rfl (.inl rfl);have u:∀d,opV G d h (.call Fn.cw) (some [C,.str s])=some (.bool c,h):=fun d=>cU A (us:=[.sl E,.str s]) (by simp[cV,xr1 h5,view]) y (.inl rfl);have H:nm.length+[(47:UInt8)].length<=rZ:=g;rw[aT];cases q:Lib.hasPrefix s (nm++[47])with
 |true=>
  rw[q]at f;rcases zG4 h4 with⟨D,rfl⟩|⟨k,v,j,rfl⟩<;>simp[Mc.bw,aC,Ks.bw,i,o,h4,p,g,f,eQ,Rs.bw,-aB]|false=>
  rw[q]at f;rcases zG4 h4 with⟨D,rfl⟩|⟨k,v,j,rfl⟩<;>simp[Mc.bw,aC,Ks.bw,i,o,w,h4,p,g,f,u,eQ,Rs.bw,-aB]
def kT(d c:FuncId)(h:aA)(a:AV)(s:Bs):Option Bool:=match a with
 |.fn f []=>if f=c then some true else none|.mth f x=>if f=d then(match oD [x,.str s] h with
  |some (.bool b)=>some b|_=>none)else none|_=>none
def CX:List AV->Option AV
 |[.str _]=>some (.T)|_=>none
def AH(h:aA)(m n:Nat)(ts:List PD)(seen:List Nat)(x:aA):aA:=h++(.arr 2 0 [] true::.arr 2 ts.length (ts.map dZ) true::.mit (some m) n seen n::x)
section
variable{h x:aA}{m n l:Nat}{ts:List PD}{seen:List Nat}{t:PD}{b:Blk}
theorem zh1(a:h[l]?=some b):(AH h m n ts seen x)[l]?=some b:=jY a
theorem yh0:(AH h m n ts seen x)[h.length+1]?=some (.arr 2 ts.length (ts.map dZ) true):=by unfold AH;rw[dY (by simp)];simp
theorem zh2:(AH h m n ts seen x)[h.length+2]?=some (.mit (some m) n seen n):=by unfold AH;rw[dY (by simp)];simp
theorem yh2{a:List Nat}:(AH h m n ts seen x).set (h.length+2) (.mit (some m) n a n)=AH h m n ts a x:=by unfold AH;rw[gK _ _ (by simp)];simp
theorem yg9:(AH h m n ts seen x).set (h.length+1) (.arr 2 (ts++[t]).length ((ts++[t]).map dZ) true)=AH h m n (ts++[t]) seen x:=by unfold AH;rw[gK _ _ (by simp)];simp
theorem NM{a:List (Nat×AV)}(d:bG h.length h=true)(f:m<h.length)(c:cQ (h.length+3) a=true):trunc (h.length+3) a (AH h m n ts seen x)=AH h m n ts seen []:=by
 have e:AH h m n ts seen x=AH h m n ts seen []++x:=by simp[AH]
 rw[e];refine yE (by simp[AH]) c ?_;unfold AH;refine xH (AJ (by omega) d) ?_;simp[bG,gR];omega
theorem zh3{a:List (AV×AV)}(d:h[m]?=some (.map a))(e:a.length=n):iG (AH h m n ts seen x) (h.length+2)=(match left n seen with
  |[]=>some [(.tup [.F],(AH h m n ts seen x).set (h.length+2) .dead)]|i::f=>some ((i::f).map fun i=>(.tup [.T,(a[i]?.getD (.junk,.junk)).1,(a[i]?.getD (.junk,.junk)).2],AH h m n ts (seen++[i]) x))):=by
 unfold iG;rw[zh2];simp only[zh1 d,e,and_self,aM,left];split<;>rename_i c;·rw[c]
 ·rw[c];simp only[yh2]
end
def CC(e d:FuncId):List AV->aA->Option (AV×aA)
 |[.ptr l 0,c],h=>match aB 1 false h (.ptr l 1)with
  |some (.map m)=>(match h[m]? with
   |some (.map f)=>(match JT f with
    |some a=>if(a.all fun p=>(kT e d h c p.1).isSome)=true/\lP a=true/\a.length<=1000/\(a.filter fun p=>kT e d h c p.1==some true)≠[]then some (.sl ((kV (a.filter fun p=>kT e d h c p.1==some true)).map dZ),h)else none|none=>none)|_=>none)|_=>none
 |_,_=>none
theorem zL0{G:Gam}{g e:FuncId}(j:G g=some (.gen (bO oD)))(i:G e=some (.pure CX)){h t:aA}{d:AV}{s:Bs}{b:Bool}(a:kT g e h d s=some b):opV G false (h++t) .callv (some [d,.str s])=some (.bool b,h++t):=by
 unfold kT at a;split at a
 ·rename_i f;split at a
  ·rename_i c;subst c;injection a with a;subst a;rw[xg0];exact WR i (us:=[.str s]) rfl rfl rfl
  ·cases a
 ·rename_i f x;split at a
  ·rename_i c;subst c;split at a
   ·rename_i o k;injection a with a;subst a;have:opV G false (h++t) .callv (some [.mth f x,.str s])=dE G f [x,.str s] (h++t):=by rw[fG rfl];rfl
    rw[this,mA j];simp only[bO,yk5 k,dI]
   ·cases a
  ·cases a
 ·cases a
theorem xH1{G:Gam}:PW G Mc.cc Rs.cc Ks.cc CX:=by
 intro c r a;unfold CX at a;split at a
 ·injection a with a;subst a;rw[aT];simp[Mc.cc,Ks.cc,aC,aJ,Rs.cc]
 ·cases a
def zf9:MC:=.s [zm 27 5,zg 28 Fn.df [.t 27,.c (.fn Fn.dj [])]] (.r [zm 29 5,zM 4 29])
section
variable{G:Gam}{h:aA}{m n:Nat}{ts:List PD}{seen:List Nat}
def AD(h:aA)(ts:List PD):aA:=h++[.arr 2 0 [] true,.arr 2 ts.length (ts.map dZ) true,.dead]
theorem yh1:(AH h m n ts seen []).set (h.length+2) .dead=AD h ts:=by unfold AH AD;rw[gK _ _ (by simp)];simp
theorem yg7:(AD h ts)[h.length+1]?=some (.arr 2 ts.length (ts.map dZ) true):=by unfold AD;rw[dY (by simp)];simp
theorem yg8{b:Blk}:(AD h ts).set (h.length+1) b=h++[.arr 2 0 [] true,b,.dead]:=by unfold AD;rw[gK _ _ (by simp)];simp
theorem yH1{c:List (AV×AV)}{i:Nat}{a b:AV}(e:h[m]?=some (.map c))(f:c.length=n)(d:c[i]?=some (a,b)):rG (AH h m n ts (seen++[i]) []) (h.length+2)=some (.tup [a,b]):=by
 unfold rG;rw[zh2];simp[zh1 e,f,d]
end
@[simp]theorem xT0{G:Gam}{s:Bool}{h:aA}{l:Nat}:opV G s h .ent (some [.ptr l 0])=(rG h l).map fun v=>(v,h):=by rw[bW rfl];rfl
theorem yo6{h:aA}{a c:Blk}{f:Nat}{d:List (List AV)}{n:Nat}(g:n=d.length):frz (h++[a,.arr 2 f d true,c]) (.own (h.length+1) f n)=some (.sl d,h++[a,.arr 2 f d false,c]):=by
 have e:(h++[a,Blk.arr 2 f d true,c])[h.length+1]?=some (.arr 2 f d true):=by rw[dY (by simp)];simp
 subst g;simp[frz,view,rowsOf,owns,dC,jX]
theorem zn9{G:Gam}{e:List FuncId}(s:G Fn.df=some (.gen (vZ e)))(z:e.contains Fn.dj=true){h:aA}{l m:Nat}{c:AV}{a:List PD}{q:Bs->Bool}{ts:List PD}{seen:List Nat}(k:bG h.length h=true)(B:m<h.length)(y:cQ (h.length+3) [(0,AV.ptr l 0),(1,c),(4,.own h.length 0 0),(5,.own (h.length+1) ts.length ts.length),(6,.junk),(7,.junk),(12,.ptr (h.length+2) 0)]=true)(A:h[m]?=some (.map (a.map wX)))(f:left a.length seen=[])(C:seen.Nodup)(E:∀i∈seen,i<a.length)(F:ts=pick a q seen)(v:lP a=true)(H:a.length<=1000)(_hne:(a.filter fun p=>q p.1)≠[]):cY G [6,7] Mc.az_L0 (h.length+3) [.blk 0,.seq zf9] (jM h.length Rs.az (.sl ((kV (a.filter fun p=>q p.1)).map dZ)) h) [(0,.ptr l 0),(1,c),(4,.own h.length 0 0),(5,.own (h.length+1) ts.length ts.length),(6,.junk),(7,.junk),(12,.ptr (h.length+2) 0)] (AH h m a.length ts seen []):=by
 have d:ts.Perm (a.filter fun p=>q p.1):=by rw[F];exact xi9 C E (zK4 f)
 have j:lP (a.filter fun p=>q p.1)=true:=yE3 v;have w:lP ts=true:=yE2 d.symm j;have o:kV ts=kV (a.filter fun p=>q p.1):=ya8 j ((MZ ts).trans d) (ze5 ts);have I:ts.length<=a.length:=by rw[d.length_eq];exact zG _ _
 have u:ts.length<=big:=by unfold big;omega
 have g:opV G false (AD h ts) (.call Fn.df) (some [.own (h.length+1) ts.length ts.length,.fn Fn.dj []])=some (.tup [],h++[.arr 2 0 [] true,.arr 2 ts.length ((kV ts).map dZ) true,.dead]):=by
  rw[dV s];unfold vZ;simp only[yg7,PM,w];rw[if_pos ⟨z,trivial,trivial,u,trivial⟩,yg8]
 rw[o]at g;refine bQ (Mc.az_L0.eq_1) ?_;rw[show aY [6,7] [(0,AV.ptr l 0),(1,c),(4,.own h.length 0 0),(5,.own (h.length+1) ts.length ts.length),(6,.junk),(7,.junk),(12,.ptr (h.length+2) 0)]=[(0,AV.ptr l 0),(1,c),(4,.own h.length 0 0),(5,.own (h.length+1) ts.length ts.length),(6,.junk),(7,.junk),(12,.ptr (h.length+2) 0)]from rfl,NM k B y];rw[EM,EL];show uP G (some 13) false _ _ _ _ (iG (AH h m a.length ts seen []) (h.length+2));rw[zh3 A (by simp),f];intro r D;rcases gU.1 D with rfl;rw[yh1];simp[zf9,g,jM,OG,Rs.az];refine⟨_,yo6 (by rw[<-o,kG,(MZ ts).length_eq]),KU,k⟩
theorem yo5(G:Gam){g f:FuncId}{K:List FuncId}(P:G g=some (.gen (bO oD)))(M:G f=some (.pure CX))(O:G Fn.df=some (.gen (vZ K)))(U:K.contains Fn.dj=true){h:aA}{l m:Nat}{e:AV}{d:List PD}(hl:l<h.length)(v:bG h.length h=true)(b2:low h.length e=true)(w:h[m]?=some (.map (d.map wX)))(V:d.length<=1000)(S:lP d=true)(a2:∀p∈d,kT g f h e p.1=some (kT g f h e p.1==some true))(X:(d.filter fun p=>kT g f h e p.1==some true)≠[]):∀(N:Nat)(seen:List Nat)(ts:List PD),(left d.length seen).length<=N->seen.Nodup->(∀i∈seen,i<d.length)->ts=pick d (fun s=>kT g f h e s==some true) seen->cY G [6,7] Mc.az_L0 (h.length+3) [.blk 0,.seq zf9] (jM h.length Rs.az (.sl ((kV (d.filter fun p=>kT g f h e p.1==some true)).map dZ)) h) [(0,.ptr l 0),(1,e),(4,.own h.length 0 0),(5,.own (h.length+1) ts.length ts.length),(6,.junk),(7,.junk),(12,.ptr (h.length+2) 0)] (AH h m d.length ts seen []):=by
 intro N;have y:m<h.length:=(aF.1 w).1;have b3:low (h.length+3) e=true:=AM (by omega) b2;have u:∀ts:List PD,cQ (h.length+3) [(0,AV.ptr l 0),(1,e),(4,.own h.length 0 0),(5,.own (h.length+1) ts.length ts.length),(6,.junk),(7,.junk),(12,.ptr (h.length+2) 0)]=true:=fun ts=>by simp[cQ,low,b3];omega
 induction N with
 |zero=>
  intro seen ts hN z B D;have r:left d.length seen=[]:=uL (by omega);exact zn9 (q:=fun s=>kT g f h e s==some true) O U v y (u ts) w r z B D S V X|succ N Z=>
  intro seen ts hN z B D;cases r:left d.length seen with
  |nil=>exact zn9 (q:=fun s=>kT g f h e s==some true) O U v y (u ts) w r z B D S V X|cons i0 d1=>
   refine bQ (Mc.az_L0.eq_1) ?_;rw[show aY [6,7] [(0,AV.ptr l 0),(1,e),(4,.own h.length 0 0),(5,.own (h.length+1) ts.length ts.length),(6,.junk),(7,.junk),(12,.ptr (h.length+2) 0)]=[(0,AV.ptr l 0),(1,e),(4,.own h.length 0 0),(5,.own (h.length+1) ts.length ts.length),(6,.junk),(7,.junk),(12,.ptr (h.length+2) 0)]from rfl,NM v y (u ts)];rw[EM,EL];show uP G (some 13) false _ _ _ _ (iG (AH h m d.length ts seen []) (h.length+2));rw[zh3 w (by simp),r];intro d2 hr;obtain⟨i,I,rfl⟩:=jE.1 hr;rw[<-r]at I;obtain⟨J,b1⟩:=zK3.1 I;have A:d[i]?=some d[i]:=gI J;generalize c1:d[i]=p at A;have c2:p∈d:=by rw[<-c1];exact IQ J
   have a3:(d.map wX)[i]?=some (.str p.1,.str p.2):=by simp[A,wX]
   have T:rG (AH h m d.length ts (seen++[i]) []) (h.length+2)=some (.tup [.str p.1,.str p.2]):=yH1 w (by simp) a3;have L:(left d.length (seen++[i])).length<=N:=by have:=zK5 I;omega
   have W:(seen++[i]).Nodup:=by rw[List.nodup_append];exact⟨z,by simp,fun a k b o=>by simp at o;subst o;exact fun a1=>b1 (a1▸k)⟩
   have Y:∀j∈seen++[i],j<d.length:=fun j q=>by
    rcases iK.1 q with q|q;·exact B j q
    ·simp at q;subst q;exact J
   have C:=xj0 (b:=fun s=>kT g f h e s==some true) (seen:=seen) A;rw[<-D]at C;have c3:ts.length<big:=by
    have:ts.length<=d.length:=by
     rw[D];unfold pick;refine oJ (zG _ _) ?_;refine oJ (List.length_filterMap_le _ _) ?_;have A:seen.Perm ((List.range d.length).filter fun i=>seen.contains i):=(List.perm_ext_iff_of_nodup z (List.nodup_range.filter _)).2 fun a=>by
      simp only[nG,jF,List.contains_iff_mem];exact⟨fun k=>⟨B a k,k⟩,fun k=>k.2⟩
     rw[A.length_eq];exact oJ (zG _ _) (by simp)
    unfold big;omega
   have E:=a2 p c2;cases o:(kT g f h e p.1==some true)with
   |true=>
    rw[o]at E;have H:opV G false (AH h m d.length ts (seen++[i]) []) .callv (some [e,.str p.1])=some (.T,AH h m d.length ts (seen++[i]) []):=zL0 P M E;have k:opV G false (AH h m d.length ts (seen++[i]) []) (.app false 2 32) (some [.own (h.length+1) ts.length ts.length,.tsl [[.str p.1,.str p.2]]])=some (.own (h.length+1) (ts++[p]).length (ts++[p]).length,AH h m d.length (ts++[p]) (seen++[i]) []):=by
     have:=tI (G:=G) (s:=false) (e:=dZ) (n:=2) (b:=32) (x:=p) (yh0 (h:=h) (m:=m) (n:=d.length) (ts:=ts) (seen:=seen++[i]) (x:=[])) rfl (by omega) c3;rw[yg9]at this;exact this
    rw[o,if_pos rfl]at C;have F:=Z (seen++[i]) (ts++[p]) L W Y C.symm;simp[T,H,k,cV,view,dH,nN,AV.cells,eB];refine dT ?_;rw[show∀a b c:AV,aY [6,7] [(0,AV.ptr l 0),(1,e),(4,.own h.length 0 0),(5,a),(6,b),(7,c),(12,.ptr (h.length+2) 0)]=[(0,AV.ptr l 0),(1,e),(4,.own h.length 0 0),(5,a),(6,.junk),(7,.junk),(12,.ptr (h.length+2) 0)]from fun _ _ _=>rfl];have Q:=NM (ts:=ts++[p]) (n:=d.length) (seen:=seen++[i]) (x:=[]) v y (u (ts++[p]));simp only[iS,jA,kN]at Q F;rw[Q];exact F|false=>
    rw[o]at E;have H:opV G false (AH h m d.length ts (seen++[i]) []) .callv (some [e,.str p.1])=some (.F,AH h m d.length ts (seen++[i]) []):=zL0 P M E;rw[o,if_neg (by simp),iR]at C;have F:=Z (seen++[i]) ts L W Y C.symm;simp[T,H];refine dT ?_;rw[show∀a b c:AV,aY [6,7] [(0,AV.ptr l 0),(1,e),(4,.own h.length 0 0),(5,a),(6,b),(7,c),(12,.ptr (h.length+2) 0)]=[(0,AV.ptr l 0),(1,e),(4,.own h.length 0 0),(5,a),(6,.junk),(7,.junk),(12,.ptr (h.length+2) 0)]from fun _ _ _=>rfl];rw[NM v y (u ts)];exact F
theorem zQ2{G:Gam}{h:aA}{m:Nat}{a:List (AV×AV)}(c:h[m]?=some (.map a)):opV G false h .rngm (some [.map m])=some (.ptr h.length 0,h++[.mit (some m) a.length [] a.length]):=by rw[fG rfl];simp[bC,c]
theorem zK2(n:Nat)(seen:List Nat):(left n seen).length<=n:=by unfold left;exact oJ (zG _ _) (by simp)
theorem yk3{f e:FuncId}{g:List AV}{h i:aA}{r:AV}(a:CC f e g h=some (r,i)):∃l c m d,g=[.ptr l 0,c]/\aB 1 false h (.ptr l 1)=some (.map m)/\h[m]?=some (.map (d.map wX))/\(∀p∈d,kT f e h c p.1=some (kT f e h c p.1==some true))/\lP d=true/\d.length<=1000/\(d.filter fun p=>kT f e h c p.1==some true)≠[]/\r=.sl ((kV (d.filter fun p=>kT f e h c p.1==some true)).map dZ)/\h=i:=by
 unfold CC at a;split at a
 ·rename_i l c;split at a
  ·rename_i m v;split at a
   ·rename_i C w;split at a
    ·rename_i d y;split at a
     ·rename_i z;obtain⟨j,k,o,q⟩:=z;injection a with a;injection a with s u;refine⟨l,c,m,d,rfl,v,by rw[w,zs7 y],fun p A=>?_,k,o,q,s.symm,u⟩;have:=fK.1 j p A;cases B:kT f e h c p.1 with
      |none=>rw[B]at this;cases this|some b=>cases b<;>rfl
     ·cases a
    ·cases a
   ·cases a
  ·cases a
 ·cases a
theorem yo7(G:Gam){j i:FuncId}{f:List FuncId}(A:G j=some (.gen (bO oD)))(y:G i=some (.pure CX))(z:G Fn.df=some (.gen (vZ f)))(B:f.contains Fn.dj=true):∀c h r d,bA h.length c=true->bG h.length h=true->CC j i c h=some (r,d)->wpM G Mc.az (jM h.length Rs.az r d) [] (aC Ks.az c) h:=by
 intro c h r d e E v;obtain⟨l,F,m,a,rfl,q,g,s,h4,h5,u,rfl,rfl⟩:=yk3 v;simp only[bA,low,bR,fD,and_true]at e;rw[aT];have k:aB 1 false (h++[.arr 2 0 [] true,.arr 2 0 [] true]) (.ptr l 1)=some (.map m):=KV q;have D:(h++[Blk.arr 2 0 [] true,Blk.arr 2 0 [] true]++[Blk.mit (some m) (a.map wX).length [] (a.map wX).length])=AH h m a.length [] [] []:=by simp[AH]
 have o:opV G false (h++[.arr 2 0 [] true,.arr 2 0 [] true]) .rngm (some [.map m])=some (.ptr (h.length+2) 0,AH h m a.length [] [] []):=by rw[zQ2 (jY g),D];simp
 have p:(AH h m a.length [] [] []).length=h.length+3:=by simp[AH]
 have w:=yo5 G A y z B e.1 E e.2 g h5 h4 s u a.length [] [] (zK2 _ _) List.nodup_nil (fun _ C=>by cases C) rfl;simp[Mc.az,aC,Ks.az,k,o,p,-aB];exact w
end Go.Proofs.YtpefhfiehfkocaaGreatDoor
