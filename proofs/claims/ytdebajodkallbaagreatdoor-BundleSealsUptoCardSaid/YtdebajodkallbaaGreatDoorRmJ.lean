/- strings -/
import Derived.Sort.Walk0
import Derived.Test.YtdebajodkallbaaGreatDoorAm11
import Derived.Test.YtdebajodkallbaaGreatDoorRmI
namespace Go.Proofs.YtdebajodkallbaaGreatDoor
open Go.RowKit Go.IntWalk
def rH(b:List TypeId):List AV->aA->Option (AV×aA)
 |[.ptr l 0],h=>match h[l]? with
  |some (.cellsT (some T) [.nilp,x])=>if b.contains T then some (.tup [],h.set l (.cellsT (some T) [.ptr l 0,x]))else none|some (.cellsT _ [.ptr a 0,_])=>if a=l then some (.tup [],h)else none|_=>none
 |_,_=>none
theorem ys5{P:Program}{K:Gv}{f:FuncId}{E:List TypeId}(O:∀T∈E,∀(b:Nat)(w:World),w.cell? ⟨b,0,none⟩=some (.pointer none)->w.shape? b=some (T,2)->w.frozen? ⟨b,0,none⟩=false->Calls P f #[.pointer (some ⟨b,0,none⟩)] w fun e p=>e=.returned (.tuple #[])/\p=w.setCell ⟨b,0,none⟩ (.pointer (some ⟨b,0,none⟩)))(n:∀(b:Nat)(w:World),w.cell? ⟨b,0,none⟩=some (.pointer (some ⟨b,0,none⟩))->Calls P f #[.pointer (some ⟨b,0,none⟩)] w fun e p=>e=.returned (.tuple #[])/\p=w):fA P K f (rH E):=by
 intro B C c1 w G c3 h' a2 c2 g u a;unfold rH at a;split at a
 ·rename_i G l;obtain⟨v1,d3,H,L,u⟩:=u.inv_cons;have:=u.inv_nil;subst this;cases L with|ptr _ _ b j=>
  have x:a2=#[.pointer (some ⟨b,0,none⟩)]:=by apply kP;simpa using H
  subst x;split at a
  ·rename_i T b3 r;split at a
   ·rename_i W;simp only[aT,dF]at a;obtain⟨rfl,rfl⟩:=a;obtain⟨h,A,e,k1,k2,k3,k4,k5,k6⟩:=g.ok l _ r;rw[j]at k1;injection k1 with k1;subst k1;have N:=k6 T rfl;subst N;obtain⟨z,b1,s,y,D⟩:=k5.inv_cons;obtain⟨F,e2,J,r3,r4⟩:=D.inv_cons;have:=r4.inv_nil;subst this;subst J;have M:A=#[z,F]:=by apply kP;simpa using s
    subst M;cases y;refine(O _ (by simpa using W) b w (by rw[cell_of_heap k3];rfl) (by simp[World.shape?,k3]) (by simp[World.frozen?,k3])).mono fun I p d=>?_;obtain⟨rfl,rfl⟩:=d;refine⟨_,C,rfl,.refl C,?_,.tup _ _ rfl (fun i c v m=>by simp at m),(Keep.refl B w).setCell (p:=⟨b,0,none⟩) k2 _⟩;have U:(w.setCell ⟨b,0,none⟩ (.pointer (some ⟨b,0,none⟩))).heap[b]?=some (.cells #[.pointer (some ⟨b,0,none⟩),F] e (0,0)):=by simp[World.setCell,zY,k3]
    refine g.turn r (.refl C) (by simp[World.setCell]) (fun h t _=>⟨Below.heap_setCell w ⟨b,0,none⟩ _ h (fun e=>t (by simp[bJ,j];exact e.symm)),fun _=>rfl⟩) (fun h o d2 n=>?_) g.one ⟨b,_,e,j,k2,U,k4,?_,fun d1 V=>by injection V⟩ (fun h t=>.inl t) g.fr (fun k Z tg sz a3 a1 wr d v x=>?_)
    ·have S:h≠b:=fun e=>by subst e;rw[k4 o]at n;cases n
     have:=g.im _ _ _ n;have m:=Below.heap_setCell w ⟨b,0,none⟩ (.pointer (some ⟨b,0,none⟩)) h S;simp only[World.cell?]at this⊢;rw[m];exact this
    ·exact .cons (.ptr l 0 b j) (.cons r3 .nil)
    ·rw[iY]at d;split at d
     ·split at d;·cases d
      ·cases d
     ·exact g.fv k Z tg sz a3 a1 wr d v x
   ·cases a
  ·rename_i tg Y b3 r;split at a
   ·rename_i Q;subst Q;simp only[aT,dF]at a;obtain⟨rfl,rfl⟩:=a;obtain⟨h,A,e,k1,k2,k3,k4,k5,k6⟩:=g.ok Y _ r;rw[j]at k1;injection k1 with k1;subst k1;obtain⟨z,b1,s,y,D⟩:=k5.inv_cons;have X:z=.pointer (some ⟨b,0,none⟩):=by cases y with|ptr _ _ b2 q=>rw[j]at q;injection q with q;subst q;rfl
    subst X;refine(n b w (by rw[cell_of_heap k3,<-zZ,s];rfl)).mono fun I p d=>?_;obtain⟨rfl,rfl⟩:=d;exact⟨_,C,rfl,.refl C,g,.tup _ _ rfl (fun i c v m=>by simp at m),.refl _ _⟩
   ·cases a
  ·cases a
 ·cases a
theorem zh3{B:Base}{C:Cx}{h:aA}{w j:World}(c:Inv B C h w){rows:List (List AV)}{d:Array Value}{e:TypeId}{size a g:Nat}(t:w.heap.size<=g)(f:Below w.heap.size w j)(z:j.heap[g]?=some (.cells d e (0,0)))(k:rows.length<=a)(y:a<=maxLen)(E:∀F∈rows,F.length=size)(s:d.size=a*size)(D:RelL (Cx.pure C.im) rows.flatten (d.toList.take (rows.length*size)))(q:∀u∈d.toList.take (rows.length*size),u.oneCell'=true):Inv B (C.addAr h.length 0 (some ⟨g,a,size,e,false⟩)) (h++[.arr size 0 rows true]) j/\Rel (C.addAr h.length 0 (some ⟨g,a,size,e,false⟩)) (.own h.length 0 rows.length) (.slice (some ⟨g,0,none⟩) rows.length a)/\C.Le (C.addAr h.length 0 (some ⟨g,a,size,e,false⟩)):=by
 have A:=(c.fr h.length (dA _)).2 0;have m:=JH (w:=w) (some ⟨g,a,size,e,false⟩) A;have i:(C.addAr h.length 0 (some ⟨g,a,size,e,false⟩)).ar h.length 0=some (some ⟨g,a,size,e,false⟩):=by simp[Cx.addAr]
 refine⟨c.add m f (fun b o u x=>vT c f b o u x) (fun b o u x=>c.one b o u x) (blk:=.arr size 0 rows true) (.inr ⟨_,d,i,qL c.hB t,k,y,E,z,s,D,q,fun _ o=>?_,(fun e=>by cases e),rfl,ZI e rows⟩) (fun b f=>?_) (fun l n=>rfl) (fun l v n=>by simp[Cx.addAr,n]) (fun K M L N rows wr e v J=>?_),.own _ _ _ ⟨g,a,size,e,false⟩ i k,m.le⟩
 ·show C.im g o=none;cases r:C.im g o with
  |none=>rfl|some u=>have:=rR (c.im _ _ _ r);omega
 ·simp only[bJ,i,aT]at f;omega
 ·injection e with I H G p;subst p;simp only[Cx.addAr,true_and];rw[if_neg (by omega)];exact(c.fr h.length (dA _)).2 v
def tV(b bytes:Nat)(h:aA)(a:List (List AV)):Option (AV×aA):=if a.isEmpty then some (.sl [],h)else if dB b a/\a.length*bytes<=140737488355328/\a.length<=maxLen then some (.own h.length 0 a.length,h++[.arr b 0 a true])else none
def jF(b bytes:Nat):List AV->aA->Option (AV×aA)
 |[.nils],h=>some (.nils,h)|[.sl a],h=>tV b bytes h a|[.own l d n],h=>match h[l]? with
  |some (.arrX false none c e a _)=>if d=e/\n=a.length/\c=b then tV b bytes h a else none|_=>none
 |_,_=>none
theorem vL{P:Program}{gv:Gv}{f:FuncId}{e:TypeId}{t bytes:Nat}(U:∀(a:Addr)(n c:Nat)(news:List Value)(w:World),news.length=n*t->n<=maxLen->n*bytes<=140737488355328->(∀j u,news[j]?=some u->w.cell? (a.add j)=some u)->(∀u∈news,u.oneCell'=true)->Calls P f #[.slice (some a) n c] w fun o k=>(∃J,o=.returned J/\k.ownsRow w.heap.size e t J n news)/\Below w.heap.size w k)(M:∀(n c:Nat)(w:World),Calls P f #[.slice none n c] w fun o k=>o=.returned (.slice none 0 0)/\k=w):fA P gv f (jF t bytes):=by
 intro B C h w e3 r E T f2 g p b;have Q:∀{r:AV}{E:aA},tV t bytes h []=some (r,E)->r=.sl []/\E=h:=fun d=>by
  simp only[tV,List.isEmpty_nil,bD,aT,dF]at d;exact⟨d.1.symm,d.2.symm⟩
 have S:∀{rows:List (List AV)}{a:Addr}{c:Nat}{news:List Value},tV t bytes h rows=some (r,E)->RelL (Cx.pure C.im) rows.flatten news->(∀j u,news[j]?=some u->w.cell? (a.add j)=some u)->(∀u∈news,u.oneCell'=true)->(rows≠[]->news.length=rows.length*t)->Calls P f #[.slice (some a) rows.length c] w fun o k=>∃v D,o=.returned v/\C.Le D/\Inv B D E k/\Rel D r v/\Keep B w k:=fun{rows a c news}d c1 a3 W b3=>by cases rows with
  |nil=>
   obtain⟨rfl,rfl⟩:=Q d;refine(U a 0 c [] w (by simp) (by simp) (by simp) (fun j u i=>by simp at i) (fun u F=>by cases F)).mono fun o k m=>?_;obtain⟨⟨J,rfl,O⟩,s⟩:=m;rcases O.2 with⟨rfl,_⟩|⟨a1,K,L,rfl,_⟩;·exact⟨_,C,rfl,.refl C,g.grow s,.slnil,.grown s g.hB⟩
   ·exact⟨_,C,rfl,.refl C,g.grow s,.slz _ _,.grown s g.hB⟩|cons H Y=>
   simp only[tV,List.isEmpty_cons,dE,bY]at d;split at d
   ·rename_i b1;obtain⟨s1,s2,s3⟩:=b1;simp only[aT,dF]at d;obtain⟨rfl,rfl⟩:=d;refine(U a (H::Y).length c news w (b3 (by simp)) s3 s2 a3 W).mono fun o k m=>?_;obtain⟨⟨J,rfl,O⟩,s⟩:=m;rcases O.2 with⟨_,hz⟩|⟨a1,K,L,rfl,q1,q2,q3,q4,q5,X⟩;·simp at hz
    ·obtain⟨t1,t2,t3⟩:=zh3 (rows:=H::Y) g q1 s q2 q3 q4 (uK s1) q5 (by rw[X];exact c1) (by rw[X];exact W);exact⟨_,_,rfl,t3,t1,t2,.grown s g.hB⟩
   ·cases d
 unfold jF at b;split at b
 ·obtain⟨v,I,q,A,p⟩:=p.inv_cons;have:=p.inv_nil;subst this;have G:T=#[v]:=by apply kP;simpa using q
  subst G;simp only[aT,dF]at b;obtain⟨rfl,rfl⟩:=b;cases A;refine(M 0 0 w).mono fun o k m=>?_;obtain⟨rfl,rfl⟩:=m;exact⟨_,C,rfl,.refl C,g,.nils,.refl _ _⟩
 ·rename_i rows;obtain⟨v,I,q,A,p⟩:=p.inv_cons;have:=p.inv_nil;subst this;have G:T=#[v]:=by apply kP;simpa using q
  subst G;cases A with
  |slnil=>
   obtain⟨rfl,rfl⟩:=Q b;refine(M 0 0 w).mono fun o k m=>?_;obtain⟨rfl,rfl⟩:=m;exact⟨_,C,rfl,.refl C,g,.slnil,.refl _ _⟩|slz a K=>exact S (rows:=[]) (news:=[]) b .nil (fun j u i=>by simp at i) (fun u F=>by cases F) (fun h=>absurd rfl h)|sl _ f1 o K d3 I a2 g1 g2 g3=>
   have c3:rows≠[]->dB t rows=true:=fun z=>by cases rows with
    |nil=>exact absurd rfl z|cons x y=>
     simp only[tV,List.isEmpty_cons,dE,bY]at b;split at b;·rename_i d;exact d.1
     ·cases b
   obtain⟨l,k1,k2⟩:=PS (size:=d3) rows o I (fun H c2=>by
    obtain⟨d1,b2⟩:=tO.1 c2;exact g1 d1 H b2) g2 g3;refine S (news:=l) b k1 (fun j u i=>by rw[Addr.add_lit];exact g.im _ _ _ (k2 j u i)) (fun u F=>?_) (fun z=>?_)
   ·obtain⟨j,i⟩:=tO.1 F;exact g.one _ _ _ (k2 j u i)
   ·rw[<-k1.1,mH rows (uK (c3 z))]
 ·rename_i l f3 n;split at b
  ·rename_i sz h3 rows wr hl;split at b
   ·rename_i d;obtain⟨rfl,rfl,rfl⟩:=d;obtain⟨v,I,q,A,p⟩:=p.inv_cons;have:=p.inv_nil;subst this;have G:T=#[v]:=by apply kP;simpa using q
    subst G;generalize V:rows.length=n at A;cases A with
    |ownnil _ _ N=>
     have hx:rows=[]:=List.length_eq_zero_iff.1 V;subst hx;obtain⟨rfl,rfl⟩:=Q b;refine(M 0 0 w).mono fun o k m=>?_;obtain⟨rfl,rfl⟩:=m;exact⟨_,C,rfl,.refl C,g,.slnil,.refl _ _⟩|own _ _ _ r' N a2=>
     rcases g.ok l _ hl with⟨k1,_⟩|⟨r2,L,k1,k2,k3,k4,k5,k6,k7,k8,d2,k9⟩;·rw[N]at k1;cases k1
     ·rw[N]at k1;injection k1 with k1;injection k1 with k1;subst k1;subst V;refine S (news:=L.toList.take (rows.length*r'.size)) b k8 (fun j u i=>?_) d2 (fun z=>?_)
      ·rw[Addr.add_lit,cell_of_heap k6];rw[fZ]at i;split at i;·simpa using i
       ·cases i
      ·rw[<-k8.1,mH rows k5];have hs:dB sz rows=true:=by cases rows with
        |nil=>exact absurd rfl z|cons x y=>
         simp only[tV,List.isEmpty_cons,dE,bY]at b;split at b;·rename_i d;exact d.1
         ·cases b
       cases rows with
       |nil=>exact absurd rfl z|cons x y=>
        have q:=k5 x (by simp);have Z:=uK hs x (by simp);rw[<-q,Z]
   ·cases b
  ·cases b
 ·cases b
def MP(a:Nat):List AV->aA->Option (AV×aA)
 |[.nils,.n k],h=>if 0<k/\k<=1000000 then some (.own h.length 0 0,h++[.arr a 0 [] true])else if k=0 then some (.nils,h)else none|_,_=>none
theorem yB1{P:Program}{q:Gv}{f:FuncId}{e:TypeId}{m:Nat}(s:∀(n:Nat)(w:World),0<n->n<=1000000->Calls P f #[.slice none 0 0,.int .i64 n] w fun o d=>∃g i,o=.returned (.slice (some ⟨w.heap.size,0,none⟩) 0 g)/\d.heap[w.heap.size]?=some (.cells i e (0,0))/\i.size=g*m/\g<=maxLen/\Below w.heap.size w d)(t:∀(w:World),Calls P f #[.slice none 0 0,.int .i64 0] w fun o d=>o=.returned (.slice none 0 0)/\d=w):fA P q f (MP m):=by
 intro B C h w M r N L O j b a;unfold MP at a;split at a
 ·rename_i k;obtain⟨v,J,p,y,b⟩:=b.inv_cons;obtain⟨K,J,rfl,z,b⟩:=b.inv_cons;have:=b.inv_nil;subst this;have A:L=#[v,K]:=by apply kP;simpa using p
  subst A;cases y;have:=fF z;subst this;split at a
  ·rename_i c;obtain⟨n,rfl⟩:∃n:Nat,k=n:=⟨k.toNat,by omega⟩;simp only[aT,dF]at a;obtain⟨rfl,rfl⟩:=a;refine(s n w (by omega) (by omega)).mono fun o d c=>?_;obtain⟨g,i,rfl,D,E,F,l⟩:=c;obtain⟨G,H,I⟩:=NS (rows:=[]) j l D (nZ _) F (fun _ b=>by cases b) E (by simp;exact .nil) (fun u x=>by simp at x);exact⟨_,_,rfl,I,G,H,.grown l j.hB⟩
  ·split at a
   ·rename_i c;subst c;simp only[aT,dF]at a;obtain⟨rfl,rfl⟩:=a;refine(t w).mono fun o d c=>?_;obtain⟨rfl,rfl⟩:=c;exact⟨_,C,rfl,.refl C,j,.nils,.refl _ _⟩
   ·cases a
 ·cases a
abbrev PD:=Bs×Bs
def gL(x:PD):List Value:=[.string ⟨x.1.toArray⟩,.string ⟨x.2.toArray⟩]
def jZ(x:PD):List AV:=[.str x.1,.str x.2]
def AU:List (List AV)->Option (List PD)
 |[]=>some []|[.str p,.str d]::r=>(AU r).map ((p,d)::·)|_=>none
theorem zo1:∀{b:List (List AV)}{a:List PD},AU b=some a->b=a.map jZ
 |[],a,h=>by simp[AU]at h;subst h;rfl|r::i,a,h=>by
  unfold AU at h;split at h;·rename_i e;cases e
  ·rename_i p d g e;cases e;simp only[dJ]at h;obtain⟨f,c,rfl⟩:=h;rw[zo1 c];rfl
  ·cases h
theorem zo0:∀b:List PD,AU (b.map jZ)=some b
 |[]=>rfl|(p,d)::r=>by
  have a:=zo0 r;simp[AU,jZ]at a⊢;simpa[jZ]using a
def pI(x y:PD):Bool:=!Op.bytesLess y.1 x.1
theorem QI{x y:PD}:pI x y=true↔x.1<=y.1:=by
 unfold pI;rw[Go.Proofs.bytesLess_eq];simp only[lK,AI];exact List.not_lt
theorem yW1{x y z:PD}(a:pI x y=true)(b:pI y z=true):pI x z=true:=by rw[QI]at*;exact List.le_trans a b
theorem yW0{x y:PD}(h:¬pI x y=true):pI y x=true:=by
 rw[QI]at*;exact(List.le_total x.1 y.1).resolve_left h
def BH(x:PD):List PD->List PD
 |[]=>[x]|y::r=>if pI x y then x::y::r else y::BH x r
def lI:List PD->List PD
 |[]=>[]|x::r=>BH x (lI r)
theorem VK(x:PD):∀l,(BH x l).Perm (x::l)
 |[]=>.refl _|y::r=>by
  unfold BH;split;·exact .refl _
  ·exact((VK x r).cons y).trans (.swap x y r)
theorem LJ:∀l,(lI l).Perm l
 |[]=>.refl _|x::r=>(VK x _).trans ((LJ r).cons x)
theorem zw7(x:PD):∀{l:List PD},l.Pairwise (fun a b=>pI a b=true)->(BH x l).Pairwise (fun a b=>pI a b=true)
 |[],_=>by simp[BH]|y::r,h=>by
  obtain⟨e,f⟩:=HZ.1 h;unfold BH;split
  ·rename_i d;refine HZ.2 ⟨fun z c=>?_,h⟩;rcases fE.1 c with rfl|c;·exact d
   ·exact yW1 d (e z c)
  ·rename_i d;refine HZ.2 ⟨fun z c=>?_,zw7 x f⟩;rcases fE.1 ((VK x r).subset c)with rfl|c;·exact yW0 d
   ·exact e z c
theorem YT:∀l,(lI l).Pairwise (fun a b=>pI a b=true)
 |[]=>.nil|x::r=>zw7 x (YT r)
def mF:List PD->Bool
 |[]=>true|x::r=>r.all (fun y=>decide (x.1≠y.1))&&mF r
theorem JD:∀{l:List PD},mF l=true↔l.Pairwise (fun a b=>a.1≠b.1)
 |[]=>by simp[mF]|x::r=>by simp[mF,JD (l:=r)]
theorem yw0{l:List PD}(h:mF l=true){x y:PD}(d:x∈l)(f:y∈l)(e:x.1=y.1):x=y:=by
 rw[JD]at h;induction l with
 |nil=>cases d|cons z r i=>
  obtain⟨c,g⟩:=HZ.1 h;rcases fE.1 d with b|b
  ·rcases fE.1 f with a|a;·rw[b,a]
   ·subst b;exact absurd e (c y a)
  ·rcases fE.1 f with a|a;·subst a;exact absurd e.symm (c x b)
   ·exact i g b a
theorem yw1{l m:List PD}(h:l.Perm m):mF l=true->mF m=true:=by
 rw[JD,JD];exact fun k=>h.pairwise k (fun a=>a.symm)
theorem zO5{l m:List PD}(h:mF l=true)(e:m.Perm l)(i:m.Pairwise (fun a b=>pI a b=true)):m=lI l:=by
 refine List.Perm.eq_of_pairwise (le:=fun x y=>pI x y=true) (fun a b f g c d=>?_) i (YT l) (e.trans (LJ l).symm);rw[QI]at c d;exact yw0 h (e.subset f) ((LJ l).subset g) (List.le_antisymm c d)
def sY(c:List FuncId):List AV->aA->Option (AV×aA)
 |[.own l b n,.fn g []],h=>match h[l]? with
  |some (.arrX false none 2 e d true)=>match AU d with
   |some a=>if c.contains g/\b=e/\n=a.length/\n<=big/\mF a=true then some (.tup [],h.set l (.arr 2 b ((lI a).map jZ) true))else none|none=>none
  |_=>none
 |_,_=>none
def xZ(p:PD):AV×AV:=(.str p.1,.str p.2)
def IX:List (AV×AV)->Option (List PD)
 |[]=>some []|(.str p,.str d)::r=>(IX r).map ((p,d)::·)|_=>none
theorem zn7:∀{b:List (AV×AV)}{a:List PD},IX b=some a->b=a.map xZ
 |[],a,h=>by simp[IX]at h;subst h;rfl|r::i,a,h=>by
  unfold IX at h;split at h;·rename_i e;cases e
  ·rename_i p d g e;cases e;simp only[dJ]at h;obtain⟨f,c,rfl⟩:=h;rw[zn7 c];rfl
  ·cases h
def pick(a:List PD)(b:Bs->Bool)(seen:List Nat):List PD:=(seen.filterMap fun i=>a[i]?).filter fun p=>b p.1
theorem xe7{a:List PD}{b:Bs->Bool}{seen:List Nat}{i:Nat}{p:PD}(h:a[i]?=some p):pick a b (seen++[i])=pick a b seen++(if b p.1 then[p]else[]):=by simp only[pick,List.filterMap_append,List.filter_append,List.filterMap_cons,h,List.filterMap_nil,HT,List.filter_nil]
theorem xg5(a:List PD):(List.range a.length).filterMap (fun i=>a[i]?)=a:=by
 apply rK;intro i;induction a generalizing i with
 |nil=>simp|cons x r b=>
  rw[hJ,List.range_succ_eq_map,List.filterMap_cons];simp only[tM,List.filterMap_map];cases i with
  |zero=>rfl|succ i=>
   rw[mM,mM,<-b i];congr 1
theorem xe6{c:List PD}{b:Bs->Bool}{seen:List Nat}(e:seen.Nodup)(g:∀i∈seen,i<c.length)(d:∀i,i<c.length->i∈seen):(pick c b seen).Perm (c.filter fun p=>b p.1):=by
 have f:seen.Perm (List.range c.length):=(List.perm_ext_iff_of_nodup e List.nodup_range).2 fun a=>⟨fun h=>lM.2 (g a h),fun h=>d a (lM.1 h)⟩;have:=(f.filterMap fun i=>c[i]?).filter fun p=>b p.1;rw[xg5]at this;exact this
def left(n:Nat)(seen:List Nat):List Nat:=(List.range n).filter fun i=>!seen.contains i
theorem yV7{n:Nat}{seen:List Nat}(h:left n seen=[]):∀i,i<n->i∈seen:=by
 intro i a;have:=List.filter_eq_nil_iff.1 h i (lM.2 a);simpa using this
theorem yV6{n:Nat}{seen:List Nat}{i:Nat}:i∈left n seen↔i<n/\i∉seen:=by simp[left]
theorem yV8{n:Nat}{seen:List Nat}{i:Nat}(a:i∈left n seen):(left n (seen++[i])).length<(left n seen).length:=by
 have e:left n (seen++[i])=(left n seen).filter fun k=>k !=i:=by
  simp only[left,List.filter_filter];refine List.filter_congr fun k _=>?_;by_cases h:k=i;·subst h;simp
  ·simp[h]
 rw[e];exact List.length_filter_lt_length_iff_exists.2 ⟨i,a,by simp⟩
theorem yw2{l:List PD}{p:PD->Bool}(h:mF l=true):mF (l.filter p)=true:=by
 rw[JD]at*;exact h.filter p
def xY:List (List AV)->Option (List Bs)
 |[]=>some []|[.str s]::r=>(xY r).map (s::·)|_=>none
def kR(a:List Bs):List (List AV):=a.map fun s=>[.str s]
theorem UD:∀{b:List (List AV)}{a:List Bs},xY b=some a->b=kR a
 |[],a,h=>by simp[xY]at h;subst h;rfl|r::d,a,h=>by
  unfold xY at h;split at h;·rename_i e;cases e
  ·rename_i s f e;cases e;simp only[dJ]at h;obtain⟨g,c,rfl⟩:=h;rw[UD c];rfl
  ·cases h
theorem PL{a:List Bs}{i:Nat}{s:Bs}(h:a[i]?=some s):(kR a)[i]?=some [.str s]:=by simp[kR,h]
@[simp]theorem xD6{a:List Bs}:(kR a).length=a.length:=by simp[kR]
def idxFrom{a:Type}[DecidableEq a](x:a)(i:Nat):List a->Int
 |[]=>-1|y::r=>if x=y then i else idxFrom x (i+1) r
def zG:List AV->Option AV
 |[.sl a,.str s]=>match xY a with
  |some x=>if x.length<=big then some (.n (idxFrom s 0 x))else none|none=>none
 |_=>none
theorem zw6(G:Gam)(r:AV)(a:List Bs)(s:Bs)(h:a.length<=big):∀(c:List Bs)(i:Nat),a.drop i=c->i+c.length=a.length->r=.n (idxFrom s i c)->cY G [5] Mc.cc_L0 0 [.blk 0,.seq (.seq (.reg [Kc 4 (-1)]) .ret)] (aD Rs.cc r) [(0,.sl (kR a)),(1,.str s),(4,.n 0),(5,.junk),(7,.n a.length),(8,.n i)] []
 |[],i,g,e,b=>by
  refine aJ (Mc.cc_L0.eq_1) ?_;simp at e;simp[idxFrom]at b;subst b;simp[bM,trunc,bW,low,cV,aW,fS,e,aD,Rs.cc,dS,eZ,fK,view]|x::c,i,g,e,b=>by
  refine aJ (Mc.cc_L0.eq_1) ?_;simp at e;have j:(i:Int)<a.length:=by omega
  have k:a[i]?=some x:=by have:=congrArg (·[0]?) g;simpa using this
  have m:a.drop (i+1)=c:=by rw[<-DP,g];rfl
  have l:IntKind.i64.wrap ((i:Int)+1)=((i+1:Nat):Int):=by unfold big at h;rw[i64_in _ (by omega)];rfl
  by_cases d:s=x
  ·have f:(s==x)=true:=by simp[d]
   simp only[idxFrom,if_pos d]at b;subst b;simp[bM,trunc,bW,low,cV,aW,fS,j,sC (PL k),cut,dV,f,aD,Rs.cc,dS,eZ,fK,view]
  ·have f:(s==x)=false:=by simp[d]
   simp only[idxFrom,if_neg d]at b;simp[bM,trunc,bW,low,cV,aW,fS,j,sC (PL k),cut,dV,f,l];refine cZ ?_;have n:=zw6 G r a s h c (i+1) m (by omega) b;simpa[bM,trunc,bW,low,cV,gD]using n
theorem yS4(G:Gam)(b:List AV)(r:AV)(h:zG b=some r):wpM G Mc.cc (aD Rs.cc r) [] (aC Ks.cc b) []:=by
 unfold zG at h;split at h
 ·rename_i a s;split at h
  ·rename_i c d;have:=UD d;subst this;split at h
   ·rename_i e;injection h with h;rw[aM];have f:=zw6 G r c s e c 0 rfl (by simp) h.symm;simpa[Mc.cc,aC,Ks.cc,aI]using f
   ·cases h
  ·cases h
 ·cases h
def mL:List AV->Option AV
 |[.sl a,.str s]=>match xY a with
  |some x=>if x.length<=big then some (.bool (!ltB (idxFrom s 0 x) 0))else none|none=>none
 |_=>none
theorem ys1(G:Gam)(e:G Fn.cc=some (.pure zG))(b:List AV)(r:AV)(h:mL b=some r):wpM G Mc.du (aD Rs.du r) [] (aC Ks.du b) []:=by
 unfold mL at h;split at h
 ·rename_i a s;split at h
  ·rename_i i d;split at h
   ·rename_i f;injection h with h;subst h;have g:∀c h,opV G c h (.call Fn.cc) (some [.sl a,.str s])=some (.n (idxFrom s 0 i),h):=fun c h=>bF e rfl (by simp[zG,d,f]) (.inl rfl);rw[aM];simp[Mc.du,aC,Ks.du,g,aD,Rs.du,dS,eZ,fK,view]
   ·cases h
  ·cases h
 ·cases h
def MO(G:Gam)(f:FuncId):List AV->aA->Option (AV×aA)
 |[.own l c n,e],h=>if n=3 then(match G f with
  |some (.gen F)=>(match F [.own l c 3,e] h with
   |some (.n k,d)=>if k=2 then(match d[l]? with
    |some (.arrX false none 2 i g true)=>(match g with
     |[a,b,[_,_]]=>if c=i then some (.own l c 2,d.set l (.arr 2 c [a,b,[.str [],.str []]] true))else none|_=>none)|_=>none)else none|_=>none)|_=>none)else none|_,_=>none
theorem xm3{P:Program}{t e i:TypeId}{z:Value}{b o c:Nat}{w a:World}(f:P.underlying t=some (.slice e))(g:∀w,(zeroValue e).run P w=.ok z w)(h:(Builtin.zeroCells z.cells 1).toList=z.cells.toList)(d:(storeCells ⟨b,o,none⟩ z.cells.toList).run P w=.ok () a):(Builtin.clear_ #[t] i #[.slice (some ⟨b,o,none⟩) 1 c]).run P w=.ok (.tuple #[]) a:=by simp[Builtin.clear_,run_underlying f,g,h,d]
theorem yv8{P:Program}{F:Gv}{f A:FuncId}{t e:TypeId}{G:Gam}(Q:GamOK P F G)(ht:P.underlying t=some (.slice e))(K:eI P e=some 2)(p:∀w,(zeroValue e).run P w=.ok (.agg #[.string ⟨#[]⟩,.string ⟨#[]⟩]) w)(U:∀(u r:Nat)(y:Value)(w:World)(R S:World->Prop),3<=r->(Calls P A #[.slice (some ⟨u,0,none⟩) 3 r,y] w fun e i=>e=.returned (.int .i64 2)/\R i)->(∀i,R i->∃n,(∀L,(Builtin.clear_ #[t] L #[.slice (some ⟨u,4,none⟩) 1 (r-2)]).run P i=.ok (.tuple #[]) n)/\S n)->Calls P f #[.slice (some ⟨u,0,none⟩) 3 r,y] w fun e i=>e=.returned (.slice (some ⟨u,0,none⟩) 2 r)/\S i):fA P F f (MO G A):=by
 intro B C h w c3 f1 h' c1 W X o g;unfold MO at g;split at g
 ·rename_i l x e3 y;split at g
  ·rename_i Z;subst Z;split at g
   ·rename_i c2 T;split at g
    ·rename_i d3 H O;split at g
     ·rename_i Y;subst Y;split at g
      ·rename_i f3 f2 J;split at g
       ·rename_i a b c d;split at g
        ·rename_i b1;subst b1;simp only[aT,dF]at g;obtain⟨rfl,rfl⟩:=g;have a1:=o;obtain⟨v,us,N,b2,o⟩:=o.inv_cons;obtain⟨M,us,rfl,d2,o⟩:=o.inv_cons;have:=o.inv_nil;subst this;have a3:c1=#[v,M]:=by apply kP;simpa using N
         subst a3;cases b2 with|own _ _ _ m I V=>
          have j:=Q.ok A _ T B C h w _ _ _ _ W X a1 O;refine(U m.block m.cap M w (fun i=>∃D,C.Le D/\Inv B D H i/\Keep B w i) (fun n=>∃D,C.Le D/\Inv B D (H.set l (.arr 2 x [a,b,[.str [],.str []]] true)) n/\Keep B w n) V (j.mono ?_) ?_).mono ?_
          ·rintro e i⟨v',D,rfl,k,q,s,q4⟩;rw[fF s];exact⟨rfl,D,k,q,q4⟩
          ·rintro i⟨D,k,q,s⟩;have z:=k.ar _ _ _ I;have a2:m.size=2:=by
            rcases q.ok l _ J with⟨k1,_⟩|⟨r',d1,k1,k2,k3,k4,k5,k6,k7,k8,e2,k9,k10,k11,k12⟩;·rw[z]at k1;cases k1
            ·rw[z]at k1;injection k1 with k1;injection k1 with k1;subst k1;exact k11
           have hx:Rel D (.eptr l x 2 0) (.pointer (some ⟨m.block,2*m.size+0,none⟩)):=.eptr l x 2 0 m z;have hy:Rel (D.at false) (.agg [.str [],.str []]) (.agg #[.string ⟨#[]⟩,.string ⟨#[]⟩]):=.agg _ _ rfl (fun b3 c v j p=>by match b3 with
            |0=>simp at j p;subst j p;exact .str []|1=>simp at j p;subst j p;exact .str []|_+2=>simp at j);obtain⟨n,E,s2,s3⟩:=ZF (P:=P) (ne:=false) (t:=e) (size:=2) q K hx hy J (row:=[c,d]) rfl rfl (by decide) rfl (by simp);rw[a2]at E;refine⟨n,fun L=>xm3 ht p (by kernel_rfl) ?_,D,k,s2,s.trans s3⟩;simp only[Instr.storeAt,Instr.sureAddr,Sem.run_bind,Sem.run_pure,Result.andThen_ok,storeVar,jR K]at E;simpa[Value.cells]using E
          ·rintro e i⟨rfl,D,k,q,s⟩;exact⟨_,D,rfl,k,q,.own l x 2 m (k.ar _ _ _ I) (by omega),s⟩
        ·cases g
       ·cases g
      ·cases g
     ·cases g
    ·cases g
   ·cases g
  ·cases g
 ·cases g
theorem XQ{P:Program}{c:Gv}{f:FuncId}{F b:List AV->Option AV}(h:dW P c f F)(i:∀a r,b a=some r->F a=some r):dW P c f b:=fun I w a r k e g j d=>h I w a r k e g j (i a r d)
theorem yA4{P:Program}{c:Gv}{f:FuncId}{F b:List AV->aA->Option (AV×aA)}(h:fA P c f F)(k:∀a h r,b a h=some r->F a h=some r):fA P c f b:=fun B C d w a r e m i j l g=>h B C d w a r e m i j l (k a d _ g)
def at1(G:Gam)(f:FuncId)(a:List AV):Option AV:=match G f with
 |some (.pure F)=>F a|_=>none
def oU(b:List AV)(c:AV):List AV->Option AV:=fun a=>if pD a b then some c else none
theorem yX{P:Program}{c:Gv}{G:Gam}(g:GamOK P c G){f:FuncId}{b:List AV}{d:AV}(h:at1 G f b=some d):dW P c f (oU b d):=by
 unfold at1 at h;split at h
 ·rename_i F e;exact XQ (g.ok f _ e) fun j k a=>by
   unfold oU at a;split at a
   ·rename_i i;injection a with a;subst a;rw[tR _ _ i];exact h
   ·cases a
 ·cases h
def GQ(F b:List AV->Option AV):List AV->Option AV:=fun a=>match F a with
 |some r=>some r|none=>b a
theorem XB{P:Program}{b:Gv}{f:FuncId}{F c:List AV->Option AV}(h:dW P b f F)(k:dW P b f c):dW P b f (GQ F c):=fun I w d r j e g i a=>by
 unfold GQ at a;split at a
 ·rename_i m l;injection a with a;subst a;exact h I w d _ j e g i l
 ·exact k I w d r j e g i a
def IG(G:Gam)(f:FuncId)(a:List AV)(h:aA):Option (AV×aA):=match G f with
 |some (.gen F)=>F a h|_=>none
def GU(b:List AV)(c:aA)(d:AV×aA):List AV->aA->Option (AV×aA):=fun a h=>if pD a b&&vS h c then some d else none
theorem ZH{P:Program}{d:Gv}{G:Gam}(j:GamOK P d G){f:FuncId}{c:List AV}{e:aA}{g:AV×aA}(h:IG G f c e=some g):fA P d f (GU c e g):=by
 unfold IG at h;split at h
 ·rename_i F i;exact yA4 (j.ok f _ i) fun k l m a=>by
   unfold GU at a;split at a
   ·rename_i b;simp only[bS]at b;injection a with a;subst a;rw[tR _ _ b.1,JQ _ _ b.2];exact h
   ·cases a
 ·cases h
def SU(F b:List AV->aA->Option (AV×aA)):List AV->aA->Option (AV×aA):=fun a h=>match F a h with
 |some r=>some r|none=>b a h
theorem xc7{P:Program}{b:Gv}{f:FuncId}{F c:List AV->aA->Option (AV×aA)}(h:fA P b f F)(l:fA P b f c):fA P b f (SU F c):=fun B C e w d r m k g i j a=>by
 unfold SU at a;split at a
 ·rename_i o n;injection a with a;subst a;exact h B C e w d _ _ k g i j n
 ·exact l B C e w d r m k g i j a
end Go.Proofs.YtdebajodkallbaaGreatDoor
