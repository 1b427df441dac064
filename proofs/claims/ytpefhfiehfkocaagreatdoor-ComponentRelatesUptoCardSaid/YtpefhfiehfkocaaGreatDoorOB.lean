/- Sets of lines: the plain law. What the program merges from spans and what the reference packs from lines is one set. Spans,lines,origins as values. The reference's paths (licitref16). Spans: inside,-/
import Derived.Test.YtpefhfiehfkocaaGreatDoorRmD
import Derived.Test.YtpefhfiehfkocaaGreatDoorRmJ
import Derived.Test.YtpefhfiehfkocaaGreatDoorRmA
import Derived.Test.YtpefhfiehfkocaaGreatDoorRmI
import Derived.Test.YtpefhfiehfkocaaGreatDoorOA
namespace Go.Proofs.YtpefhfiehfkocaaGreatDoor
open Go.RowKit
structure Sp where
 p:Bs
 f:Int
 t:Int
deriving DecidableEq
structure Ln where
 p:Bs
 n:Int
deriving DecidableEq
theorem s_irr(a:Bs):¬ a<a:=List.lt_irrefl a
theorem s_tr{a b c:Bs}(h:a<b)(k:b<c):a<c:=List.lt_trans h k
theorem s_tri(a b:Bs):a<b∨a=b∨b<a:=by
 by_cases h:a<b
 ·exact .inl h
 ·rcases List.le_iff_lt_or_eq.1 (List.not_lt.1 h)with k | k
  ·exact .inr (.inr k)
  ·exact .inr (.inl k.symm)
theorem lessE(a b:Bs):Op.bytesLess a b=decide (a<b):=by rw [Go.Proofs.bytesLess_eq]
def Lt(p:Bs)(n:Int)(q:Bs)(m:Int):Prop:=p<q∨(p=q∧n<m)
def Le(p:Bs)(n:Int)(q:Bs)(m:Int):Prop:=p<q∨(p=q∧n≤m)
theorem Le.of_not{p q:Bs}{n m:Int}(h:¬ Lt q m p n):Le p n q m:=by
 rcases s_tri p q with k | k | k
 ·exact .inl k
 ·subst k
  by_cases hn:m<n
  ·exact absurd (.inr ⟨rfl,hn⟩) h
  ·exact .inr ⟨rfl,by omega⟩
 ·exact absurd (.inl k) h
theorem Le.trans{p q r:Bs}{a b c:Int}(h:Le p a q b)(k:Le q b r c):Le p a r c:=by
 rcases h with h | ⟨rfl,h⟩ <;> rcases k with k | ⟨rfl,k⟩
 ·exact .inl (s_tr h k)
 ·exact .inl h
 ·exact .inl k
 ·exact .inr ⟨rfl,by omega⟩
theorem Le.anti{p q:Bs}{a b:Int}(h:Le p a q b)(k:Le q b p a):p=q∧a=b:=by
 rcases h with h | ⟨rfl,h⟩ <;> rcases k with k | ⟨k0,k⟩
 ·exact absurd (s_tr h k) (s_irr _)
 ·subst k0; exact absurd h (s_irr _)
 ·exact absurd k (s_irr _)
 ·exact ⟨rfl,by omega⟩
def Beh(a b:Sp):Prop:=a.p<b.p∨(a.p=b.p∧a.t<b.f)
def behO(a b:Sp):Bool:=Op.bytesLess a.p b.p||(a.p == b.p&&decide (a.t<b.f))
theorem behO_iff{a b:Sp}:behO a b=true↔Beh a b:=by
 unfold behO Beh
 rw [lessE]
 simp
theorem Beh.trans{a b c:Sp}(hb:b.f<b.t)(h:Beh a b)(k:Beh b c):Beh a c:=by
 rcases h with h | ⟨h,h2⟩ <;> rcases k with k | ⟨k,k2⟩
 ·exact .inl (s_tr h k)
 ·exact .inl (k▸h)
 ·exact .inl (h▸k)
 ·exact .inr ⟨h.trans k,by omega⟩
def insO(s:Sp):Bool:=decide (0≤s.f)&&decide (s.f<s.t)&&decide (s.t≤1024)
def spanO(s:Sp):Bool:=insO s&&pathOK s.p
theorem spanO_iff{s:Sp}:spanO s=true↔(0≤s.f∧s.f<s.t∧s.t≤1024)∧pathOK s.p=true:=by
 simp [spanO,insO,and_assoc]
def validF:Option Sp→List Sp→Bool
 | _,[]=>true
 | none,s::r=>spanO s&&validF (some s) r
 | some q,s::r=>spanO s&&behO q s&&validF (some s) r
def validO(l:List Sp):Bool:=validF none l
def inS(s:Sp)(x:Ln):Bool:=s.p == x.p&&decide (s.f≤x.n)&&decide (x.n<s.t)
theorem inS_iff{s:Sp}{x:Ln}:inS s x=true↔s.p=x.p∧s.f≤x.n∧x.n<s.t:=by
 simp [inS,and_assoc]
def hasO(l:List Sp)(x:Ln):Bool:=l.any fun s=>inS s x
theorem hasO_iff{l:List Sp}{x:Ln}:hasO l x=true↔∃ s∈l,inS s x=true:=by simp [hasO]
structure Canon (l:List Sp):Prop where
 ne:∀ s∈l,s.f<s.t
 beh:l.Pairwise Beh
theorem Canon.tail{a:Sp}{l:List Sp}(h:Canon (a::l)):Canon l:=⟨fun s hs=>h.ne s (List.mem_cons_of_mem _ hs),(List.pairwise_cons.1 h.beh).2⟩
theorem validF_some{q:Sp}:∀ {l:List Sp},validF (some q) l=true→q.f<q.t→(∀ s∈l,spanO s=true)∧(q::l).Pairwise Beh
 | [],_,_=>⟨by simp,by simp⟩
 | s::r,h,hq=>by
  simp only [validF,Bool.and_eq_true]at h;obtain ⟨⟨h1,h2⟩,h3⟩:=h;have hs:=(spanO_iff.1 h1).1;obtain ⟨k1,k2⟩:=validF_some h3 (by omega);refine ⟨fun x hx=>(List.mem_cons.1 hx).elim (fun e=>e▸h1) (k1 x),List.pairwise_cons.2 ⟨fun x hx=>?_,k2⟩⟩
  rcases List.mem_cons.1 hx with rfl | hx
  ·exact behO_iff.1 h2
  ·exact (behO_iff.1 h2).trans (by omega) ((List.pairwise_cons.1 k2).1 x hx)
theorem valid_iff:∀ {l:List Sp},validO l=true↔(∀ s∈l,spanO s=true)∧Canon l:=by
 intro l
 constructor
 ·intro h
  cases l with
  | nil=>exact ⟨by simp,⟨by simp,by simp⟩⟩
  | cons s r=>
   simp only [validO,validF,Bool.and_eq_true]at h;obtain ⟨h1,h3⟩:=h;have hs:=(spanO_iff.1 h1).1;obtain ⟨k1,k2⟩:=validF_some h3 (by omega);have ka:∀ x∈s::r,spanO x=true:=fun x hx=>(List.mem_cons.1 hx).elim (fun e=>e▸h1) (k1 x)
   exact ⟨ka,⟨fun x hx=>(spanO_iff.1 (ka x hx)).1.2.1,k2⟩⟩
 ·rintro ⟨h1,h2⟩
  have h3:∀ (l:List Sp) (q:Sp),(∀ s∈l,spanO s=true)→(q::l).Pairwise Beh→validF (some q) l=true:=by
   intro l;induction l with
   | nil=>intro q _ _; rfl
   | cons a r ih=>
    intro q ha hp;simp only [validF,Bool.and_eq_true];exact ⟨⟨ha a (by simp),behO_iff.2 ((List.pairwise_cons.1 hp).1 a (by simp))⟩,ih a (fun s hs=>ha s (List.mem_cons_of_mem _ hs)) (List.pairwise_cons.1 hp).2⟩
  cases l with
  | nil=>rfl
  | cons a r=>
   simp only [validO,validF,Bool.and_eq_true];exact ⟨h1 a (by simp),h3 r a (fun s hs=>h1 s (List.mem_cons_of_mem _ hs)) h2.beh⟩
theorem canon_ge{a:Sp}{l:List Sp}(h:Canon (a::l)){x:Ln}(hx:hasO (a::l) x=true):Le a.p a.f x.p x.n:=by
 obtain ⟨s,hs,hi⟩:=hasO_iff.1 hx
 obtain ⟨e1,e2,e3⟩:=inS_iff.1 hi
 rcases List.mem_cons.1 hs with rfl | hs
 ·exact .inr ⟨e1,e2⟩
 ·have hn:=h.ne a (by simp)
  rcases (List.pairwise_cons.1 h.beh).1 s hs with k | ⟨k,k2⟩
  ·exact .inl (e1▸k)
  ·exact .inr ⟨k.trans e1,by omega⟩
theorem canon_not{a:Sp}{l:List Sp}(h:Canon (a::l)){x:Ln}(hp:a.p=x.p)(hn:x.n≤a.t):hasO l x=false:=by
 rw [Bool.eq_false_iff]
 intro hc
 obtain ⟨s,hs,hi⟩:=hasO_iff.1 hc
 obtain ⟨e1,e2,e3⟩:=inS_iff.1 hi
 rcases (List.pairwise_cons.1 h.beh).1 s hs with k | ⟨k,k2⟩
 ·rw [hp,e1]at k; exact s_irr _ k
 ·omega
theorem canon_ext:∀ {l m:List Sp},Canon l→Canon m→(∀ x,hasO l x=hasO m x)→l=m
 | [],[],_,_,_=>rfl
 | [],b::m,_,h2,h=>by
  have:=h ⟨b.p,b.f⟩;have hb:=h2.ne b (by simp);have e:inS b ⟨b.p,b.f⟩=true:=inS_iff.2 ⟨rfl,by simp,hb⟩;simp [hasO,e]at this
 | a::l,[],h1,_,h=>by
  have:=h ⟨a.p,a.f⟩;have hb:=h1.ne a (by simp);have e:inS a ⟨a.p,a.f⟩=true:=inS_iff.2 ⟨rfl,by simp,hb⟩;simp [hasO,e]at this
 | a::l,b::m,h1,h2,h=>by
  have na:=h1.ne a (by simp);have nb:=h2.ne b (by simp);have ea:hasO (a::l) ⟨a.p,a.f⟩=true:=hasO_iff.2 ⟨a,by simp,inS_iff.2 ⟨rfl,by simp,na⟩⟩;have eb:hasO (b::m) ⟨b.p,b.f⟩=true:=hasO_iff.2 ⟨b,by simp,inS_iff.2 ⟨rfl,by simp,nb⟩⟩;have l1:=canon_ge h2 (x:=⟨a.p,a.f⟩) (by rw [← h]; exact ea);have l2:=canon_ge h1 (x:=⟨b.p,b.f⟩) (by rw [h]; exact eb);obtain ⟨ep,ef⟩:=Le.anti l2 l1;simp only at ep ef;have et:a.t=b.t:=by
   by_cases c1:a.t<b.t
   ·have k1:hasO (b::m) ⟨a.p,a.t⟩=true:=hasO_iff.2 ⟨b,by simp,inS_iff.2 ⟨ep.symm,by simp; omega,c1⟩⟩
    rw [← h]at k1;have k2:=canon_not h1 (x:=⟨a.p,a.t⟩) rfl (by simp);have k3:inS a ⟨a.p,a.t⟩=false:=by rw [Bool.eq_false_iff]; intro hc; have:=(inS_iff.1 hc).2.2; simp at this
    simp only [hasO,List.any_cons,k3,Bool.false_or]at k1;rw [hasO]at k2; rw [k2]at k1; cases k1
   ·by_cases c2:b.t<a.t
    ·have k1:hasO (a::l) ⟨b.p,b.t⟩=true:=hasO_iff.2 ⟨a,by simp,inS_iff.2 ⟨ep,by simp; omega,c2⟩⟩
     rw [h]at k1;have k2:=canon_not h2 (x:=⟨b.p,b.t⟩) rfl (by simp);have k3:inS b ⟨b.p,b.t⟩=false:=by rw [Bool.eq_false_iff]; intro hc; have:=(inS_iff.1 hc).2.2; simp at this
     simp only [hasO,List.any_cons,k3,Bool.false_or]at k1;rw [hasO]at k2; rw [k2]at k1; cases k1
    ·omega
  have e:a=b:=by cases a; cases b; simp_all
  subst e;rw [canon_ext h1.tail h2.tail fun x=>?_];have hx:=h x;simp only [hasO,List.any_cons]at hx;cases hi:inS a x with
  | false=>rw [hi]at hx; simpa [hasO] using hx
  | true=>
   obtain ⟨e1,e2,e3⟩:=inS_iff.1 hi;rw [canon_not h1 e1 (by omega),canon_not h2 e1 (by omega)]
def mrgF(cur:Sp):List Sp→List Sp
 | []=>[cur]
 | s::r=>if behO cur s then cur::mrgF s r else mrgF ⟨cur.p,cur.f,if cur.t<s.t then s.t else cur.t⟩ r
def mergeO:List Sp→List Sp
 | []=>[]
 | s::r=>mrgF s r
def SpLe(a b:Sp):Prop:=Le a.p a.f b.p b.f
theorem mrg_law:∀ (l:List Sp) (cur:Sp),(∀ s∈l,spanO s=true)→spanO cur=true→(cur::l).Pairwise SpLe→
  (∀ s∈mrgF cur l,spanO s=true∧SpLe cur s)∧Canon (mrgF cur l)∧∀ x,hasO (mrgF cur l) x=hasO (cur::l) x
 | [],cur,_,hc,_=>by
  have:=(spanO_iff.1 hc).1;refine ⟨fun s hs=>?_,⟨fun s hs=>?_,by simp [mrgF]⟩,fun x=>rfl⟩
  ·simp only [mrgF,List.mem_singleton]at hs; subst hs; exact ⟨hc,.inr ⟨rfl,by omega⟩⟩
  ·simp only [mrgF,List.mem_singleton]at hs; subst hs; omega
 | s::r,cur,ha,hc,hp=>by
  obtain ⟨p1,p2⟩:=List.pairwise_cons.1 hp;have hs:=ha s (by simp);have hcs:=p1 s (by simp);have har:∀ x∈r,spanO x=true:=fun x hx=>ha x (List.mem_cons_of_mem _ hx)
  have bc:=(spanO_iff.1 hc);have bs:=(spanO_iff.1 hs);unfold mrgF;split
  ·rename_i hb
   have hb:=behO_iff.1 hb;obtain ⟨q1,q2,q3⟩:=mrg_law r s har hs p2;refine ⟨fun x hx=>?_,⟨fun x hx=>?_,List.pairwise_cons.2 ⟨fun x hx=>?_,q2.beh⟩⟩,fun x=>?_⟩
   ·rcases List.mem_cons.1 hx with rfl | hx
    ·exact ⟨hc,.inr ⟨rfl,by omega⟩⟩
    ·exact ⟨(q1 x hx).1,Le.trans hcs (q1 x hx).2⟩
   ·rcases List.mem_cons.1 hx with rfl | hx
    ·omega
    ·exact q2.ne x hx
   ·have:=(q1 x hx).2
    rcases hb with hb | ⟨hb,hb2⟩ <;> rcases this with k | ⟨k,k2⟩
    ·exact .inl (s_tr hb k)
    ·exact .inl (k▸hb)
    ·exact .inl (hb▸k)
    ·exact .inr ⟨hb.trans k,by omega⟩
   ·have:=q3 x
    simp only [hasO,List.any_cons]at this ⊢;rw [this]
  ·rename_i hb
   have hb:¬ Beh cur s:=fun h=>hb (behO_iff.2 h)
   have hpe:cur.p=s.p∧cur.f≤s.f:=by
    rcases hcs with k | k
    ·exact absurd (.inl k) hb
    ·exact k
   have hf:s.f≤cur.t:=by
    by_cases c:cur.t<s.f
    ·exact absurd (.inr ⟨hpe.1,c⟩) hb
    ·omega
   obtain ⟨q1,q2,q3⟩:=mrg_law r ⟨cur.p,cur.f,if cur.t<s.t then s.t else cur.t⟩ har (spanO_iff.2 ⟨by simp only; split <;> omega,bc.2⟩) (List.pairwise_cons.2 ⟨fun x hx=>p1 x (List.mem_cons_of_mem _ hx),(List.pairwise_cons.1 p2).2⟩);refine ⟨q1,q2,fun x=>?_⟩
   rw [q3];simp only [hasO,List.any_cons,← Bool.or_assoc];congr 1
   rw [Bool.eq_iff_iff,Bool.or_eq_true,inS_iff,inS_iff,inS_iff];simp only;constructor
   ·rintro ⟨e1,e2,e3⟩
    by_cases c:x.n<cur.t
    ·exact .inl ⟨e1,e2,c⟩
    ·exact .inr ⟨hpe.1▸e1,by omega,by split at e3 <;> omega⟩
   ·rintro (⟨e1,e2,e3⟩ | ⟨e1,e2,e3⟩)
    ·exact ⟨e1,e2,by split <;> omega⟩
    ·exact ⟨hpe.1.trans e1,by omega,by split <;> omega⟩
theorem merge_law{l:List Sp}(h:∀ s∈l,spanO s=true)(hp:l.Pairwise SpLe):validO (mergeO l)=true∧∀ x,hasO (mergeO l) x=hasO l x:=by
 cases l with
 | nil=>exact ⟨rfl,fun _=>rfl⟩
 | cons s r=>
  obtain ⟨q1,q2,q3⟩:=mrg_law r s (fun x hx=>h x (List.mem_cons_of_mem _ hx)) (h s (by simp)) hp;exact ⟨valid_iff.2 ⟨fun x hx=>(q1 x hx).1,q2⟩,q3⟩
def lnS(s:Sp):List Ln:=(List.range (s.t-s.f).toNat).map fun (k:Nat)=>⟨s.p,s.f+k⟩
def listO(l:List Sp):List Ln:=l.flatMap lnS
def befO(a b:Ln):Bool:=Op.bytesLess a.p b.p||(a.p == b.p&&decide (a.n<b.n))
theorem befO_iff{a b:Ln}:befO a b=true↔Lt a.p a.n b.p b.n:=by
 unfold befO Lt
 rw [lessE]
 simp
def LnLe(a b:Ln):Prop:=Le a.p a.n b.p b.n
def pckF(cur:Sp):List Ln→List Sp
 | []=>[cur]
 | x::r=>if cur.p=x.p∧x.n<cur.t then pckF cur r else if cur.p=x.p∧x.n=cur.t then pckF ⟨cur.p,cur.f,cur.t+1⟩ r else cur::pckF ⟨x.p,x.n,x.n+1⟩ r
def packO:List Ln→List Sp
 | []=>[]
 | x::r=>pckF ⟨x.p,x.n,x.n+1⟩ r
theorem inS_one(x y:Ln):inS ⟨x.p,x.n,x.n+1⟩ y=(x == y):=by
 rw [Bool.eq_iff_iff,inS_iff,beq_iff_eq]
 simp only
 constructor
 ·rintro ⟨e1,e2,e3⟩
  cases x; cases y
  simp only [Ln.mk.injEq]at *;exact ⟨e1,by omega⟩
 ·rintro rfl; exact ⟨rfl,by omega,by omega⟩
theorem pck_law:∀ (l:List Ln) (cur:Sp),cur.f<cur.t→(∀ x∈l,Le cur.p (cur.t-1) x.p x.n)→l.Pairwise LnLe→
  (∀ s∈pckF cur l,SpLe cur s)∧Canon (pckF cur l)∧∀ x,hasO (pckF cur l) x=(inS cur x||l.contains x)
 | [],cur,hc,_,_=>by
  refine ⟨fun s hs=>?_,⟨fun s hs=>?_,by simp [pckF]⟩,fun x=>by simp [pckF,hasO]⟩
  ·simp only [pckF,List.mem_singleton]at hs; subst hs; exact .inr ⟨rfl,by omega⟩
  ·simp only [pckF,List.mem_singleton]at hs; subst hs; omega
 | y::r,cur,hc,ha,hp=>by
  obtain ⟨p1,p2⟩:=List.pairwise_cons.1 hp;have hy:=ha y (by simp);have har:∀ x∈r,Le cur.p (cur.t-1) x.p x.n:=fun x hx=>ha x (List.mem_cons_of_mem _ hx)
  unfold pckF;split
  ·rename_i h
   obtain ⟨h1,h2⟩:=h;have hy2:cur.t-1≤y.n:=by
    rcases hy with k | ⟨_,k⟩
    ·rw [h1]at k; exact absurd k (s_irr _)
    ·exact k
   obtain ⟨q1,q2,q3⟩:=pck_law r cur hc har p2;refine ⟨q1,q2,fun x=>?_⟩
   rw [q3,List.contains_cons];cases hxy:x == y with
   | false=>rfl
   | true=>
    have:=beq_iff_eq.1 hxy; subst this;have:inS cur x=true:=inS_iff.2 ⟨h1,by omega,h2⟩;rw [this]; rfl
  ·rename_i h
   split
   ·rename_i h'
    obtain ⟨h1,h2⟩:=h';obtain ⟨q1,q2,q3⟩:=pck_law r ⟨cur.p,cur.f,cur.t+1⟩ (by simp only; omega) (fun x hx=>by
     have:=p1 x hx;simp only [LnLe]at this;simp only;rw [← h1,h2]at this;rcases this with k | ⟨k,k2⟩
     ·exact .inl k
     ·exact .inr ⟨k,by omega⟩) p2
    refine ⟨q1,q2,fun x=>?_⟩
    rw [q3,List.contains_cons,← Bool.or_assoc];congr 1
    rw [Bool.eq_iff_iff,Bool.or_eq_true,inS_iff,inS_iff,beq_iff_eq];simp only;constructor
    ·rintro ⟨e1,e2,e3⟩
     by_cases c:x.n<cur.t
     ·exact .inl ⟨e1,e2,c⟩
     ·refine .inr ?_
      cases x; cases y
      simp only [Ln.mk.injEq]at *;exact ⟨e1.symm.trans h1,by omega⟩
    ·rintro (⟨e1,e2,e3⟩ | rfl)
     ·exact ⟨e1,e2,by omega⟩
     ·exact ⟨h1,by omega,by omega⟩
   ·rename_i h'
    have hb:Beh cur ⟨y.p,y.n,y.n+1⟩:=by
     rcases hy with k | ⟨k,k2⟩
     ·exact .inl k
     ·refine .inr ⟨k,?_⟩
      simp only;have c1:¬ y.n<cur.t:=fun c=>h ⟨k,c⟩
      have c2:¬ y.n=cur.t:=fun c=>h' ⟨k,c⟩
      omega
    obtain ⟨q1,q2,q3⟩:=pck_law r ⟨y.p,y.n,y.n+1⟩ (by simp only; omega) (fun x hx=>by
     have:=p1 x hx;simp only [LnLe]at this;simp only;rcases this with k | ⟨k,k2⟩
     ·exact .inl k
     ·exact .inr ⟨k,by omega⟩) p2
    have hle:SpLe cur ⟨y.p,y.n,y.n+1⟩:=by
     rcases hb with k | ⟨k,k2⟩
     ·exact .inl k
     ·simp only at k2; exact .inr ⟨k,by simp only; omega⟩
    refine ⟨fun x hx=>?_,⟨fun x hx=>?_,List.pairwise_cons.2 ⟨fun x hx=>?_,q2.beh⟩⟩,fun x=>?_⟩
    ·rcases List.mem_cons.1 hx with rfl | hx
     ·exact .inr ⟨rfl,by omega⟩
     ·exact Le.trans hle (q1 x hx)
    ·rcases List.mem_cons.1 hx with rfl | hx
     ·exact hc
     ·exact q2.ne x hx
    ·have:=q1 x hx
     rcases hb with hb | ⟨hb,hb2⟩ <;> rcases this with k | ⟨k,k2⟩
     ·exact .inl (s_tr hb k)
     ·exact .inl (k▸hb)
     ·exact .inl (hb▸k)
     ·simp only at hb2 k2; exact .inr ⟨hb.trans k,by omega⟩
    ·have:=q3 x
     rw [inS_one]at this;rw [List.contains_cons,hasO,List.any_cons,← hasO,this];congr 2
     rw [Bool.eq_iff_iff,beq_iff_eq,beq_iff_eq];exact eq_comm
theorem pack_law{l:List Ln}(hp:l.Pairwise LnLe):Canon (packO l)∧∀ x,hasO (packO l) x=l.contains x:=by
 cases l with
 | nil=>exact ⟨⟨by simp [packO],by simp [packO]⟩,fun _=>rfl⟩
 | cons y r=>
  obtain ⟨p1,p2⟩:=List.pairwise_cons.1 hp;obtain ⟨_,q2,q3⟩:=pck_law r ⟨y.p,y.n,y.n+1⟩ (by simp only; omega) (fun x hx=>by
   have:=p1 x hx;simp only [LnLe]at this;simp only;rcases this with k | ⟨k,k2⟩
   ·exact .inl k
   ·exact .inr ⟨k,by omega⟩) p2
  refine ⟨q2,fun x=>?_⟩
  rw [packO,q3,inS_one,List.contains_cons];congr 1
  rw [Bool.eq_iff_iff,beq_iff_eq,beq_iff_eq];exact eq_comm
theorem mem_lnS{s:Sp}{x:Ln}:x∈lnS s↔inS s x=true:=by
 rw [inS_iff]
 simp only [lnS,List.mem_map,List.mem_range]
 constructor
 ·rintro ⟨k,hk,rfl⟩; exact ⟨rfl,by simp only; omega,by simp only; omega⟩
 ·rintro ⟨e1,e2,e3⟩
  refine ⟨(x.n-s.f).toNat,by omega,?_⟩
  cases x; simp only [Ln.mk.injEq]at *
  exact ⟨e1,by omega⟩
theorem mem_listO{l:List Sp}{x:Ln}:x∈listO l↔hasO l x=true:=by
 rw [hasO_iff,listO,List.mem_flatMap]
 constructor
 ·rintro ⟨s,hs,h⟩; exact ⟨s,hs,mem_lnS.1 h⟩
 ·rintro ⟨s,hs,h⟩; exact ⟨s,hs,mem_lnS.2 h⟩
theorem lnS_sorted(s:Sp):(lnS s).Pairwise LnLe:=by
 unfold lnS
 rw [List.pairwise_map]
 refine List.pairwise_lt_range.imp fun {a b} h=>?_
 exact .inr ⟨rfl,by simp only; omega⟩
theorem listO_sorted:∀ {l:List Sp},Canon l→(listO l).Pairwise LnLe
 | [],_=>by simp [listO]
 | s::r,h=>by
  rw [listO,List.flatMap_cons];refine List.pairwise_append.2 ⟨lnS_sorted s,listO_sorted h.tail,fun a ha b hb=>?_⟩
  obtain ⟨a1,a2,a3⟩:=inS_iff.1 (mem_lnS.1 ha);obtain ⟨u,hu,hi⟩:=hasO_iff.1 (mem_listO.1 hb);obtain ⟨b1,b2,b3⟩:=inS_iff.1 hi;rcases (List.pairwise_cons.1 h.beh).1 u hu with k | ⟨k,k2⟩
  ·exact .inl (a1▸b1▸k)
  ·exact .inr ⟨(a1▸k.trans b1),by omega⟩
def meltO:List Ln→List Ln→List Ln
 | [],b=>b
 | x::a,[]=>x::a
 | x::a,y::b=>if befO x y then x::meltO a (y::b)else y::meltO (x::a) b
termination_by a b=>a.length+b.length
theorem meltO_mem:∀ (a b:List Ln) (x:Ln),x∈meltO a b↔x∈a∨x∈b
 | [],b,x=>by simp [meltO]
 | y::a,[],x=>by simp [meltO]
 | y::a,z::b,x=>by
  unfold meltO;split
  ·rw [List.mem_cons,meltO_mem a (z::b) x,List.mem_cons,List.mem_cons,or_assoc]
  ·rw [List.mem_cons,meltO_mem (y::a) b x,List.mem_cons,List.mem_cons]
   constructor
   ·rintro (h | h | h)
    ·exact .inr (.inl h)
    ·exact .inl h
    ·exact .inr (.inr h)
   ·rintro (h | h | h)
    ·exact .inr (.inl h)
    ·exact .inl h
    ·exact .inr (.inr h)
termination_by a b=>a.length+b.length
theorem meltO_sorted:∀ (a b:List Ln),a.Pairwise LnLe→b.Pairwise LnLe→(meltO a b).Pairwise LnLe
 | [],b,_,hb=>by simpa [meltO] using hb
 | y::a,[],ha,_=>by simpa [meltO] using ha
 | y::a,z::b,ha,hb=>by
  obtain ⟨a1,a2⟩:=List.pairwise_cons.1 ha;obtain ⟨b1,b2⟩:=List.pairwise_cons.1 hb;unfold meltO;split
  ·rename_i h
   have hyz:LnLe y z:=by
    rcases befO_iff.1 h with k | ⟨k,k2⟩
    ·exact .inl k
    ·exact .inr ⟨k,by omega⟩
   refine List.pairwise_cons.2 ⟨fun x hx=>?_,meltO_sorted a (z::b) a2 hb⟩
   rcases (meltO_mem _ _ _).1 hx with h' | h'
   ·exact a1 x h'
   ·rcases List.mem_cons.1 h' with rfl | h'
    ·exact hyz
    ·exact Le.trans hyz (b1 x h')
  ·rename_i h
   have hzy:LnLe z y:=Le.of_not fun k=>h (befO_iff.2 k)
   refine List.pairwise_cons.2 ⟨fun x hx=>?_,meltO_sorted (y::a) b ha b2⟩
   rcases (meltO_mem _ _ _).1 hx with h' | h'
   ·rcases List.mem_cons.1 h' with rfl | h'
    ·exact hzy
    ·exact Le.trans hzy (a1 x h')
   ·exact b1 x h'
termination_by a b=>a.length+b.length
def joinO(a b:List Sp):List Sp:=packO (meltO (listO a) (listO b))
theorem join_canon{a b:List Sp}(ha:Canon a)(hb:Canon b):Canon (joinO a b)∧∀ x,hasO (joinO a b) x=(hasO a x||hasO b x):=by
 obtain ⟨h1,h2⟩:=pack_law (meltO_sorted _ _ (listO_sorted ha) (listO_sorted hb))
 refine ⟨h1,fun x=>?_⟩
 rw [joinO,h2,Bool.eq_iff_iff,List.contains_iff_mem,meltO_mem,Bool.or_eq_true,mem_listO,mem_listO]
theorem merge_join{a b l:List Sp}(ha:validO a=true)(hb:validO b=true)(hl:l.Perm (a++b))(hs:l.Pairwise SpLe) :
  mergeO l=joinO a b∧validO (joinO a b)=true:=by
 obtain ⟨a1,a2⟩:=valid_iff.1 ha
 obtain ⟨b1,b2⟩:=valid_iff.1 hb
 have h1:∀ s∈l,spanO s=true:=fun s h=>by
  rcases List.mem_append.1 (hl.mem_iff.1 h)with h | h
  ·exact a1 s h
  ·exact b1 s h
 obtain ⟨m1,m2⟩:=merge_law h1 hs
 obtain ⟨j1,j2⟩:=join_canon a2 b2
 have e:mergeO l=joinO a b:=canon_ext (valid_iff.1 m1).2 j1 fun x=>by
  rw [m2,j2,Bool.eq_iff_iff,Bool.or_eq_true,hasO_iff,hasO_iff,hasO_iff];constructor
  ·rintro ⟨s,h,hi⟩
   rcases List.mem_append.1 (hl.mem_iff.1 h)with h | h
   ·exact .inl ⟨s,h,hi⟩
   ·exact .inr ⟨s,h,hi⟩
  ·rintro (⟨s,h,hi⟩ | ⟨s,h,hi⟩)
   ·exact ⟨s,hl.mem_iff.2 (List.mem_append.2 (.inl h)),hi⟩
   ·exact ⟨s,hl.mem_iff.2 (List.mem_append.2 (.inr h)),hi⟩
 exact ⟨e,e▸m1⟩
theorem join_valid{a b:List Sp}(ha:validO a=true)(hb:validO b=true):validO (joinO a b)=true∧∀ x,hasO (joinO a b) x=(hasO a x||hasO b x):=by
 obtain ⟨a1,a2⟩:=valid_iff.1 ha
 obtain ⟨b1,b2⟩:=valid_iff.1 hb
 have hp:((a++b).mergeSort fun x y=>decide (x.p<y.p)||(x.p == y.p&&decide (x.f≤y.f))).Pairwise SpLe:=by
  have h:∀ x y:Sp,(decide (x.p<y.p)||(x.p == y.p&&decide (x.f≤y.f)))=true↔SpLe x y:=fun x y=>by simp [SpLe,Le]
  have k:=List.pairwise_mergeSort (le:=fun x y:Sp=>decide (x.p<y.p)||(x.p == y.p&&decide (x.f≤y.f))) (fun x y z h1 h2=>(h x z).2 (Le.trans ((h x y).1 h1) ((h y z).1 h2))) (fun x y=>by
   by_cases c:SpLe x y
   ·rw [(h x y).2 c]; rfl
   ·have:SpLe y x:=by
     have:=Le.of_not (p:=y.p) (n:=y.f) (q:=x.p) (m:=x.f) fun k=>c (by rcases k with k | ⟨k,k2⟩; exact .inl k; exact .inr ⟨k,by omega⟩)
     exact this
    rw [(h y x).2 this]; simp) (a++b)
  exact k.imp fun {x y}=>(h x y).1
 exact ⟨(merge_join ha hb (List.mergeSort_perm _ _) hp).2,(join_canon a2 b2).2⟩
end Go.Proofs.YtpefhfiehfkocaaGreatDoor
namespace Go.Proofs.YtpefhfiehfkocaaGreatDoor
open Go.RowKit Go.IntWalk
def Sp.row(s:Sp):List AV:=[.str s.p,.int .i64 s.f,.int .i64 s.t]
def decSpn:List AV→Option Sp
 | [.str p,.int .i64 f,.int .i64 t]=>some ⟨p,f,t⟩
 | _=>none
@[simp] theorem decSp_row(s:Sp):decSpn s.row=some s:=rfl
theorem decSp_of{r:List AV}{s:Sp}(h:decSpn r=some s):r=s.row:=by
 unfold decSpn at h; split at h
 ·injection h with h; subst h; rfl
 ·cases h
def Ln.row(x:Ln):List AV:=[.str x.p,.int .i64 x.n]
def decLn:List AV→Option Ln
 | [.str p,.int .i64 n]=>some ⟨p,n⟩
 | _=>none
@[simp] theorem decLn_row(x:Ln):decLn x.row=some x:=rfl
def spRows(l:List Sp):List (List AV):=l.map Sp.row
@[simp] theorem spRows_len{l:List Sp}:(spRows l).length=l.length:=by simp [spRows]
theorem spRows_get{l:List Sp}{i:Nat}{s:Sp}(h:l[i]?=some s):(spRows l)[i]?=some s.row:=by simp [spRows,h]
@[simp] theorem dec_spRows(l:List Sp):decAll decSpn (spRows l)=some l:=decAll_enc decSp_row l
theorem spRows_of{rs:List (List AV)}{l:List Sp}(h:decAll decSpn rs=some l):rs=spRows l:=decAll_of (enc:=Sp.row) (fun _ _=>decSp_of) h
def lnRows(l:List Ln):List (List AV):=l.map Ln.row
@[simp] theorem lnRows_len{l:List Ln}:(lnRows l).length=l.length:=by simp [lnRows]
@[simp] theorem dec_lnRows(l:List Ln):decAll decLn (lnRows l)=some l:=decAll_enc decLn_row l
structure Org where
 inn:List Sp
 by_:List Sp
 lst:List Sp
deriving DecidableEq
def Org.cells(o:Org):List AV:=[.sl (spRows o.inn),.sl (spRows o.by_),.sl (spRows o.lst)]
def decOrg:List AV→Option Org
 | [.sl a,.sl b,.sl c]=>match decAll decSpn a,decAll decSpn b,decAll decSpn c with
  | some a,some b,some c=>some ⟨a,b,c⟩
  | _,_,_=>none
 | _=>none
@[simp] theorem decOrg_cells(o:Org):decOrg o.cells=some o:=by simp [decOrg,Org.cells]
theorem decOrg_of{r:List AV}{o:Org}(h:decOrg r=some o):r=o.cells:=by
 unfold decOrg at h; split at h
 ·split at h
  ·rename_i h1 h2 h3
   injection h with h; subst h
   rw [spRows_of h1,spRows_of h2,spRows_of h3]; rfl
  ·cases h
 ·cases h
def okS(s:Sp):Bool:=decide (s.p.length≤2000000)
def okL(l:List Sp):Bool:=decide (l.length≤1000000)&&l.all okS
theorem okL_of{l:List Sp}(h:okL l=true):l.length≤1000000∧∀ s∈l,s.p.length≤2000000:=by
 simpa [okL,okS] using h
def okO(o:Org):Bool:=okL o.inn&&okL o.by_&&okL o.lst
theorem okO_of{o:Org}(h:okO o=true):okL o.inn=true∧okL o.by_=true∧okL o.lst=true:=by
 simpa [okO,and_assoc] using h
theorem box_sp{G:Gam}(s:Sp)(st:Bool)(h:Heap):opV G st h .box (some [.agg s.row])=some (.ptr h.length 0,h++[.cells s.row]):=op_boxed (h:=h) (v:=.agg s.row) (by simp [AV.cells,Sp.row])
theorem box_org{G:Gam}(o:Org)(st:Bool)(h:Heap):opV G st h .box (some [.agg o.cells])=some (.ptr h.length 0,h++[.cells o.cells]):=op_boxed (h:=h) (v:=.agg o.cells) (by simp [AV.cells,Org.cells])
theorem st3_new{h:Heap}{a b c:AV}{s:Sp}:stAV 3 (h++[.cells [a,b,c]]) (.ptr h.length 0) (.agg s.row)=some (h++[.cells s.row]):=by
 have:=st_all (h:=h++[Blk.cells [a,b,c]]) (l:=h.length) (n:=3) (vs:=[a,b,c]) (us:=s.row) (by simp) rfl rfl (by omega) rfl
 simpa [-stAV_ptr] using this
theorem ia_sp{l:List Sp}{i:Nat}{s:Sp}(h:l[i]?=some s)(H:Heap):iadrAV 3 H (.sl (spRows l)) (.int .i64 (i:Int))=some (.fptr s.row 0):=by
 have r1:=spRows_get h
 have:s.row.length=3:=rfl
 simp [iadrAV,r1,this]
theorem ld_fsp(s:Sp)(H:Heap):loadAV 3 true H (.fptr s.row 0)=some (.agg s.row):=by simp [loadAV,cut,mkVal,Sp.row]
theorem ld_fsp0(s:Sp)(H:Heap):loadAV 1 false H (.fptr s.row 0)=some (.str s.p):=by simp [loadAV,cut,mkVal,Sp.row]
end Go.Proofs.YtpefhfiehfkocaaGreatDoor
namespace Go.Proofs.YtpefhfiehfkocaaGreatDoor
open Go.RowKit Go.IntWalk
attribute [local congr] ite_congr
end Go.Proofs.YtpefhfiehfkocaaGreatDoor
namespace Go.Proofs.YtpefhfiehfkocaaGreatDoor
open Go.RowKit Go.IntWalk
def F_inside:List AV→Option AV
 | [.agg r]=>match decSpn r with
  | some s=>some (.bool (insO s))
  | none=>none
 | _=>none
def F_beh:List AV→Option AV
 | [.agg a,.agg b]=>match decSpn a,decSpn b with
  | some a,some b=>some (.bool (behO a b))
  | _,_=>none
 | _=>none
theorem ltB_dec{a b:Int}:ltB a b=decide (a<b):=rfl
attribute [local congr] ite_congr
theorem inside_ok{G:Gam}:∀ args r,F_inside args=some r→wpM G Mc.q72 (pureQ Rs.q72 r) [] (frInit Ks.q72 args) []:=by
 intro args r hF
 unfold F_inside at hF
 split at hF
 ·split at hF
  ·rename_i row s hs
   injection hF with hF; subst hF
   obtain rfl:=decSp_of hs;have ob:=fun st=>box_sp (G:=G) s st []
   have p1:∀ tl:Heap,loadAV 1 false (.cells s.row::tl) (.ptr 0 1)=some (.int .i64 s.f):=fun tl=>ld_cell (l:=0) rfl rfl
   have p2:∀ tl:Heap,loadAV 1 false (.cells s.row::tl) (.ptr 0 2)=some (.int .i64 s.t):=fun tl=>ld_cell (l:=0) rfl rfl
   have e:insO s=(!ltB s.f 0&&ltB s.f s.t&&!ltB 1024 s.t):=by
    simp only [insO,ltB_dec,← decide_not,Int.not_lt]
   rw [wpM_go,e];simp at ob;cases c1:ltB s.f 0 <;> cases c2:ltB s.f s.t <;> cases c3:ltB 1024 s.t <;>
    simp [Mc.q72,Ks.q72,frInit,ob,p1,p2,c1,c2,c3,pureQ,Rs.q72,-loadAV]
  ·cases hF
 ·cases hF
theorem behind_ok{G:Gam}:∀ args r,F_beh args=some r→wpM G Mc.q74 (pureQ Rs.q74 r) [] (frInit Ks.q74 args) []:=by
 intro args r hF
 unfold F_beh at hF
 split at hF
 ·split at hF
  ·rename_i ra rb a b ha hb
   injection hF with hF; subst hF
   obtain rfl:=decSp_of ha;obtain rfl:=decSp_of hb;have ob:=fun st=>box_sp (G:=G) a st []
   have ob2:=fun st=>box_sp (G:=G) b st [.cells a.row]
   have p0:loadAV 1 false [.cells a.row,.cells b.row] (.ptr 0 0)=some (.str a.p):=ld_cell (l:=0) rfl rfl;have p2:loadAV 1 false [.cells a.row,.cells b.row] (.ptr 0 2)=some (.int .i64 a.t):=ld_cell (l:=0) rfl rfl;have q0:loadAV 1 false [.cells a.row,.cells b.row] (.ptr 1 0)=some (.str b.p):=ld_cell (l:=1) rfl rfl;have q1:loadAV 1 false [.cells a.row,.cells b.row] (.ptr 1 1)=some (.int .i64 b.f):=ld_cell (l:=1) rfl rfl;have e:behO a b=(Op.bytesLess a.p b.p||(a.p == b.p&&ltB a.t b.f)):=rfl;rw [wpM_go,e];simp at ob ob2;generalize a.row=ra at *;generalize b.row=rb at *;cases c1:Op.bytesLess a.p b.p <;> cases c2:a.p == b.p <;> cases c3:ltB a.t b.f <;>
    simp [Mc.q74,Ks.q74,frInit,ob,ob2,p0,p2,q0,q1,strBin,c1,c2,c3,pureQ,Rs.q74,-loadAV]
  ·cases hF
 ·cases hF
theorem use_inside{G:Gam}(h:G Fn.q72=some (.pure F_inside))(s:Sp)(st:Bool)(H:Heap):opV G st H (.call Fn.q72) (some [.agg s.row])=some (.bool (insO s),H):=
 op_call h (us:=[.agg s.row]) rfl (by simp [F_inside]) (.inl rfl)
theorem use_behind{G:Gam}{f:FuncId}(h:G f=some (.pure F_beh))(a b:Sp)(st:Bool)(H:Heap):opV G st H (.call f) (some [.agg a.row,.agg b.row])=some (.bool (behO a b),H):=
 op_call h (us:=[.agg a.row,.agg b.row]) rfl (by simp [F_beh]) (.inl rfl)
end Go.Proofs.YtpefhfiehfkocaaGreatDoor
namespace Go.Proofs.YtpefhfiehfkocaaGreatDoor
open Go.RowKit Go.IntWalk
def prevO(l:List Sp)(i:Nat):Option Sp:=if i=0 then none else l[i-1]?
theorem prevO_succ{l:List Sp}{i:Nat}{s:Sp}(h:l[i]?=some s):prevO l (i+1)=some s:=by simp [prevO,h]
def F_lValid:List AV→Option AV
 | [.sl rows]=>match decAll decSpn rows with
  | some l=>if okL l=true then some (.bool (validO l))else none
  | none=>none
 | _=>none
theorem use_lValid{G:Gam}{f:FuncId}(h:G f=some (.pure F_lValid)){l:List Sp}(hl:okL l=true)(st:Bool)(H:Heap):opV G st H (.call f) (some [.sl (spRows l)])=some (.bool (validO l),H):=
 op_call h (us:=[.sl (spRows l)]) rfl (by simp only [F_lValid,dec_spRows]; rw [if_pos hl]) (.inl rfl)
theorem path_use'{G:Gam}(hP:G Fn.tree_Path=some (.pure F_Path)){s:Bs}(hs:s.length≤2000000)(st:Bool)(h:Heap):opV G st h (.call Fn.tree_Path) (some [.str s])=some (.int .i64 (if pathOK s then 0 else 2),h):=
 op_call hP (us:=[.str s]) rfl (F1_use (A:=eStr) (R:=eInt) (f:=fun s=>if s.length<4294967281 then some (if pathOK s then 0 else 2)else none) (x:=s) (r:=if pathOK s then 0 else 2) (if_pos (by omega))) (.inl rfl)
theorem path_eqB'(s:Bs):eqB (if pathOK s then 0 else 2) 0=pathOK s:=by cases pathOK s <;> rfl
theorem wrapP{i:Nat}(h0:0<i)(h:i≤big):IntKind.i64.wrap ((i:Int)-1)=((i-1:Nat):Int):=by
 unfold big at h
 rw [i64_in _ ⟨by omega,by omega⟩]; omega
theorem trunc_zero{fr:List (Nat×AV)}{h:Heap}(hf:lowFr 0 fr=true):trunc 0 fr h=[]:=by
 unfold trunc; simp [hf,lowH]
theorem lValid_L0(G:Gam)(hI:G Fn.q72=some (.pure F_inside))(hB:G Fn.q74=some (.pure F_beh))(hP:G Fn.tree_Path=some (.pure F_Path))(l:List Sp)(hl:l.length≤1000000)(hp:∀ s∈l,s.p.length≤2000000):∀ (rest:List Sp) (i:Nat),l.drop i=rest→i≤l.length→
  headM G [3,4] Mc.q81_L0 0 [.blk 0,.seq (.seq (.reg [kz 2 .mv [.c (.bool true)]]) .ret)] (pureQ Rs.q81 (.bool (validF (prevO l i) rest)))
   [(0,.sl (spRows l)),(2,.bool false),(3,.junk),(4,.junk),(5,.sl (spRows l)),(6,.int .i64 l.length),(7,.int .i64 i)] []
 | [],i,hd,hi=>by
  have hi2:=drop_nil hd;have hlt:ltB (i:Int) (l.length:Int)=false:=ltB_not.2 (by omega);have e:validF (prevO l i) []=true:=by cases prevO l i <;> rfl
  refine head_go (Mc.q81_L0.eq_1) ?_
  simp [hlt,e,vtrunc_len (n:=0) (h:=[]) rfl,pureQ,Rs.q81]
 | s::rest,i,hd,hi=>by
  obtain ⟨hlt,hx,hxd⟩:=drop_cons hd;have hq:ltB (i:Int) (l.length:Int)=true:=ltB_iff.2 (by omega);have hw:=wrap1 (i:=i) (by unfold big; omega);have ia:=ia_sp hx;have l3:=ld_fsp s;have sn:stAV 3 [.cells [.str [],.int .i64 0,.int .i64 0]] (.ptr 0 0) (.agg s.row)=some [.cells s.row]:=st3_new (h:=[]);have ls:loadAV 3 true [.cells s.row] (.ptr 0 0)=some (.agg s.row):=by simp [loadAV,cut,mkVal,Sp.row]
  have lp:loadAV 1 false [.cells s.row] (.ptr 0 0)=some (.str s.p):=ld_cell (l:=0) rfl rfl;have c1:=use_inside hI s;have c2:=path_use' (G:=G) hP (hp s (List.mem_of_getElem? hx));have q2:=path_eqB' s.p;generalize (if pathOK s.p then (0:Int)else 2)=vp at c2 q2;have ih:=lValid_L0 G hI hB hP l hl hp rest (i+1) hxd (by omega);rw [prevO_succ hx]at ih;refine head_go (Mc.q81_L0.eq_1) ?_
  rw [vtrunc_len (n:=0) (h:=[]) rfl];by_cases h0:i=0
  ·have e:validF (prevO l i) (s::rest)=(insO s&&pathOK s.p&&validF (some s) rest):=by simp only [prevO,if_pos h0]; rfl
   have g0:ltB 0 (i:Int)=false:=ltB_not.2 (by omega);rw [e];generalize spRows l=R at *;cases k1:insO s <;> cases k2:pathOK s.p <;> rw [k1]at c1 <;> rw [k2]at q2 <;>
    simp [hq,ia,l3,sn,ls,lp,c1,c2,q2,g0,hw,pureQ,Rs.q81,-loadAV,-stAV_ptr]
   refine head_of ?_
   rw [trunc_zero (by simp [lowFr,low])];simpa [Rs.q81] using ih
  ·obtain ⟨y,hy⟩:∃ y,l[i-1]?=some y:=⟨_,List.getElem?_eq_getElem (by omega)⟩
   have g0:ltB 0 (i:Int)=true:=ltB_iff.2 (by omega);have hwp:=wrapP (i:=i) (by omega) (by unfold big; omega);have ia2:=ia_sp hy;have l3y:=ld_fsp y;have c3:=use_behind hB y s;have e:validF (prevO l i) (s::rest)=(insO s&&pathOK s.p&&behO y s&&validF (some s) rest):=by
    simp only [prevO,if_neg h0,hy]; rfl
   rw [e];generalize spRows l=R at *;cases k1:insO s <;> cases k3:behO y s <;> cases k2:pathOK s.p <;> rw [k1]at c1 <;> rw [k2]at q2 <;> rw [k3]at c3 <;>
    simp [hq,ia,ia2,l3,l3y,sn,ls,lp,c1,c2,c3,q2,g0,hw,hwp,pureQ,Rs.q81,-loadAV,-stAV_ptr]
   refine head_of ?_
   rw [trunc_zero (by simp [lowFr,low])];simpa [Rs.q81] using ih
theorem lValid_ok{G:Gam}(hI:G Fn.q72=some (.pure F_inside))(hB:G Fn.q74=some (.pure F_beh))(hP:G Fn.tree_Path=some (.pure F_Path)):∀ args r,F_lValid args=some r→wpM G Mc.q81 (pureQ Rs.q81 r) [] (frInit Ks.q81 args) []:=by
 intro args r hF
 unfold F_lValid at hF
 split at hF
 ·split at hF
  ·rename_i l hl
   split at hF
   ·rename_i hok
    injection hF with hF; subst hF
    obtain rfl:=spRows_of hl;obtain ⟨k1,k2⟩:=okL_of hok;have ih:=lValid_L0 G hI hB hP l k1 k2 l 0 rfl (by omega);rw [wpM_go];simp [Mc.q81,Ks.q81,frInit,lenAV];simpa [prevO,validO] using ih
   ·cases hF
  ·cases hF
 ·cases hF
end Go.Proofs.YtpefhfiehfkocaaGreatDoor
