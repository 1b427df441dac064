/- slices.Clone,as a contract: what is copied is an array of its own. slices.Grow of a nil slice,as a contract. Files by their paths: the order,sorting,one sorted list. slices.SortFunc of files by th -/
import Derived.Test.YtpefhfiehfkocaaGreatDoorAm10
import Derived.Test.YtpefhfiehfkocaaGreatDoorAm9
import Derived.Sort.Walk0
import Derived.Sort.LotA
import Derived.Lib.Bytealg
import Derived.Shelf.SlSortCmp.WholeK
import Derived.Test.YtpefhfiehfkocaaGreatDoorRecMc
import Derived.Test.YtpefhfiehfkocaaGreatDoorAm11
import Derived.Test.YtpefhfiehfkocaaGreatDoorRmI
namespace Go.Proofs.YtpefhfiehfkocaaGreatDoor
open Go.RowKit
theorem add_arrG{B:Base}{C:Cx}{h:Heap}{w w':World}(hi:Inv B C h w){rows:List (List AV)}{cur:Array Value}{e:TypeId}{size cap g:Nat}(hg:w.heap.size≤g)(hb:Below w.heap.size w w')(hn:w'.heap[g]?=some (.cells cur e (0,0)))(hcap:rows.length≤cap)(hmax:cap≤maxLen)
  (hsz:∀ row∈rows,row.length=size) (hcur:cur.size=cap*size) (hr:RelL (Cx.pure C.im) rows.flatten (cur.toList.take (rows.length*size))) (h1:∀ u∈cur.toList.take (rows.length*size),u.oneCell'=true) :
  Inv B (C.addAr h.length 0 (some ⟨g,cap,size,e,false⟩)) (h++[.arr size 0 rows true]) w'∧Rel (C.addAr h.length 0 (some ⟨g,cap,size,e,false⟩)) (.own h.length 0 rows.length) (.slice (some ⟨g,0,none⟩) rows.length cap)∧
   C.Le (C.addAr h.length 0 (some ⟨g,cap,size,e,false⟩)):=by
 have hnn:=(hi.fr h.length (Nat.le_refl _)).2 0
 have he:=ext_addAr (w:=w) (some ⟨g,cap,size,e,false⟩) hnn
 have har:(C.addAr h.length 0 (some ⟨g,cap,size,e,false⟩)).ar h.length 0=some (some ⟨g,cap,size,e,false⟩):=by simp [Cx.addAr]
 refine ⟨hi.add he hb (fun b o u x=>im_grow hi hb b o u x) (fun b o u x=>hi.one b o u x) (blk:=.arr size 0 rows true) (.inr ⟨_,cur,har,Nat.le_trans hi.hB hg,hcap,hmax,hsz,hn,hcur,hr,h1,fun _ o=>?_,(fun e=>by cases e),rfl,tagArr_none e rows⟩) (fun b hb=>?_) (fun l hl=>rfl) (fun l v hl=>by simp [Cx.addAr,hl]) (fun ne' tg' sz' ver rows wr e v hv=>?_),.own _ _ _ ⟨g,cap,size,e,false⟩ har hcap,he.le⟩
 ·show C.im g o=none
  cases hc:C.im g o with
  | none=>rfl
  | some u=>have:=cell_lt (hi.im _ _ _ hc); omega
 ·simp only [blockOf,har,Option.some.injEq]at hb; omega
 ·injection e with e000 e00 e0 e1; subst e1
  simp only [Cx.addAr,true_and];rw [if_neg (by omega)];exact (hi.fr h.length (Nat.le_refl _)).2 v
def cloneR(size bytes:Nat)(h:Heap)(rows:List (List AV)):Option (AV×Heap):=
 if rows.isEmpty then some (.sl [],h)
 else if sizesOk size rows∧rows.length*bytes≤140737488355328∧rows.length≤maxLen then some (.own h.length 0 rows.length,h++[.arr size 0 rows true])else none
def F_CloneG(size bytes:Nat):List AV→Heap→Option (AV×Heap)
 | [.nils],h=>some (.nils,h)
 | [.sl rows],h=>cloneR size bytes h rows
 | [.own l ver n],h=>match h[l]? with
  | some (.arrX false none sz ver' rows _wr)=>if ver=ver'∧n=rows.length∧sz=size then cloneR size bytes h rows else none
  | _=>none
 | _,_=>none
theorem clone_gen{P:Program}{gv:Gv}{f:FuncId}{e:TypeId}{size bytes:Nat}
  (h1:∀ (a:Addr) (n c:Nat) (news:List Value) (w:World),news.length=n*size→n≤maxLen→n*bytes≤140737488355328→(∀ j u,news[j]?=some u→w.cell? (a.add j)=some u)→(∀ u∈news,u.oneCell'=true)→
   Calls P f #[.slice (some a) n c] w fun o w'=>(∃ v',o=.returned v'∧w'.ownsRow w.heap.size e size v' n news)∧Below w.heap.size w w')
  (h2:∀ (n c:Nat) (w:World),Calls P f #[.slice none n c] w fun o w'=>o=.returned (.slice none 0 0)∧w'=w):GenOK P gv f (F_CloneG size bytes):=by
 intro B C h w args r h' vals hgv hi hr hF
 have nil:∀ {r:AV} {h':Heap},cloneR size bytes h []=some (r,h')→r=.sl []∧h'=h:=fun hc=>by
  simp only [cloneR,List.isEmpty_nil,if_true,Option.some.injEq,Prod.mk.injEq]at hc;exact ⟨hc.1.symm,hc.2.symm⟩
 have some':∀ {rows:List (List AV)} {a:Addr} {c:Nat} {news:List Value},cloneR size bytes h rows=some (r,h')→RelL (Cx.pure C.im) rows.flatten news→(∀ j u,news[j]?=some u→w.cell? (a.add j)=some u)→(∀ u∈news,u.oneCell'=true)→(rows≠[]→news.length=rows.length*size)→
   Calls P f #[.slice (some a) rows.length c] w fun o w'=>∃ v D,o=.returned v∧C.Le D∧Inv B D h' w'∧Rel D r v∧Keep B w w':=fun {rows a c news} hc hrel hcell hone hlen=>by
  cases rows with
  | nil=>
   obtain ⟨rfl,rfl⟩:=nil hc;refine (h1 a 0 c [] w (by simp) (by simp) (by simp) (fun j u hj=>by simp at hj) (fun u hu=>by cases hu)).mono fun o w' hk=>?_
   obtain ⟨⟨v',rfl,hown⟩,hbel⟩:=hk;rcases hown.2 with ⟨rfl,_⟩ | ⟨g,cap,cur,rfl,_⟩
   ·exact ⟨_,C,rfl,.refl C,hi.grow hbel,.slnil,.grown hbel hi.hB⟩
   ·exact ⟨_,C,rfl,.refl C,hi.grow hbel,.slz _ _,.grown hbel hi.hB⟩
  | cons row rs=>
   simp only [cloneR,List.isEmpty_cons,Bool.false_eq_true,if_false]at hc;split at hc
   ·rename_i hcond
    obtain ⟨s1,s2,s3⟩:=hcond;simp only [Option.some.injEq,Prod.mk.injEq]at hc;obtain ⟨rfl,rfl⟩:=hc;refine (h1 a (row::rs).length c news w (hlen (by simp)) s3 s2 hcell hone).mono fun o w' hk=>?_
    obtain ⟨⟨v',rfl,hown⟩,hbel⟩:=hk;rcases hown.2 with ⟨_,hz⟩ | ⟨g,cap,cur,rfl,q1,q2,q3,q4,q5,q6⟩
    ·simp at hz
    ·obtain ⟨t1,t2,t3⟩:=add_arrG (rows:=row::rs) hi q1 hbel q2 q3 q4 (sizesOk_all s1) q5 (by rw [q6]; exact hrel) (by rw [q6]; exact hone)
     exact ⟨_,_,rfl,t3,t1,t2,.grown hbel hi.hB⟩
   ·cases hc
 unfold F_CloneG at hF
 split at hF
 ·obtain ⟨v,us,e1,hv,hr⟩:=hr.inv_cons
  have:=hr.inv_nil; subst this;have hvals:vals=#[v]:=by apply Array.ext'; simpa using e1
  subst hvals;simp only [Option.some.injEq,Prod.mk.injEq]at hF; obtain ⟨rfl,rfl⟩:=hF;cases hv
  refine (h2 0 0 w).mono fun o w' hk=>?_
  obtain ⟨rfl,rfl⟩:=hk;exact ⟨_,C,rfl,.refl C,hi,.nils,.refl _ _⟩
 ·rename_i rows
  obtain ⟨v,us,e1,hv,hr⟩:=hr.inv_cons;have:=hr.inv_nil; subst this;have hvals:vals=#[v]:=by apply Array.ext'; simpa using e1
  subst hvals;cases hv with
  | slnil=>
   obtain ⟨rfl,rfl⟩:=nil hF;refine (h2 0 0 w).mono fun o w' hk=>?_
   obtain ⟨rfl,rfl⟩:=hk;exact ⟨_,C,rfl,.refl C,hi,.slnil,.refl _ _⟩
  | slz a cap=>exact some' (rows:=[]) (news:=[]) hF .nil (fun j u hj=>by simp at hj) (fun u hu=>by cases hu) (fun h=>absurd rfl h)
  | sl _ b o cap size' us hcap g1 g2 g3=>
   have hss:rows≠[]→sizesOk size rows=true:=fun hne=>by
    cases rows with
    | nil=>exact absurd rfl hne
    | cons x y=>
     simp only [cloneR,List.isEmpty_cons,Bool.false_eq_true,if_false]at hF;split at hF
     ·rename_i hc; exact hc.1
     ·cases hF
   obtain ⟨l,k1,k2⟩:=flat_cells (size:=size') rows o us (fun row hrow=>by
    obtain ⟨i,hi'⟩:=List.mem_iff_getElem?.1 hrow;exact g1 i row hi') g2 g3
   refine some' (news:=l) hF k1 (fun j u hj=>by rw [Addr.add_lit]; exact hi.im _ _ _ (k2 j u hj)) (fun u hu=>?_) (fun hne=>?_)
   ·obtain ⟨j,hj⟩:=List.mem_iff_getElem?.1 hu
    exact hi.one _ _ _ (k2 j u hj)
   ·rw [← k1.1,flatten_len rows (sizesOk_all (hss hne))]
 ·rename_i l ver n
  split at hF
  ·rename_i sz ver' rows wr hl
   split at hF
   ·rename_i hc
    obtain ⟨rfl,rfl,rfl⟩:=hc;obtain ⟨v,us,e1,hv,hr⟩:=hr.inv_cons;have:=hr.inv_nil; subst this;have hvals:vals=#[v]:=by apply Array.ext'; simpa using e1
    subst hvals;generalize hn:rows.length=n at hv;cases hv with
    | ownnil _ _ har=>
     have hx:rows=[]:=List.length_eq_zero_iff.1 hn;subst hx;obtain ⟨rfl,rfl⟩:=nil hF;refine (h2 0 0 w).mono fun o w' hk=>?_
     obtain ⟨rfl,rfl⟩:=hk;exact ⟨_,C,rfl,.refl C,hi,.slnil,.refl _ _⟩
    | own _ _ _ r' har hcap=>
     rcases hi.ok l _ hl with ⟨k1,_⟩ | ⟨r2,cur,k1,k2,k3,k4,k5,k6,k7,k8,k8',k9⟩
     ·rw [har]at k1; cases k1
     ·rw [har]at k1; injection k1 with k1; injection k1 with k1; subst k1
      subst hn;refine some' (news:=cur.toList.take (rows.length*r'.size)) hF k8 (fun j u hj=>?_) k8' (fun hne=>?_)
      ·rw [Addr.add_lit,cell_of_heap k6]
       rw [List.getElem?_take]at hj;split at hj
       ·simpa using hj
       ·cases hj
      ·rw [← k8.1,flatten_len rows k5]
       have hs:sizesOk sz rows=true:=by
        cases rows with
        | nil=>exact absurd rfl hne
        | cons x y=>
         simp only [cloneR,List.isEmpty_cons,Bool.false_eq_true,if_false]at hF;split at hF
         ·rename_i hc; exact hc.1
         ·cases hF
       cases rows with
       | nil=>exact absurd rfl hne
       | cons x y=>
        have e1:=k5 x (by simp);have e2:=sizesOk_all hs x (by simp);rw [← e1,e2]
   ·cases hF
  ·cases hF
 ·cases hF
end Go.Proofs.YtpefhfiehfkocaaGreatDoor
namespace Go.Proofs.YtpefhfiehfkocaaGreatDoor
open Go.RowKit
def F_GrowG(size:Nat):List AV→Heap→Option (AV×Heap)
 | [.nils,.int .i64 k],h=>if 0<k∧k≤1000000 then some (.own h.length 0 0,h++[.arr size 0 [] true])else if k=0 then some (.nils,h)else none
 | _,_=>none
theorem grow_gen{P:Program}{gv:Gv}{f:FuncId}{e:TypeId}{size:Nat}
  (h1:∀ (n:Nat) (w:World),0<n→n≤1000000→Calls P f #[.slice none 0 0,.int .i64 n] w fun o w'=>∃ cap cur,o=.returned (.slice (some ⟨w.heap.size,0,none⟩) 0 cap)∧w'.heap[w.heap.size]?=some (.cells cur e (0,0))∧cur.size=cap*size∧cap≤maxLen∧Below w.heap.size w w')
  (h2:∀ (w:World),Calls P f #[.slice none 0 0,.int .i64 0] w fun o w'=>o=.returned (.slice none 0 0)∧w'=w):GenOK P gv f (F_GrowG size):=by
 intro B C h w args r h' vals hgv hi hr hF
 unfold F_GrowG at hF
 split at hF
 ·rename_i k
  obtain ⟨v,us,e1,hv,hr⟩:=hr.inv_cons;obtain ⟨v2,us,rfl,hv2,hr⟩:=hr.inv_cons;have:=hr.inv_nil; subst this;have hvals:vals=#[v,v2]:=by apply Array.ext'; simpa using e1
  subst hvals;cases hv
  have:=int_inv hv2; subst this;split at hF
  ·rename_i hk
   obtain ⟨n,rfl⟩:∃ n:Nat,k=n:=⟨k.toNat,by omega⟩
   simp only [Option.some.injEq,Prod.mk.injEq]at hF; obtain ⟨rfl,rfl⟩:=hF;refine (h1 n w (by omega) (by omega)).mono fun o w' hk=>?_
   obtain ⟨cap,cur,rfl,q1,q2,q3,hbel⟩:=hk;obtain ⟨t1,t2,t3⟩:=add_arr (rows:=[]) hi hbel q1 (Nat.zero_le _) q3 (fun _ hr=>by cases hr) q2 (by simp; exact .nil) (fun u hu=>by simp at hu);exact ⟨_,_,rfl,t3,t1,t2,.grown hbel hi.hB⟩
  ·split at hF
   ·rename_i hk
    subst hk;simp only [Option.some.injEq,Prod.mk.injEq]at hF; obtain ⟨rfl,rfl⟩:=hF;refine (h2 w).mono fun o w' hk=>?_
    obtain ⟨rfl,rfl⟩:=hk;exact ⟨_,C,rfl,.refl C,hi,.nils,.refl _ _⟩
   ·cases hF
 ·cases hF
end Go.Proofs.YtpefhfiehfkocaaGreatDoor
namespace Go.Proofs.YtpefhfiehfkocaaGreatDoor
open Go.RowKit
abbrev PD:=Bs×Bs
def encPD(x:PD):List Value:=[.string ⟨x.1.toArray⟩,.string ⟨x.2.toArray⟩]
def rowPD(x:PD):List AV:=[.str x.1,.str x.2]
def decPD:List (List AV)→Option (List PD)
 | []=>some []
 | [.str p,.str d]::r=>(decPD r).map ((p,d)::·)
 | _=>none
theorem decPD_ed:∀ {rows:List (List AV)} {ps:List PD},decPD rows=some ps→rows=ps.map rowPD
 | [],ps,h=>by simp [decPD]at h; subst h; rfl
 | r::rs,ps,h=>by
  unfold decPD at h;split at h
  ·rename_i e; cases e
  ·rename_i p d r' e
   cases e
   simp only [Option.map_eq_some_iff]at h;obtain ⟨qs,h1,rfl⟩:=h;rw [decPD_ed h1]; rfl
  ·cases h
theorem decPD_de:∀ ps:List PD,decPD (ps.map rowPD)=some ps
 | []=>rfl
 | (p,d)::r=>by
  have ih:=decPD_de r;simp [decPD,rowPD]at ih ⊢;simpa [rowPD] using ih
def leqP(x y:PD):Bool:=!Op.bytesLess y.1 x.1
theorem leqP_iff{x y:PD}:leqP x y=true↔x.1≤y.1:=by
 unfold leqP; rw [Go.Proofs.bytesLess_eq]
 simp only [Bool.not_eq_true',decide_eq_false_iff_not]
 exact List.not_lt
theorem leqP_trans{x y z:PD}(h1:leqP x y=true)(h2:leqP y z=true):leqP x z=true:=by
 rw [leqP_iff]at *; exact List.le_trans h1 h2
theorem leqP_total{x y:PD}(h:¬ leqP x y=true):leqP y x=true:=by
 rw [leqP_iff]at *
 exact (List.le_total x.1 y.1).resolve_left h
def insP(x:PD):List PD→List PD
 | []=>[x]
 | y::r=>if leqP x y then x::y::r else y::insP x r
def sortPD:List PD→List PD
 | []=>[]
 | x::r=>insP x (sortPD r)
theorem insP_perm(x:PD):∀ l,(insP x l).Perm (x::l)
 | []=>.refl _
 | y::r=>by
  unfold insP;split
  ·exact .refl _
  ·exact ((insP_perm x r).cons y).trans (.swap x y r)
theorem sortPD_perm:∀ l,(sortPD l).Perm l
 | []=>.refl _
 | x::r=>(insP_perm x _).trans ((sortPD_perm r).cons x)
theorem insP_sorted(x:PD):∀ {l:List PD},l.Pairwise (fun a b=>leqP a b=true)→(insP x l).Pairwise (fun a b=>leqP a b=true)
 | [],_=>by simp [insP]
 | y::r,h=>by
  obtain ⟨h1,h2⟩:=List.pairwise_cons.1 h;unfold insP;split
  ·rename_i hx
   refine List.pairwise_cons.2 ⟨fun z hz=>?_,h⟩
   rcases List.mem_cons.1 hz with rfl | hz
   ·exact hx
   ·exact leqP_trans hx (h1 z hz)
  ·rename_i hx
   refine List.pairwise_cons.2 ⟨fun z hz=>?_,insP_sorted x h2⟩
   rcases List.mem_cons.1 ((insP_perm x r).subset hz)with rfl | hz
   ·exact leqP_total hx
   ·exact h1 z hz
theorem sortPD_sorted:∀ l,(sortPD l).Pairwise (fun a b=>leqP a b=true)
 | []=>.nil
 | x::r=>insP_sorted x (sortPD_sorted r)
def distP:List PD→Bool
 | []=>true
 | x::r=>r.all (fun y=>decide (x.1≠y.1))&&distP r
theorem distP_iff:∀ {l:List PD},distP l=true↔l.Pairwise (fun a b=>a.1≠b.1)
 | []=>by simp [distP]
 | x::r=>by simp [distP,List.pairwise_cons,distP_iff (l:=r)]
theorem distP_one{l:List PD}(h:distP l=true){x y:PD}(hx:x∈l)(hy:y∈l)(e:x.1=y.1):x=y:=by
 rw [distP_iff]at h
 induction l with
 | nil=>cases hx
 | cons z r ih=>
  obtain ⟨h1,h2⟩:=List.pairwise_cons.1 h;rcases List.mem_cons.1 hx with hx1 | hx1
  ·rcases List.mem_cons.1 hy with hy1 | hy1
   ·rw [hx1,hy1]
   ·subst hx1; exact absurd e (h1 y hy1)
  ·rcases List.mem_cons.1 hy with hy1 | hy1
   ·subst hy1; exact absurd e.symm (h1 x hx1)
   ·exact ih h2 hx1 hy1
theorem distP_perm{l m:List PD}(h:l.Perm m):distP l=true→distP m=true:=by
 rw [distP_iff,distP_iff]
 exact fun k=>h.pairwise k (fun hab=>hab.symm)
theorem sorted_one{l m:List PD}(hd:distP l=true)(hp:m.Perm l)(hs:m.Pairwise (fun a b=>leqP a b=true)):m=sortPD l:=by
 refine List.Perm.eq_of_pairwise (le:=fun x y=>leqP x y=true) (fun a b ha hb h1 h2=>?_) hs (sortPD_sorted l) (hp.trans (sortPD_perm l).symm)
 rw [leqP_iff]at h1 h2
 exact distP_one hd (hp.subset ha) ((sortPD_perm l).subset hb) (List.le_antisymm h1 h2)
def F_SortPD(gs:List FuncId):List AV→Heap→Option (AV×Heap)
 | [.own l ver n,.fn g []],h=>match h[l]? with
  | some (.arrX false none 2 ver' rows true)=>match decPD rows with
   | some ps=>if gs.contains g∧ver=ver'∧n=ps.length∧n≤big∧distP ps=true then some (.tup [],h.set l (.arr 2 ver ((sortPD ps).map rowPD) true))else none
   | none=>none
  | _=>none
 | _,_=>none
end Go.Proofs.YtpefhfiehfkocaaGreatDoor
namespace Go.Proofs.YtpefhfiehfkocaaGreatDoor
open Go.RowKit
theorem cmp_lt:∀ a b:Bs,decide (Lib.compareBytes a b<0)=decide (a<b)
 | [],[]=>by simp [Lib.compareBytes]
 | [],_::_=>by simp [Lib.compareBytes]
 | _::_,[]=>by simp [Lib.compareBytes]
 | a::x,b::y=>by
  have ih:=cmp_lt x y;simp only [Lib.compareBytes,List.cons_lt_cons_iff];by_cases h1:a<b
  ·simp [h1]
  ·by_cases h2:b<a
   ·have h3:¬ a=b:=fun e=>by subst e; exact h1 h2
    simp [h1,h2,h3]
   ·have h3:a=b:=UInt8.le_antisymm (UInt8.not_lt.1 h2) (UInt8.not_lt.1 h1)
    subst h3;simpa [h1] using ih
def cfP(x y:PD):Int:=Lib.compareBytes x.1 y.1
theorem ltP(x y:PD):Go.Proofs.ltOf cfP x y=Go.Sort.ltStr x.1 y.1:=cmp_lt x.1 y.1
theorem swoP:Go.Sort.SWO (Go.Proofs.ltOf cfP) where
 irrefl x:=by rw [ltP]; exact Go.Sort.swo_ltStr.irrefl x.1
 trans x y z h1 h2:=by rw [ltP]at h1 h2 ⊢; exact Go.Sort.swo_ltStr.trans _ _ _ h1 h2
 ntrans x y z h1 h2:=by rw [ltP]at h1 h2 ⊢; exact Go.Sort.swo_ltStr.ntrans _ _ _ h1 h2
theorem heap_putRowV(w:World)(b:Nat)(d:Array Value)(k:Nat):(Go.Sort.putRow id w b 0 d).heap[k]?=if b=k then (w.heap[k]?).map (Go.Sort.onCells (Go.Sort.putCells id 0 d))else w.heap[k]?:=by
 simp only [Go.Sort.putRow,Go.Sort.mapBlock]
 rw [Array.getElem?_modify]
theorem turn_flat{B:Base}{C:Cx}{h:Heap}{w w':World}(hi:Inv B C h w){l ver sz:Nat}{rows rows':List (List AV)}{F:Array Value}{r:RowAt}(hl:h[l]?=some (.arr sz ver rows true))(har:C.ar l ver=some (some r))(hlen:rows'.length=rows.length)
  (hrow:∀ x∈rows',x.length=sz) (hrel:RelL (Cx.pure C.im) rows'.flatten F.toList) (hone:∀ u∈F.toList,u.oneCell'=true)
  (hos:w'.os=w.os) (ht:w'.tape=w.tape) (ho:w'.output=w.output) {os:Array Obj} (hh:w'.heap=(Go.Sort.putRow id w r.block 0 F).heap++os) :
  Inv B C (h.set l (.arr sz ver rows' true)) w'∧Keep B w w':=by
 have hsize:(Go.Sort.putRow id w r.block 0 F).heap.size=w.heap.size:=by simp
 have hget:∀ k,k<w.heap.size→w'.heap[k]?=if r.block=k then (w.heap[k]?).map (Go.Sort.onCells (Go.Sort.putCells id 0 F))else w.heap[k]?:=fun k hk=>by
  rw [hh,Array.getElem?_append_left (by rw [hsize]; exact hk),heap_putRowV]
 have hle:w.heap.size≤w'.heap.size:=by rw [hh,Array.size_append,hsize]; omega
 rcases hi.ok l _ hl with ⟨k1,_⟩ | ⟨r',cur,k1,k2,k3,k4,k5,k6,k7,k8,k8',k9,k10,k11,k12⟩
 ·rw [har]at k1; cases k1
 rw [har]at k1; injection k1 with k1; injection k1 with k1; subst k1
 have hb:r.block<w.heap.size:=heap_lt k6
 have hnew:w'.heap[r.block]?=some (.cells (Go.Sort.putCells id 0 F cur) r.elem r.fz):=by
  rw [hget _ hb,if_pos rfl,k6]; rfl
 have hoth:∀ k,k<w.heap.size→k≠r.block→w'.heap[k]?=w.heap[k]?:=fun k hk hne=>by rw [hget k hk,if_neg (fun e=>hne e.symm)]
 refine ⟨hi.turn hl (.refl C) hle (fun b hb' hbl=>⟨hoth b hbl (fun e=>hb' (by simp [blockOf,har,e])),fun _=>rfl⟩) (fun b o u hu=>?_) hi.one ?_ (fun b hb=>.inl hb) hi.fr (arr_fv hi hl),⟨⟨hos,ht,ho,hle,fun k hk=>hoth k (by have:=hi.hB; omega) (by omega)⟩,fun k c hk=>(hoth k (heap_lt hk) (fun e=>by subst e; rw [k6]at hk; cases hk)).trans hk⟩⟩
 ·have hne:b≠r.block:=fun e=>by subst e; rw [k9 rfl o]at hu; cases hu
  have hc:=hi.im b o u hu;rw [World.cell?_of_block (w:=w) (hoth b (cell_lt hc) hne)]; exact hc
 ·have hfl:rows'.flatten.length=rows'.length*sz:=flatten_len (n:=sz) rows' hrow
  have hF:F.size=rows'.length*sz:=by have:=hrel.1; rw [hfl]at this; simpa using this.symm
  have hm:rows.length*r.size≤r.cap*r.size:=Nat.mul_le_mul_right _ k3;have hcs:F.size≤cur.size:=by rw [k7,hF,hlen,← k11]; exact hm
  have htake:(Go.Sort.putCells id 0 F cur).toList.take (rows'.length*r.size)=F.toList:=by
   rw [k11,← hF];apply List.ext_getElem?
   intro i;rw [List.getElem?_take];split
   ·rename_i hilt
    simp only [Go.Sort.putCells];have hic:i<cur.size:=by omega
    simp [hic,hilt]
   ·rename_i hilt
    symm;rw [List.getElem?_eq_none_iff]; simp; omega
  refine .inr ⟨r,_,har,k2,by rw [hlen]; exact k3,k4,fun x hx=>by rw [k11]; exact hrow x hx,hnew,?_,?_,?_,k9,(fun e=>by cases e),k11,k12.len (by rw [hlen]; exact Nat.le_refl _)⟩
  ·simp [Go.Sort.putCells,k7]
  ·rw [htake]; exact hrel
  ·rw [htake]; exact hone
theorem flat2_get{α β:Type}{n:Nat}(f:α→List β)(hf:∀ x,(f x).length=n):∀ (l:List α) (i j:Nat) (x:α) (b:β),l[i]?=some x→(f x)[j]?=some b→(l.map f).flatten[i*n+j]?=some b
 | [],i,j,x,b,h,_=>by simp at h
 | y::r,0,j,x,b,h,hb=>by
  simp at h; subst h;rw [List.map_cons,List.flatten_cons,List.getElem?_append_left (by simpa using (List.getElem?_eq_some_iff.1 hb).1)];simpa using hb
 | y::r,i+1,j,x,b,h,hb=>by
  have ih:=flat2_get f hf r i j x b (by simpa using h) hb;rw [List.map_cons,List.flatten_cons,List.getElem?_append_right (by rw [hf,Nat.add_mul]; omega),hf,show (i+1)*n+j-n=i*n+j by rw [Nat.add_mul]; omega];exact ih
theorem flat2_len{α β:Type}{n:Nat}(f:α→List β)(hf:∀ x,(f x).length=n):∀ l:List α,(l.map f).flatten.length=l.length*n
 | []=>by simp
 | x::r=>by rw [List.map_cons,List.flatten_cons,List.length_append,hf,flat2_len f hf r,List.length_cons,Nat.add_mul]; omega
theorem encPD_len(x:PD):(encPD x).length=2:=rfl
theorem flatPD(ps:List PD):(Go.Sort.flatK encPD 2 ps.toArray).toList=(ps.map encPD).flatten:=by
 apply List.ext_getElem?
 intro i
 by_cases hi:i<ps.length*2
 ·have h1:i / 2<ps.length:=by omega
  have h2:i % 2<2:=by omega
  have e1:(Go.Sort.flatK encPD 2 ps.toArray).toList[i]?=some ((encPD ps[i / 2])[i % 2]'(by rw [encPD_len]; exact h2)):=by
   rw [List.getElem?_eq_getElem (by simp; exact hi)];have:=Go.Sort.get_flatK encPD 2 ps.toArray i (by simpa using hi);rw [getElem!_pos _ i (by simpa using hi)]at this;rw [Array.getElem_toList,this];rw [getElem!_pos ps.toArray (i / 2) (by simpa using h1),List.getElem_toArray,getElem!_pos _ (i % 2) (by rw [encPD_len]; exact h2)]
  have h3:=flat2_get encPD encPD_len ps (i / 2) (i % 2) ps[i / 2] _ (by simp [h1]) (List.getElem?_eq_getElem (by rw [encPD_len]; exact h2));rw [show i / 2*2+i % 2=i by omega]at h3;rw [e1,h3]
 ·rw [List.getElem?_eq_none_iff.2 (by simp; omega),List.getElem?_eq_none_iff.2 (by rw [flat2_len encPD encPD_len]; omega)]
theorem relPD{C:Cx}:∀ ps:List PD,RelL C (ps.map rowPD).flatten (ps.map encPD).flatten
 | []=>.nil
 | (p,d)::r=>.cons (.str p) (.cons (.str d) (relPD r))
theorem relPD_eq{C:Cx}:∀ (ps:List PD) {us:List Value},RelL C (ps.map rowPD).flatten us→us=(ps.map encPD).flatten
 | [],us,h=>h.inv_nil
 | (p,d)::r,us,h=>by
  obtain ⟨v1,us1,rfl,h1,h⟩:=RelL.inv_cons (a:=.str p) h;obtain ⟨v2,us2,rfl,h2,h⟩:=RelL.inv_cons (a:=.str d) h;rw [str_inv h1,str_inv h2,relPD_eq r h]; rfl
theorem onePD(ps:List PD):∀ u∈(ps.map encPD).flatten,u.oneCell'=true:=fun u hu=>by
 obtain ⟨l,hl,hu⟩:=List.mem_flatten.1 hu
 obtain ⟨x,_,rfl⟩:=List.mem_map.1 hl
 simp [encPD]at hu
 rcases hu with rfl | rfl <;> rfl
theorem holds_PD{B:Base}{C:Cx}{h:Heap}{w:World}(hi:Inv B C h w){l ver:Nat}{ps:List PD}{r:RowAt}{wr:Bool}(hl:h[l]?=some (.arr 2 ver (ps.map rowPD) wr))(har:C.ar l ver=some (some r)):Go.Sort.HoldsK encPD 2 w r.block 0 ps.toArray∧r.block<w.heap.size:=by
 rcases hi.ok l _ hl with ⟨k1,_⟩ | ⟨r',cur,k1,k2,k3,k4,k5,k6,k7,k8,k8',k9,k10,k11,k12⟩
 ·rw [har]at k1; cases k1
 rw [har]at k1; injection k1 with k1; injection k1 with k1; subst k1
 refine ⟨fun j hj=>?_,heap_lt k6⟩
 have e:=relPD_eq ps k8
 rw [← flatPD]at e
 have hj':j<(Go.Sort.flatK encPD 2 ps.toArray).toList.length:=by simpa using hj
 have h3:j<r.cap*r.size:=by rw [k11]; simp at hj k3; omega
 refine ⟨?_,by rw [Nat.zero_add]; exact RowAt.thaw k6 h3⟩
 rw [Nat.zero_add,cell_of_heap k6,← Array.getElem?_toList]
 have h1:(cur.toList.take ((ps.map rowPD).length*r.size))[j]?=some ((Go.Sort.flatK encPD 2 ps.toArray).toList[j]'hj'):=by
  rw [e]; exact List.getElem?_eq_getElem hj'
 rw [List.getElem?_take]at h1
 split at h1
 ·rw [h1,getElem!_pos _ j hj]; simp
 ·cases h1
theorem sortPD_gen{P:Program}{gv:Gv}{f:FuncId}{gs:List FuncId}
  (h00:∀ g∈gs,∀ (p:Option Addr) (cap:Nat) (w:World),Calls P f #[.slice p 0 cap,.func (.func g) #[] #[]] w fun e w'=>e=.returned (.tuple #[])∧w'=w)
  (h1:∀ g∈gs,∀ (blk off cap:Nat) (d:Array PD) (w:World),Go.Sort.HoldsK encPD 2 w blk off d→blk<w.heap.size→d.size<4611686018427387904→
   Calls P f #[.slice (some ⟨blk,off,none⟩) d.size cap,.func (.func g) #[] #[]] w fun e w'=>e=.returned (.tuple #[])∧∃ d' n os,Go.Sort.PermIn 0 d.size d d'∧Go.Sort.SortedIn (Go.Proofs.ltOf cfP) 0 d.size d'∧w'=Go.Proofs.sortWorldK encPD 2 w blk off n d' os):GenOK P gv f (F_SortPD gs):=by
 intro B C h w args r h' vals hgv hi hr hF
 unfold F_SortPD at hF
 split at hF
 ·rename_i l ver n g
  split at hF
  ·rename_i ver' rows hl
   split at hF
   ·rename_i ps hd
    have:=decPD_ed hd; subst this;split at hF
    ·rename_i hc
     obtain ⟨hg,rfl,rfl,hbig,hdist⟩:=hc;simp only [Option.some.injEq,Prod.mk.injEq]at hF; obtain ⟨rfl,rfl⟩:=hF;obtain ⟨v,us,e1,hv,hr⟩:=hr.inv_cons;obtain ⟨v2,us,rfl,hv2,hr⟩:=hr.inv_cons;have:=hr.inv_nil; subst this;have hvals:vals=#[v,v2]:=by apply Array.ext'; simpa using e1
     subst hvals;have hf2:v2=.func (.func g) #[] #[]:=by
      cases hv2 with
      | fn _ _ vs hs _=>
       have:vs=#[]:=by apply Array.eq_empty_of_size_eq_zero; simpa using hs.symm
       subst this; rfl
     subst hf2;by_cases hps:ps=[]
     ·subst hps
      have hh:h.set l (.arr 2 ver ((sortPD []).map rowPD) true)=h:=by
       obtain ⟨hlt,e⟩:=List.getElem?_eq_some_iff.1 hl;refine List.ext_getElem? fun i=>?_
       rw [List.getElem?_set];split
       ·rename_i e2; subst e2; rw [hl]; simp [sortPD]
       ·rfl
      have hv0:∃ p cap,v=.slice p 0 cap:=by
       cases hv with
       | ownnil _ _ har=>exact ⟨_,_,rfl⟩
       | own _ _ _ r har hcap=>exact ⟨_,_,rfl⟩
      obtain ⟨p,cap,rfl⟩:=hv0;rw [hh];refine (h00 g (by simpa using hg) p cap w).mono fun e w' hk=>?_
      obtain ⟨rfl,rfl⟩:=hk;exact ⟨_,C,rfl,.refl C,hi,.tup [] #[] rfl (fun i c v h=>by simp at h),.refl _ _⟩
     have h0:0<ps.length:=List.length_pos_iff.2 hps;generalize hn:ps.length=n at hv;cases hv with
     | ownnil _ _ har=>omega
     | own _ _ _ r har hcap=>
      obtain ⟨q1,q2⟩:=holds_PD hi hl har;have hc:=h1 g (by simpa using hg) r.block 0 r.cap ps.toArray w q1 q2 (by unfold big at hbig; simp; omega);rw [List.size_toArray,hn]at hc;refine hc.mono fun e w' hk=>?_
      obtain ⟨rfl,d',q,os,hp,hs,rfl⟩:=hk;have hsz:d'.size=ps.length:=by rw [hp.1]; simp
      have hd':d'.toList=sortPD ps:=by
       refine sorted_one hdist ?_ ?_
       ·have:=hp.2.2
        rw [← hn]at this;rw [show d'.extract 0 ps.length=d' by rw [← hsz]; exact Array.extract_size]at this;have e2:ps.toArray.extract 0 ps.length=ps.toArray:=by simp
        rw [e2]at this;simpa using this
       ·rw [List.pairwise_iff_getElem]
        intro i j hi' hj' hij;have hi2:i<d'.size:=by simpa using hi'
        have hj2:j<d'.size:=by simpa using hj'
        have:=hs i j (Nat.zero_le _) hij (by omega);rw [getElem!_pos d' j hj2,getElem!_pos d' i hi2,ltP]at this;rw [leqP_iff,Array.getElem_toList,Array.getElem_toList];simp only [Go.Sort.ltStr,decide_eq_false_iff_not]at this;exact List.not_lt.1 this
      have hd2:d'=(sortPD ps).toArray:=by apply Array.ext'; simpa using hd'
      subst hd2;obtain ⟨t1,t2⟩:=turn_flat hi (rows':=(sortPD ps).map rowPD) (F:=Go.Sort.flatK encPD 2 (sortPD ps).toArray) hl har (by simpa using hsz) (fun x hx=>by obtain ⟨y,_,rfl⟩:=List.mem_map.1 hx; rfl)
       (by rw [flatPD]; exact relPD _) (by rw [flatPD]; exact onePD _) (w':=Go.Proofs.sortWorldK encPD 2 w r.block 0 q (sortPD ps).toArray os) rfl rfl rfl (os:=os) rfl
      exact ⟨_,C,rfl,.refl C,t1,.tup [] #[] rfl (fun i c v h=>by simp at h),t2⟩
    ·cases hF
   ·cases hF
  ·cases hF
 ·cases hF
end Go.Proofs.YtpefhfiehfkocaaGreatDoor
namespace Go.Proofs.YtpefhfiehfkocaaGreatDoor
open Go.RowKit
def entPD(p:PD):AV×AV:=(.str p.1,.str p.2)
def decE:List (AV×AV)→Option (List PD)
 | []=>some []
 | (.str p,.str d)::r=>(decE r).map ((p,d)::·)
 | _=>none
theorem decE_ed:∀ {es:List (AV×AV)} {ps:List PD},decE es=some ps→es=ps.map entPD
 | [],ps,h=>by simp [decE]at h; subst h; rfl
 | r::rs,ps,h=>by
  unfold decE at h;split at h
  ·rename_i e; cases e
  ·rename_i p d r' e
   cases e
   simp only [Option.map_eq_some_iff]at h;obtain ⟨qs,h1,rfl⟩:=h;rw [decE_ed h1]; rfl
  ·cases h
def pick(ps:List PD)(b:Bs→Bool)(seen:List Nat):List PD:=(seen.filterMap fun i=>ps[i]?).filter fun p=>b p.1
theorem pick_snoc{ps:List PD}{b:Bs→Bool}{seen:List Nat}{i:Nat}{p:PD}(h:ps[i]?=some p):pick ps b (seen++[i])=pick ps b seen++(if b p.1 then [p]else []):=by
 simp only [pick,List.filterMap_append,List.filter_append,List.filterMap_cons,h,List.filterMap_nil,List.filter_cons,List.filter_nil]
theorem range_ps(ps:List PD):(List.range ps.length).filterMap (fun i=>ps[i]?)=ps:=by
 apply List.ext_getElem?
 intro i
 induction ps generalizing i with
 | nil=>simp
 | cons x r ih=>
  rw [List.length_cons,List.range_succ_eq_map,List.filterMap_cons];simp only [List.getElem?_cons_zero,List.filterMap_map];cases i with
  | zero=>rfl
  | succ i=>
   rw [List.getElem?_cons_succ,List.getElem?_cons_succ,← ih i];congr 1
theorem pick_all{ps:List PD}{b:Bs→Bool}{seen:List Nat}(hn:seen.Nodup)(hs:∀ i∈seen,i<ps.length)(hall:∀ i,i<ps.length→i∈seen):(pick ps b seen).Perm (ps.filter fun p=>b p.1):=by
 have hp:seen.Perm (List.range ps.length):=(List.perm_ext_iff_of_nodup hn List.nodup_range).2 fun a=>⟨fun h=>List.mem_range.2 (hs a h),fun h=>hall a (List.mem_range.1 h)⟩
 have:=(hp.filterMap fun i=>ps[i]?).filter fun p=>b p.1
 rw [range_ps]at this
 exact this
def left(n:Nat)(seen:List Nat):List Nat:=(List.range n).filter fun i=>!seen.contains i
theorem left_nil{n:Nat}{seen:List Nat}(h:left n seen=[]):∀ i,i<n→i∈seen:=by
 intro i hi
 have:=List.filter_eq_nil_iff.1 h i (List.mem_range.2 hi)
 simpa using this
theorem left_mem{n:Nat}{seen:List Nat}{i:Nat}:i∈left n seen↔i<n∧i ∉ seen:=by
 simp [left]
theorem left_snoc{n:Nat}{seen:List Nat}{i:Nat}(hi:i∈left n seen):(left n (seen++[i])).length<(left n seen).length:=by
 have e:left n (seen++[i])=(left n seen).filter fun k=>k != i:=by
  simp only [left,List.filter_filter];refine List.filter_congr fun k _=>?_
  by_cases h:k=i
  ·subst h; simp
  ·simp [h]
 rw [e]
 exact List.length_filter_lt_length_iff_exists.2 ⟨i,hi,by simp⟩
theorem dist_filter{l:List PD}{p:PD→Bool}(h:distP l=true):distP (l.filter p)=true:=by
 rw [distP_iff]at *
 exact h.filter p
end Go.Proofs.YtpefhfiehfkocaaGreatDoor
namespace Go.Proofs.YtpefhfiehfkocaaGreatDoor
open Go.RowKit Go.IntWalk
def decStrs:List (List AV)→Option (List Bs)
 | []=>some []
 | [.str s]::r=>(decStrs r).map (s::·)
 | _=>none
def encStrs(xs:List Bs):List (List AV):=xs.map fun s=>[.str s]
theorem decStrs_of:∀ {rows:List (List AV)} {xs:List Bs},decStrs rows=some xs→rows=encStrs xs
 | [],xs,h=>by simp [decStrs]at h; subst h; rfl
 | r::rs,xs,h=>by
  unfold decStrs at h;split at h
  ·rename_i e; cases e
  ·rename_i s rs' e
   cases e
   simp only [Option.map_eq_some_iff]at h;obtain ⟨ys,h1,rfl⟩:=h;rw [decStrs_of h1]; rfl
  ·cases h
theorem encStrs_get{xs:List Bs}{i:Nat}{s:Bs}(h:xs[i]?=some s):(encStrs xs)[i]?=some [.str s]:=by simp [encStrs,h]
@[simp] theorem encStrs_len{xs:List Bs}:(encStrs xs).length=xs.length:=by simp [encStrs]
def idxFrom{α:Type}[DecidableEq α](x:α)(i:Nat):List α→Int
 | []=>-1
 | y::r=>if x=y then i else idxFrom x (i+1) r
def F_IndexS:List AV→Option AV
 | [.sl a,.str s]=>match decStrs a with
  | some x=>if x.length≤big then some (.int .i64 (idxFrom s 0 x))else none
  | none=>none
 | _=>none
theorem indexS_loop(G:Gam)(r:AV)(xs:List Bs)(s:Bs)(hb:xs.length≤big):∀ (rest:List Bs) (i:Nat),xs.drop i=rest→i+rest.length=xs.length→r=.int .i64 (idxFrom s i rest)→
  headM G [5] Mc.q34_L0 0 [.blk 0,.seq (.seq (.reg [kz 4 .mv [.c (.int .i64 (-1))]]) .ret)] (pureQ Rs.q34 r)
  [(0,.sl (encStrs xs)),(1,.str s),(4,.int .i64 0),(5,.junk),(7,.int .i64 xs.length),(8,.int .i64 i)] []
 | [],i,hd,hn,hr=>by
  refine head_go (Mc.q34_L0.eq_1) ?_
  simp at hn;simp [idxFrom]at hr;subst hr;simp [junkAll,trunc,lowFr,low,lowH,binAV,intBin,hn,pureQ,Rs.q34,resAV,resL,resOne,view]
 | x::rest,i,hd,hn,hr=>by
  refine head_go (Mc.q34_L0.eq_1) ?_
  simp at hn;have hi:(i:Int)<xs.length:=by omega
  have hx:xs[i]?=some x:=by have:=congrArg (·[0]?) hd; simpa using this
  have hxd:xs.drop (i+1)=rest:=by rw [← List.drop_drop,hd]; rfl
  have hw:IntKind.i64.wrap ((i:Int)+1)=((i+1:Nat):Int):=by unfold big at hb; rw [i64_in _ (by omega)]; rfl
  by_cases he:s=x
  ·have hbe:(s == x)=true:=by simp [he]
   simp only [idxFrom,if_pos he]at hr;subst hr;simp [junkAll,trunc,lowFr,low,lowH,binAV,intBin,hi,iadr_sl (encStrs_get hx),cut,strBin,hbe,pureQ,Rs.q34,resAV,resL,resOne,view]
  ·have hbe:(s == x)=false:=by simp [he]
   simp only [idxFrom,if_neg he]at hr;simp [junkAll,trunc,lowFr,low,lowH,binAV,intBin,hi,iadr_sl (encStrs_get hx),cut,strBin,hbe,hw];refine head_of ?_
   have ih:=indexS_loop G r xs s hb rest (i+1) hxd (by omega) hr;simpa [junkAll,trunc,lowFr,low,lowH,lowB] using ih
theorem indexS_ok(G:Gam)(args:List AV)(r:AV)(h:F_IndexS args=some r):wpM G Mc.q34 (pureQ Rs.q34 r) [] (frInit Ks.q34 args) []:=by
 unfold F_IndexS at h
 split at h
 ·rename_i a s
  split at h
  ·rename_i xs h1
   have:=decStrs_of h1; subst this;split at h
   ·rename_i hb
    injection h with h
    rw [wpM_go];have ih:=indexS_loop G r xs s hb xs 0 rfl (by simp) h.symm;simpa [Mc.q34,frInit,Ks.q34,lenAV] using ih
   ·cases h
  ·cases h
 ·cases h
def F_ContainsS:List AV→Option AV
 | [.sl a,.str s]=>match decStrs a with
  | some x=>if x.length≤big then some (.bool (!ltB (idxFrom s 0 x) 0))else none
  | none=>none
 | _=>none
theorem containsS_ok(G:Gam)(hG:G Fn.q34=some (.pure F_IndexS))(args:List AV)(r:AV)(h:F_ContainsS args=some r):wpM G Mc.q28 (pureQ Rs.q28 r) [] (frInit Ks.q28 args) []:=by
 unfold F_ContainsS at h
 split at h
 ·rename_i a s
  split at h
  ·rename_i xs h1
   split at h
   ·rename_i hb
    injection h with h
    subst h;have hc:∀ s2 h,opV G s2 h (.call Fn.q34) (some [.sl a,.str s])=some (.int .i64 (idxFrom s 0 xs),h):=fun s2 h=>op_call hG rfl (by simp [F_IndexS,h1,hb]) (.inl rfl)
    rw [wpM_go];simp [Mc.q28,frInit,Ks.q28,hc,pureQ,Rs.q28,resAV,resL,resOne,view]
   ·cases h
  ·cases h
 ·cases h
end Go.Proofs.YtpefhfiehfkocaaGreatDoor
namespace Go.Proofs.YtpefhfiehfkocaaGreatDoor
open Go.RowKit
theorem pure_mono{P:Program}{gv:Gv}{f:FuncId}{F F':List AV→Option AV}(h:PureOK P gv f F)(hle:∀ args r,F' args=some r→F args=some r):PureOK P gv f F':=
 fun I w args r vals hI hg hr hF=>h I w args r vals hI hg hr (hle args r hF)
def at1(G:Gam)(f:FuncId)(args:List AV):Option AV:=match G f with
 | some (.pure F)=>F args
 | _=>none
def F_tab(args0:List AV)(r0:AV):List AV→Option AV:=fun args=>if avEqL args args0 then some r0 else none
theorem tab_ok{P:Program}{gv:Gv}{G:Gam}(hG:GamOK P gv G){f:FuncId}{args0:List AV}{r0:AV}(h:at1 G f args0=some r0):PureOK P gv f (F_tab args0 r0):=by
 unfold at1 at h
 split at h
 ·rename_i F hF
  exact pure_mono (hG.ok f _ hF) fun args r' hr=>by
   unfold F_tab at hr;split at hr
   ·rename_i he
    injection hr with hr; subst hr
    rw [avEqL_eq _ _ he]; exact h
   ·cases hr
 ·cases h
def F_or(F F':List AV→Option AV):List AV→Option AV:=fun args=>match F args with
 | some r=>some r
 | none=>F' args
theorem or_pure{P:Program}{gv:Gv}{f:FuncId}{F F':List AV→Option AV}(h:PureOK P gv f F)(h':PureOK P gv f F'):PureOK P gv f (F_or F F'):=
 fun I w args r vals hI hg hr hF=>by
  unfold F_or at hF;split at hF
  ·rename_i r' hr'
   injection hF with hF; subst hF
   exact h I w args _ vals hI hg hr hr'
  ·exact h' I w args r vals hI hg hr hF
end Go.Proofs.YtpefhfiehfkocaaGreatDoor
