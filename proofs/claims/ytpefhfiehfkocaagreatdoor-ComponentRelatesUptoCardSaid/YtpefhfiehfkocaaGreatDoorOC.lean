/- Slices that begin as an empty literal and are added to; the reference's before,List,merge. slices.SortFunc of spans at this program: cmp.Compare,cmp.Or,the closure. slices.SortFunc of spans: the c -/
import Derived.Test.YtpefhfiehfkocaaGreatDoorOB
import Derived.Test.YtpefhfiehfkocaaGreatDoorShelf
import Derived.Test.YtpefhfiehfkocaaGreatDoorRmJ
import Derived.WalkKit
import Derived.KernelRfl
import Derived.Deep.RegionHeld3
import Derived.Shelf.SlSortCmp.NoneTotal
namespace Go.Proofs.YtpefhfiehfkocaaGreatDoor
open Go.RowKit Go.IntWalk
section
variable {α:Type}
end
theorem spn_len(x:Sp):x.row.length=3:=rfl
end Go.Proofs.YtpefhfiehfkocaaGreatDoor
namespace Go.Proofs.YtpefhfiehfkocaaGreatDoor
open Go.RowKit Go.Lib Go.Sort Go.Shelf
set_option maxHeartbeats 1000000 in
set_option maxRecDepth 100000 in
theorem cmpI(x y:Int)(w:World):Calls Tryz.prog 211 #[.int .i64 x,.int .i64 y] w fun e w'=>e=.returned (.int .i64 (Lib.compareInt x y))∧w'=w:=by
 rcases Int.lt_trichotomy x y with h | h | h
 ·have h1:decide (x<y)=true:=decide_eq_true h
  have h2:Lib.compareInt x y=-1:=by simp [Lib.compareInt,h]
  rw [h2];go_enter Tryz.func211,Tryz.ntmps211
  go_wp2_with (go_at_call 300; refine (Tryz.cmp_isNaN_int2 _ _).mono ?_; rintro e w' ⟨rfl,rfl⟩)
  go_ret
  exact ⟨rfl,rfl⟩
 ·subst h
  have h1:decide (x<x)=false:=decide_eq_false (by omega);have h2:Lib.compareInt x x=0:=by simp [Lib.compareInt]
  rw [h2];go_enter Tryz.func211,Tryz.ntmps211
  go_wp2_with (go_at_call 300; refine (Tryz.cmp_isNaN_int2 _ _).mono ?_; rintro e w' ⟨rfl,rfl⟩)
  go_ret
  exact ⟨rfl,rfl⟩
 ·have h1:decide (x<y)=false:=decide_eq_false (by omega)
  have h3:decide (y<x)=true:=decide_eq_true h;have h2:Lib.compareInt x y=1:=by simp [Lib.compareInt,show ¬ x<y by omega,h]
  rw [h2];go_enter Tryz.func211,Tryz.ntmps211
  go_wp2_with (go_at_call 300; refine (Tryz.cmp_isNaN_int2 _ _).mono ?_; rintro e w' ⟨rfl,rfl⟩)
  go_ret
  exact ⟨rfl,rfl⟩
def or2(a b:Int):Int:=if a=0 then b else a
set_option maxHeartbeats 2000000 in
set_option maxRecDepth 100000 in
theorem cmpOr2(b c:Nat)(x y:Int)(w:World)(hx:w.cell? ⟨b,0,none⟩=some (.int .i64 x))(hy:w.cell? ⟨b,1,none⟩=some (.int .i64 y))(_:2≤c) :
  Calls Tryz.prog 210 #[.slice (some ⟨b,0,none⟩) 2 c] w fun e w'=>e=.returned (.int .i64 (or2 x y))∧w'=w:=by
 by_cases h:x=0
 ·subst h
  by_cases k:y=0
  ·subst k
   rw [show or2 0 0=0 from rfl];go_enter Tryz.func210,Tryz.ntmps210
   go_wp2
   refine wp_loop_rounds 3 ?_
   rw [rounds_succ];go_wp2
   rw [rounds_succ];go_wp2
   rw [rounds_succ];go_wp2
   go_ret
   exact ⟨rfl,rfl⟩
  ·have f1:(y == 0)=false:=by simpa using k
   have f2:(y != 0)=true:=by simpa using k
   rw [show or2 0 y=y from rfl];go_enter Tryz.func210,Tryz.ntmps210
   go_wp2
   refine wp_loop_rounds 3 ?_
   rw [rounds_succ];go_wp2
   rw [rounds_succ];go_wp2
   go_ret
   exact ⟨rfl,rfl⟩
 ·have f1:(x == 0)=false:=by simpa using h
  have f2:(x != 0)=true:=by simpa using h
  rw [show or2 x y=x from if_neg h];go_enter Tryz.func210,Tryz.ntmps210
  go_wp2
  refine wp_loop_rounds 3 ?_
  rw [rounds_succ];go_wp2
  go_ret
  exact ⟨rfl,rfl⟩
end Go.Proofs.YtpefhfiehfkocaaGreatDoor
namespace Go.Proofs.YtpefhfiehfkocaaGreatDoor
open Go.RowKit Go.Lib Go.Sort Go.Shelf
def cfSp(x y:Sp):Int:=or2 (Lib.compareBytes x.p y.p) (Lib.compareInt x.f y.f)
def encSp(x:Sp):List Value:=[.string ⟨x.p.toArray⟩,.int .i64 x.f,.int .i64 x.t]
def GrW(W w':World):Prop:=∃ q os',w'=Go.Sort.grow (W.drewN q) os'
theorem GrW.refl(W:World):GrW W W:=⟨0,#[],by rw [Go.Sort.grow_empty]; rfl⟩
theorem GrW.alloc{W w':World}(h:GrW W w')(o:Obj):GrW W (w'.alloc o):=by
 obtain ⟨q,os,rfl⟩:=h
 exact ⟨q,os++#[o],by rw [alloc_eq_grow,grow_grow]⟩
theorem GrW.drew{W w':World}(h:GrW W w'):GrW W w'.drew:=by
 obtain ⟨q,os,rfl⟩:=h
 exact ⟨q+1,os,rfl⟩
theorem cell_newN{w:World}{c:Array Value}{e:TypeId}{n i:Nat}(h:n=w.heap.size):(w.alloc (.cells c e)).cell? ⟨n,i,none⟩=c[i]?:=by
 subst h
 have eh:(w.alloc (.cells c e)).heap[w.heap.size]?=some (.cells c e):=World.alloc_heap_new w _
 show (match (w.alloc (.cells c e)).heap[w.heap.size]? with | some (.cells c _ _)=>if (none:Option _).isSome then none else c[i]? | _=>none)=_
 rw [eh]; rfl
set_option maxHeartbeats 4000000 in
set_option maxRecDepth 100000 in
theorem cmpSp(x y:Sp)(W:World):Calls Tryz.prog 315 #[.agg (encSp x).toArray,.agg (encSp y).toArray] W fun e w'=>e=.returned (.int .i64 (cfSp x y))∧GrW W w':=by
 obtain ⟨p,f,t⟩:=x
 obtain ⟨p',f',t'⟩:=y
 have hs:∀ W',Calls Tryz.prog 125 #[.string ⟨p.toArray⟩,.string ⟨p'.toArray⟩] W' fun e w'=>e=.returned (.int .i64 (Lib.compareBytes p p'))∧w'=W':=fun W'=>by
  have h:Calls Tryz.prog 125 #[.string ⟨p.toArray⟩,.string ⟨p'.toArray⟩] W' fun e w'=>e=.returned (.int .i64 (Lib.compareBytes (ByteArray.mk p.toArray).data.toList (ByteArray.mk p'.toArray).data.toList))∧w'=W':=Tryz.strings_Compare ⟨p.toArray⟩ ⟨p'.toArray⟩ W'
  simpa using h
 have hi:∀ W',Calls Tryz.prog 211 #[.int .i64 f,.int .i64 f'] W' fun e w'=>e=.returned (.int .i64 (Lib.compareInt f f'))∧w'=W':=fun W'=>cmpI f f' W'
 show Calls Tryz.prog 315 #[.agg #[.string ⟨p.toArray⟩,.int .i64 f,.int .i64 t],.agg #[.string ⟨p'.toArray⟩,.int .i64 f',.int .i64 t']] W _
 have e:cfSp ⟨p,f,t⟩ ⟨p',f',t'⟩=or2 (Lib.compareBytes p p') (Lib.compareInt f f'):=rfl
 rw [e]
 generalize Lib.compareBytes p p'=c1 at hs ⊢
 generalize Lib.compareInt f f'=c2 at hi ⊢
 go_enter Tryz.func315,Tryz.ntmps315
 go_wp2
 go_region_held3 (fun w'=>w'.cell? ⟨W.heap.size,0,none⟩=some (.string ⟨p.toArray⟩)∧w'.cell? ⟨W.heap.size,1,none⟩=some (.int .i64 f)∧w'.cell? ⟨W.heap.size+1,0,none⟩=some (.string ⟨p'.toArray⟩)∧w'.cell? ⟨W.heap.size+1,1,none⟩=some (.int .i64 f')) (go_keep) (first | (go_at_call 125; refine (hs _).mono ?_; rintro e w' ⟨rfl,rfl⟩) | (go_at_call 211; refine (hi _).mono ?_; rintro e w' ⟨rfl,rfl⟩) | (go_at_call 210; refine (cmpOr2 _ _ c1 c2 _ (by (try simp only [World.cell?_drew]); rw [cell_newN (by simp)]; rfl) (by (try simp only [World.cell?_drew]); rw [cell_newN (by simp)]; rfl) (by omega)).mono ?_; rintro e w' ⟨rfl,rfl⟩))
 all_goals go_wp2
 all_goals go_ret
 all_goals exact ⟨rfl,by repeat (first | exact GrW.refl _ | apply GrW.alloc | apply GrW.drew)⟩
end Go.Proofs.YtpefhfiehfkocaaGreatDoor
namespace Go.Proofs.YtpefhfiehfkocaaGreatDoor
open Go.RowKit Go.Lib Go.Sort Go.Shelf
instance:Inhabited Sp:=⟨⟨[],0,0⟩⟩
theorem cmpB_eq:∀ a b:Bs,Lib.compareBytes a b=0↔a=b
 | [],[]=>by simp [Lib.compareBytes]
 | [],_::_=>by simp [Lib.compareBytes]
 | _::_,[]=>by simp [Lib.compareBytes]
 | a::x,b::y=>by
  have ih:=cmpB_eq x y;simp only [Lib.compareBytes];by_cases h1:a<b
  ·have:a≠b:=fun e=>by subst e; exact UInt8.lt_irrefl _ h1
   simp [h1,this]
  ·by_cases h2:b<a
   ·have:a≠b:=fun e=>by subst e; exact UInt8.lt_irrefl _ h2
    simp [h1,h2,this]
   ·have h3:a=b:=UInt8.le_antisymm (UInt8.not_lt.1 h2) (UInt8.not_lt.1 h1)
    subst h3;simpa [h1] using ih
theorem cfSp_lt(x y:Sp):Go.Proofs.ltOf cfSp x y=true↔Lt x.p x.f y.p y.f:=by
 have h1:=cmp_lt x.p y.p
 have h2:=cmpB_eq x.p y.p
 unfold Go.Proofs.ltOf cfSp or2 Lt
 rw [decide_eq_true_eq]
 by_cases c:Lib.compareBytes x.p y.p=0
 ·rw [if_pos c]
  have e:=h2.1 c;have:¬ x.p<y.p:=by rw [e]; exact s_irr _
  simp only [e,true_and,Lib.compareInt];split
  ·rename_i h; simp [h]
  ·split <;> simp_all
 ·rw [if_neg c]
  have e:¬ x.p=y.p:=fun h=>c (h2.2 h)
  simp only [e,false_and,or_false];have:(Lib.compareBytes x.p y.p<0)↔x.p<y.p:=by
   constructor
   ·intro h; have:=h1.symm.trans (decide_eq_true h); simpa using this
   ·intro h; have:=h1.trans (decide_eq_true h); simpa using this
  exact this
theorem cfSp_nlt(x y:Sp):Go.Proofs.ltOf cfSp x y=false↔SpLe y x:=by
 rw [Bool.eq_false_iff,Ne,cfSp_lt]
 constructor
 ·intro h; exact Le.of_not h
 ·rintro (h | ⟨h,h2⟩) (k | ⟨k,k2⟩)
  ·exact s_irr _ (s_tr h k)
  ·rw [k]at h; exact s_irr _ h
  ·rw [h]at k; exact s_irr _ k
  ·omega
theorem swoSp:Go.Sort.SWO (Go.Proofs.ltOf cfSp) where
 irrefl x:=(cfSp_nlt x x).2 (.inr ⟨rfl,by omega⟩)
 trans x y z h1 h2:=by
  rw [cfSp_lt]at h1 h2 ⊢;rcases h1 with h | ⟨h,h'⟩ <;> rcases h2 with k | ⟨k,k'⟩
  ·exact .inl (s_tr h k)
  ·exact .inl (k▸h)
  ·exact .inl (h▸k)
  ·exact .inr ⟨h.trans k,by omega⟩
 ntrans x y z h1 h2:=by
  rw [cfSp_nlt]at h1 h2 ⊢;exact Le.trans h2 h1
def sortQ(ps:List Sp):List Sp:=(pdq (Go.Proofs.ltOf cfSp) ps.toArray 0 ps.toArray.size (Lib.bitLen ps.toArray.size) true true).toList
theorem sortQ_facts(ps:List Sp):(sortQ ps).Perm ps∧(sortQ ps).Pairwise SpLe∧(sortQ ps).length=ps.length:=by
 obtain ⟨h1,h2⟩:=pdq_sorts (Go.Proofs.ltOf cfSp) swoSp ps.toArray 0 ps.toArray.size (Lib.bitLen ps.toArray.size) true true (Nat.zero_le _) (Nat.le_refl _) (Or.inl rfl)
 unfold sortQ
 generalize pdq (Go.Proofs.ltOf cfSp) ps.toArray 0 ps.toArray.size (Lib.bitLen ps.toArray.size) true true=d' at h1 h2 ⊢
 have hsz:d'.size=ps.length:=by rw [h1.1]; simp
 refine ⟨?_,?_,by simpa using hsz⟩
 ·have:=h1.2.2
  rw [show d'.extract 0 ps.toArray.size=d' by rw [← h1.1]; exact Array.extract_size]at this;simpa using this
 ·rw [List.pairwise_iff_getElem]
  intro i j hi' hj' hij;have hi2:i<d'.size:=by simpa using hi'
  have hj2:j<d'.size:=by simpa using hj'
  have:=h2 i j (Nat.zero_le _) hij (by simp; omega);rw [getElem!_pos d' j hj2,getElem!_pos d' i hi2,cfSp_nlt]at this;simpa using this
theorem encSp_len(x:Sp):(encSp x).length=3:=rfl
theorem flatSp(ps:List Sp):(Go.Sort.flatK encSp 3 ps.toArray).toList=(ps.map encSp).flatten:=by
 apply List.ext_getElem?
 intro i
 by_cases hi:i<ps.length*3
 ·have h1:i / 3<ps.length:=by omega
  have h2:i % 3<3:=by omega
  have e1:(Go.Sort.flatK encSp 3 ps.toArray).toList[i]?=some ((encSp ps[i / 3])[i % 3]'(by rw [encSp_len]; exact h2)):=by
   rw [List.getElem?_eq_getElem (by simp; exact hi)];have:=Go.Sort.get_flatK encSp 3 ps.toArray i (by simpa using hi);rw [getElem!_pos _ i (by simpa using hi)]at this;rw [Array.getElem_toList,this];rw [getElem!_pos ps.toArray (i / 3) (by simpa using h1),List.getElem_toArray,getElem!_pos _ (i % 3) (by rw [encSp_len]; exact h2)]
  have h3:=flat2_get encSp encSp_len ps (i / 3) (i % 3) ps[i / 3] _ (by simp [h1]) (List.getElem?_eq_getElem (by rw [encSp_len]; exact h2));rw [show i / 3*3+i % 3=i by omega]at h3;rw [e1,h3]
 ·rw [List.getElem?_eq_none_iff.2 (by simp; omega),List.getElem?_eq_none_iff.2 (by rw [flat2_len encSp encSp_len]; omega)]
theorem relSp{C:Cx}:∀ ps:List Sp,RelL C (ps.map Sp.row).flatten (ps.map encSp).flatten
 | []=>.nil
 | ⟨p,f,t⟩::r=>.cons (.str p) (.cons (.int .i64 f) (.cons (.int .i64 t) (relSp r)))
theorem relSp_eq{C:Cx}:∀ (ps:List Sp) {us:List Value},RelL C (ps.map Sp.row).flatten us→us=(ps.map encSp).flatten
 | [],us,h=>h.inv_nil
 | ⟨p,f,t⟩::r,us,h=>by
  obtain ⟨v1,us1,rfl,h1,h⟩:=RelL.inv_cons (a:=.str p) h;obtain ⟨v2,us2,rfl,h2,h⟩:=RelL.inv_cons (a:=.int .i64 f) h;obtain ⟨v3,us3,rfl,h3,h⟩:=RelL.inv_cons (a:=.int .i64 t) h;rw [str_inv h1,int_inv h2,int_inv h3,relSp_eq r h]; rfl
theorem oneSp(ps:List Sp):∀ u∈(ps.map encSp).flatten,u.oneCell'=true:=fun u hu=>by
 obtain ⟨l,hl,hu⟩:=List.mem_flatten.1 hu
 obtain ⟨x,_,rfl⟩:=List.mem_map.1 hl
 simp [encSp]at hu
 rcases hu with rfl | rfl | rfl <;> rfl
theorem holds_Sp{B:Base}{C:Cx}{h:Heap}{w:World}(hi:Inv B C h w){l ver:Nat}{ps:List Sp}{r:RowAt}{wr:Bool}(hl:h[l]?=some (.arr 3 ver (ps.map Sp.row) wr))(har:C.ar l ver=some (some r)):Go.Sort.HoldsK encSp 3 w r.block 0 ps.toArray∧r.block<w.heap.size:=by
 rcases hi.ok l _ hl with ⟨k1,_⟩ | ⟨r',cur,k1,k2,k3,k4,k5,k6,k7,k8,k8',k9,k10,k11,k12⟩
 ·rw [har]at k1; cases k1
 rw [har]at k1; injection k1 with k1; injection k1 with k1; subst k1
 refine ⟨fun j hj=>?_,heap_lt k6⟩
 have e:=relSp_eq ps k8
 rw [← flatSp]at e
 have hj':j<(Go.Sort.flatK encSp 3 ps.toArray).toList.length:=by simpa using hj
 have h3:j<r.cap*r.size:=by rw [k11]; simp at hj k3; omega
 refine ⟨?_,by rw [Nat.zero_add]; exact RowAt.thaw k6 h3⟩
 rw [Nat.zero_add,cell_of_heap k6,← Array.getElem?_toList]
 have h1:(cur.toList.take ((ps.map Sp.row).length*r.size))[j]?=some ((Go.Sort.flatK encSp 3 ps.toArray).toList[j]'hj'):=by
  rw [e]; exact List.getElem?_eq_getElem hj'
 rw [List.getElem?_take]at h1
 split at h1
 ·rw [h1,getElem!_pos _ j hj]; simp
 ·cases h1
def F_SortSp(g0:FuncId):List AV→Heap→Option (AV×Heap)
 | [.own l ver n,.fn g []],h=>match h[l]? with
  | some (.arrX false none 3 ver' rows true)=>match decAll decSpn rows with
   | some ps=>if g=g0∧ver=ver'∧n=ps.length∧n≤big then some (.tup [],h.set l (.arr 3 ver (spRows (sortQ ps)) true))else none
   | none=>none
  | _=>none
 | [.nils,.fn g []],h=>if g=g0 then some (.tup [],h)else none
 | _,_=>none
theorem aggSp:∀ w,(isAgg 58).run Tryz.prog w=.ok true w:=run_isAgg (by kernel_rfl)
theorem sizeSp:∀ w,(Go.sizeOf 58).run Tryz.prog w=.ok 3 w:=run_sizeOf' (by kernel_rfl)
theorem sortSp_W(blk off cap:Nat)(d:Array Sp)(w:World)(hH:HoldsK encSp 3 w blk off d)(hblk:blk<w.heap.size)(hsz:d.size<4611686018427387904) :
  Calls Tryz.prog 314 #[.slice (some ⟨blk,off,none⟩) d.size cap,.func (.func 315) #[] #[]] w fun e w'=>e=.returned (.tuple #[])∧∃ n os,w'=Go.Proofs.sortWorldK encSp 3 w blk off n (pdq (Go.Proofs.ltOf cfSp) d 0 d.size (Lib.bitLen d.size) true true) os:=
 AnyQ.slices_SortFunc_eq Tryz.sortSpan 3 aggSp sizeSp encSp encSp_len (fun x v hv=>by simp [encSp]at hv; rcases hv with rfl | rfl | rfl <;> rfl) cfSp swoSp 315 #[] blk off cap d w
  (Go.Proofs.enters_of Tryz.func315 (by kernel_rfl) rfl) (fun m os dk _ x y=>cmpSp x y _) hH hblk hsz
theorem sortSp_N(p:Option Addr)(cap:Nat)(w:World):Calls Tryz.prog 314 #[.slice p 0 cap,.func (.func 315) #[] #[]] w fun e w'=>e=.returned (.tuple #[])∧w'=w:=
 AnyF.slices_SortFunc_none Tryz.sortSpan p cap _ w
theorem fn0_inv{C:Cx}{g:FuncId}{v:Value}(h:Rel C (.fn g []) v):v=.func (.func g) #[] #[]:=by
 cases h with
 | fn _ _ vs hs _=>
  have:vs=#[]:=by apply Array.eq_empty_of_size_eq_zero; simpa using hs.symm
  subst this; rfl
theorem sortSp_ok(gv:Gv):GenOK Tryz.prog gv 314 (F_SortSp 315):=by
 intro B C h w args r h' vals hgv hi hr hF
 unfold F_SortSp at hF
 split at hF
 ·rename_i l ver n g
  split at hF
  ·rename_i ver' rows hl
   split at hF
   ·rename_i ps hd
    have:=spRows_of hd; subst this;split at hF
    ·rename_i hc
     obtain ⟨rfl,rfl,rfl,hbig⟩:=hc;simp only [Option.some.injEq,Prod.mk.injEq]at hF; obtain ⟨rfl,rfl⟩:=hF;obtain ⟨v,us,e1,hv,hr⟩:=hr.inv_cons;obtain ⟨v2,us,rfl,hv2,hr⟩:=hr.inv_cons;have:=hr.inv_nil; subst this;have hvals:vals=#[v,v2]:=by apply Array.ext'; simpa using e1
     subst hvals;obtain rfl:=fn0_inv hv2;obtain ⟨s1,s2,s3⟩:=sortQ_facts ps;by_cases hps:ps=[]
     ·subst hps
      have hnil:sortQ []=[]:=List.length_eq_zero_iff.1 s3;have hh:h.set l (.arr 3 ver (spRows (sortQ [])) true)=h:=by
       obtain ⟨hlt,e⟩:=List.getElem?_eq_some_iff.1 hl;refine List.ext_getElem? fun i=>?_
       rw [List.getElem?_set];split
       ·rename_i e2; subst e2; rw [hl]; simp [hnil,spRows]
       ·rfl
      have hv0:∃ p cap,v=.slice p 0 cap:=by
       cases hv with
       | ownnil _ _ har=>exact ⟨_,_,rfl⟩
       | own _ _ _ r har hcap=>exact ⟨_,_,rfl⟩
      obtain ⟨p,cap,rfl⟩:=hv0;rw [hh];refine (sortSp_N p cap w).mono fun e w' hk=>?_
      obtain ⟨rfl,rfl⟩:=hk;exact ⟨_,C,rfl,.refl C,hi,.tup [] #[] rfl (fun i c v h=>by simp at h),.refl _ _⟩
     have h0:0<ps.length:=List.length_pos_iff.2 hps;generalize hn:ps.length=n at hv;cases hv with
     | ownnil _ _ har=>omega
     | own _ _ _ r har hcap=>
      obtain ⟨q1,q2⟩:=holds_Sp hi hl har;have hc:=sortSp_W r.block 0 r.cap ps.toArray w q1 q2 (by unfold big at hbig; simp; omega);have hsq:pdq (Go.Proofs.ltOf cfSp) ps.toArray 0 ps.toArray.size (Lib.bitLen ps.toArray.size) true true=(sortQ ps).toArray:=by unfold sortQ; simp
      rw [hsq]at hc;rw [List.size_toArray,hn]at hc;refine hc.mono fun e w' hk=>?_
      obtain ⟨rfl,q,os,rfl⟩:=hk;obtain ⟨t1,t2⟩:=turn_flat hi (rows':=(sortQ ps).map Sp.row) (F:=Go.Sort.flatK encSp 3 (sortQ ps).toArray) hl har (by simpa [spRows] using s3) (fun x hx=>by obtain ⟨y,_,rfl⟩:=List.mem_map.1 hx; rfl)
       (by rw [flatSp]; exact relSp _) (by rw [flatSp]; exact oneSp _) (w':=Go.Proofs.sortWorldK encSp 3 w r.block 0 q (sortQ ps).toArray os) rfl rfl rfl (os:=os) rfl
      exact ⟨_,C,rfl,.refl C,t1,.tup [] #[] rfl (fun i c v h=>by simp at h),t2⟩
    ·cases hF
   ·cases hF
  ·cases hF
 ·rename_i g
  split at hF
  ·rename_i hg
   subst hg;simp only [Option.some.injEq,Prod.mk.injEq]at hF; obtain ⟨rfl,rfl⟩:=hF;obtain ⟨v,us,e1,hv,hr⟩:=hr.inv_cons;obtain ⟨v2,us,rfl,hv2,hr⟩:=hr.inv_cons;have:=hr.inv_nil; subst this;have hvals:vals=#[v,v2]:=by apply Array.ext'; simpa using e1
   subst hvals;obtain rfl:=fn0_inv hv2;have hv0:∃ p cap,v=.slice p 0 cap:=by
    cases hv with
    | nils=>exact ⟨_,_,rfl⟩
   obtain ⟨p,cap,rfl⟩:=hv0;refine (sortSp_N p cap w).mono fun e w' hk=>?_
   obtain ⟨rfl,rfl⟩:=hk;exact ⟨_,C,rfl,.refl C,hi,.tup [] #[] rfl (fun i c v h=>by simp at h),.refl _ _⟩
  ·cases hF
 ·cases hF
end Go.Proofs.YtpefhfiehfkocaaGreatDoor
