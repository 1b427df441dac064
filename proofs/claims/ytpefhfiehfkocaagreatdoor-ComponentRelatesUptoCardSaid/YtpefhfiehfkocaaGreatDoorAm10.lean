/- Calls of the standard library that hand back new slices: Split; Repeat. Calls of the standard library on owned arrays of strings: Sort and Compact. Loops over functions,in proofs over the small langu -/
import Derived.Test.YtpefhfiehfkocaaGreatDoorAm9
import Derived.Shelf.Strings.Split
import Derived.Lib.Repeat
import Derived.Shelf.Sort.Plain
import Derived.Lib.SlicesCompact
namespace Go.Proofs.YtpefhfiehfkocaaGreatDoor
open Go.RowKit Go.IntWalk
def rStr:REnc Bs:=rOne eStr
@[simp] theorem rStr_enc(s:Bs):rStr.enc s=[.str s]:=rfl
def splitBy(c:UInt8):Bs→List Bs
 | []=>[[]]
 | b::r=>if b=c then []::splitBy c r else match splitBy c r with
  | p::ps=>(b::p)::ps
  | []=>[[b]]
theorem splitK_eq(c:UInt8):∀ s:Bs,Lib.splitK [c] 0 (Lib.count s [c]) s=splitBy c s
 | []=>by simp [Lib.count_one,Lib.splitK,splitBy]
 | b::r=>by
  have ih:=splitK_eq c r;by_cases h:b=c
  ·subst h
   have hix:Lib.index (b::r) [b]=0:=by rw [Lib.index_one]; simp [Lib.indexByte]
   rw [Lib.count_cons_eq,Nat.add_comm 1];simp only [Lib.splitK,hix];simp [ih,splitBy]
  ·rw [Lib.count_cons_ne b c r h]
   have hix:Lib.index (b::r) [c]=if Lib.index r [c] == -1 then -1 else Lib.index r [c]+1:=by
    rw [Lib.index_one,Lib.index_one]; simp [Lib.indexByte,h]
   simp only [splitBy,h,if_false];cases hk:Lib.count r [c]with
   | zero=>
    rw [hk]at ih;simp only [Lib.splitK]at ih ⊢;rw [← ih]
   | succ k=>
    rw [hk]at ih;simp only [Lib.splitK]at ih ⊢;rw [hix];by_cases hm:Lib.index r [c]=-1
    ·simp only [hm,BEq.rfl,if_true]at ih ⊢
     rw [← ih]
    ·have hge:=Lib.index_ge r [c]
     have hm':(Lib.index r [c] == -1)=false:=by simp [hm]
     have hm2:(Lib.index r [c]+1 == -1)=false:=by simp; omega
     simp only [hm',Bool.false_eq_true,if_false,hm2]at ih ⊢;rw [← ih];have e:(Lib.index r [c]+1).toNat=(Lib.index r [c]).toNat+1:=by omega
     simp [e]
theorem pure_fresh{P:Program}{gv:Gv}{f:FuncId}{F:List AV→Option AV}{ty:TypeId}
  (hF:∀ (I:Nat→Nat→Option Value) (w:World) (args:List AV) (r:AV) (vals:Array Value),Holds I w→GvHolds gv I w→RelL (Cx.pure I) args vals.toList→F args=some r→
   ∃ ss:List Bs,r=.sl (ss.map rStr.enc)∧Calls P f vals w fun e w'=>e=.returned (.slice (some ⟨w.heap.size,0,none⟩) ss.length ss.length)∧w'=w.alloc (.cells ((ss.map fun s=>Value.string ⟨s.toArray⟩).toArray) ty)):PureOK P gv f F:=by
 intro I w args r vals hI hgl hr hF'
 obtain ⟨ss,rfl,hc⟩:=hF I w args r vals hI hgl hr hF'
 refine hc.mono fun e w' hk=>?_
 obtain ⟨rfl,rfl⟩:=hk
 have hnew:(w.alloc (.cells ((ss.map fun s=>Value.string ⟨s.toArray⟩).toArray) ty)).heap[w.heap.size]?=some (.cells ((ss.map fun s=>Value.string ⟨s.toArray⟩).toArray) ty (0,0)):=heap_alloc_new w _
 have hlt:∀ b o u,I b o=some u→b<w.heap.size:=fun b o u hu=>cell_lt (hI.cell b o u hu)
 refine ⟨_,fun b o=>if b=w.heap.size then (ss[o]?).map (fun s=>Value.string ⟨s.toArray⟩)else I b o,rfl,⟨fun b o u hu=>?_,fun b o u hu hb=>?_⟩,⟨fun b o u hu=>?_,fun b o u hu=>?_⟩,?_,below_alloc w _⟩
 ·show (if b=w.heap.size then _ else _)=_
  rw [if_neg (by have:=hlt b o u hu; omega)]; exact hu
 ·replace hu:(if b=w.heap.size then (ss[o]?).map (fun s=>Value.string ⟨s.toArray⟩)else I b o)=some u:=hu
  rw [if_neg (by omega)]at hu; exact hu
 ·replace hu:(if b=w.heap.size then (ss[o]?).map (fun s=>Value.string ⟨s.toArray⟩)else I b o)=some u:=hu
  split at hu
  ·rename_i e; subst e
   rw [cell_of_heap hnew];obtain ⟨s,h1,rfl⟩:=Option.map_eq_some_iff.1 hu;simp [h1]
  ·have h1:=hI.cell b o u hu
   rw [Below.cell (below_alloc w _) (p:=⟨b,o,none⟩) (cell_lt h1)]; exact h1
 ·replace hu:(if b=w.heap.size then (ss[o]?).map (fun s=>Value.string ⟨s.toArray⟩)else I b o)=some u:=hu
  split at hu
  ·obtain ⟨s,h1,rfl⟩:=Option.map_eq_some_iff.1 hu
   rfl
  ·exact hI.one b o u hu
 ·have hl:ss.length=(ss.map rStr.enc).length:=by simp
  rw [hl];refine .sl _ w.heap.size 0 _ 1 (fun i _=>.string ⟨((ss[i]?).getD []).toArray⟩) (Nat.le_refl _) (fun i row h=>?_) (fun i row j c h1 h2=>?_) (fun i row j c h1 h2=>?_)
  ·simp only [List.getElem?_map,Option.map_eq_some_iff]at h
   obtain ⟨s,_,rfl⟩:=h; rfl
  ·simp only [List.getElem?_map,Option.map_eq_some_iff]at h1
   obtain ⟨s,h3,rfl⟩:=h1;have hj:j=0:=by cases j with
    | zero=>rfl
    | succ j=>simp at h2
   subst hj;simp [Cx.pure,h3]
  ·simp only [List.getElem?_map,Option.map_eq_some_iff]at h1
   obtain ⟨s,h3,rfl⟩:=h1;have hj:j=0:=by cases j with
    | zero=>rfl
    | succ j=>simp at h2
   subst hj;simp at h2; subst h2;simp only [h3,Option.getD_some];exact .str s
def F_Split:List AV→Option AV:=F2 eStr eStr (eSl rStr) fun s sep=>match sep with
 | [c]=>if s.length<4294967281 then some (splitBy c s)else none
 | _=>none
theorem split_pure{P:Program}{gv:Gv}{f:FuncId}{ty g:Nat}{m:Int}(hg:gv g=some [.int .i64 m])
  (hc:∀ (s sep:ByteArray) (w:World),s.size<4294967281→w.cell? ⟨g,0,none⟩=some (.int .i64 m)→1≤sep.size→
   Calls P f #[.string s,.string sep] w fun e w'=>e=.returned (.slice (some ⟨w.heap.size,0,none⟩) (Lib.countB s sep+1) (Lib.countB s sep+1))∧w'=w.alloc (.cells ((Lib.splitB sep 0 (Lib.countB s sep) s).map Value.string).toArray ty)):PureOK P gv f F_Split:=by
 refine pure_fresh (ty:=ty) fun I w args r vals hI hgl hr hF=>?_
 obtain ⟨s,sep,ss,rfl,h,rfl⟩:=F2_inv hF
 split at h
 ·rename_i c
  split at h
  ·rename_i hs
   injection h with h; subst h
   refine ⟨splitBy c s,rfl,?_⟩
   obtain ⟨v1,us1,e1,h1,hr⟩:=hr.inv_cons;obtain ⟨v2,us2,rfl,h2,hr⟩:=hr.inv_cons;have:=hr.inv_nil; subst this;have:=str_inv h1; subst this;have:=str_inv h2; subst this;have hv:vals=#[.string ⟨s.toArray⟩,.string ⟨[c].toArray⟩]:=by apply Array.ext'; simpa using e1
   subst hv;have hm:w.cell? ⟨g,0,none⟩=some (.int .i64 m):=by
    have:=hgl.gl g _ hg;cases this with
    | fptr _ _ b o us k1 k2=>
     have e:=k2 0 (.int .i64 m) rfl;have:=int_inv e;have c0:=hI.cell _ _ _ (k1 0 (.int .i64 m) rfl);rw [this]at c0;simpa using c0
   have hc':=hc ⟨s.toArray⟩ ⟨[c].toArray⟩ w (by rw [size_ba]; exact hs) hm (by rw [size_ba]; simp);have hall:=Lib.splitB_all (⟨[c].toArray⟩:ByteArray) (by rw [size_ba]; simp) 0 _ ⟨s.toArray⟩ rfl;have hd:(Lib.splitB ⟨[c].toArray⟩ 0 (Lib.countB ⟨s.toArray⟩ ⟨[c].toArray⟩) ⟨s.toArray⟩).map (·.data.toList)=splitBy c s:=by
    rw [Lib.splitB_data]; exact splitK_eq c s
   have hcells:(Lib.splitB ⟨[c].toArray⟩ 0 (Lib.countB ⟨s.toArray⟩ ⟨[c].toArray⟩) ⟨s.toArray⟩).map Value.string=(splitBy c s).map fun s=>Value.string ⟨s.toArray⟩:=by
    rw [← hd,List.map_map]; rfl
   have hlen:(splitBy c s).length=Lib.countB ⟨s.toArray⟩ ⟨[c].toArray⟩+1:=by rw [← hd,List.length_map]; exact hall
   rw [hcells,← hlen]at hc';exact hc'
  ·cases h
 ·cases h
end Go.Proofs.YtpefhfiehfkocaaGreatDoor
namespace Go.Proofs.YtpefhfiehfkocaaGreatDoor
open Go.RowKit Go.IntWalk
end Go.Proofs.YtpefhfiehfkocaaGreatDoor
namespace Go.Proofs.YtpefhfiehfkocaaGreatDoor
open Go.RowKit Go.IntWalk
section
variable {G:Gam} {ks:List MK} {Q:MPost} {env fr:List (Nat×AV)} {h:Heap}
theorem op_yld{Y:Nat→List AV→Heap→Option (AV×Heap)}{k:Nat}{args:List AV}:opV { G with y:=Y } false h .callv (some (.yld k::args))=Y k args h:=rfl
@[simp] theorem withY_fn{Y:Nat→List AV→Heap→Option (AV×Heap)}{f:FuncId}:({ G with y:=Y }:Gam).fn f=G.fn f:=rfl
end
end Go.Proofs.YtpefhfiehfkocaaGreatDoor
namespace Go.Proofs.YtpefhfiehfkocaaGreatDoor
open Go.RowKit
mutual
theorem low_up{n m:Nat}(hnm:n≤m):∀ {v:AV},low n v=true→low m v=true
 | .own l _ _,h=>by simp only [low,decide_eq_true_eq]at h ⊢; omega
 | .win l _ _ _,h=>by simp only [low,decide_eq_true_eq]at h ⊢; omega
 | .ptr l _,h=>by simp only [low,decide_eq_true_eq]at h ⊢; omega
 | .eptr l _ _ _,h=>by simp only [low,decide_eq_true_eq]at h ⊢; omega
 | .map l,h=>by simp only [low,decide_eq_true_eq]at h ⊢; omega
 | .yld l,h=>by simp only [low,decide_eq_true_eq]at h ⊢; omega
 | .agg cs,h=>by simp only [low]at h ⊢; exact lowL_up hnm h
 | .tup cs,h=>by simp only [low]at h ⊢; exact lowL_up hnm h
 | .fn _ cs,h=>by simp only [low]at h ⊢; exact lowL_up hnm h
 | .mth _ v,h=>by simp only [low]at h ⊢; exact low_up hnm h
 | .iface _ v,h=>by simp only [low]at h ⊢; exact low_up hnm h
 | .bool _,_=>rfl
 | .int _ _,_=>rfl
 | .str _,_=>rfl
 | .sl _,_=>rfl
 | .tsl _,_=>rfl
 | .nils,_=>rfl
 | .fptr _ _,_=>rfl
 | .gptr _ _,_=>rfl
 | .nilp,_=>rfl
 | .nilm,_=>rfl
 | .nilf,_=>rfl
 | .nili,_=>rfl
 | .junk,_=>rfl
theorem lowL_up{n m:Nat}(hnm:n≤m):∀ {vs:List AV},lowL n vs=true→lowL m vs=true
 | [],_=>rfl
 | v::vs,h=>by
  simp only [lowL,Bool.and_eq_true]at h ⊢;exact ⟨low_up hnm h.1,lowL_up hnm h.2⟩
end
theorem lowRows_up{n m:Nat}(hnm:n≤m):∀ {rs:List (List AV)},lowRows n rs=true→lowRows m rs=true
 | [],_=>rfl
 | r::rs,h=>by
  simp only [lowRows,Bool.and_eq_true]at h ⊢;exact ⟨lowL_up hnm h.1,lowRows_up hnm h.2⟩
theorem lowB_up{n m:Nat}(hnm:n≤m){b:Blk}(h:lowB n b=true):lowB m b=true:=by
 cases b with
 | cellsT tg vs=>exact lowL_up hnm h
 | arrX ne tg sz ver rows wr=>
  cases ne with
  | false=>rfl
  | true=>exact lowRows_up hnm h
 | mit k q seen last=>
  cases k with
  | none=>rfl
  | some k=>simp only [lowB,decide_eq_true_eq]at h ⊢; omega
 | _=>rfl
theorem lowH_up{n m:Nat}(hnm:n≤m){h:Heap}(k:lowH n h=true):lowH m h=true:=lowH_of fun _ _ hb=>lowB_up hnm (lowH_get k hb)
theorem lowH_set{n l:Nat}{h:Heap}{b:Blk}(k:lowH n h=true)(hb:lowB n b=true):lowH n (h.set l b)=true:=by
 refine lowH_of fun i c hc=>?_
 rw [List.getElem?_set]at hc
 split at hc
 ·split at hc
  ·injection hc with hc; subst hc; exact hb
  ·cases hc
 ·exact lowH_get k hc
theorem lowH_app{n:Nat}{a b:Heap}(h1:lowH n a=true)(h2:lowH n b=true):lowH n (a++b)=true:=by
 refine lowH_of fun i c hc=>?_
 rw [List.getElem?_append]at hc
 split at hc
 ·exact lowH_get h1 hc
 ·exact lowH_get h2 hc
theorem trunc_low{n:Nat}{fr:List (Nat×AV)}{a b:Heap}(hn:a.length=n)(hf:lowFr n fr=true)(ha:lowH n a=true):trunc n fr (a++b)=a:=by
 have ht:(a++b).take n=a:=by subst hn; simp
 unfold trunc
 rw [ht,hf,ha]; rfl
theorem leaves_app{a b:Heap}:Leaves a (a++b):=⟨by simp,fun l c hc=>.inr (by rw [List.getElem?_append_left (List.getElem?_eq_some_iff.1 hc).1]; exact hc)⟩
end Go.Proofs.YtpefhfiehfkocaaGreatDoor
