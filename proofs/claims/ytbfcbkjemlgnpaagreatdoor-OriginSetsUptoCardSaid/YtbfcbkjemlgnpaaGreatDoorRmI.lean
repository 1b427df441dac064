/- The reference: parts of names,paths. digest.Parse walked. The library's functions on strings,turned from the shelf: Atoi,Cut,IndexByte,HasPrefix,Clone,Contains,Count,Compare. -/
import Derived.Test.YtbfcbkjemlgnpaaGreatDoorRmD
import Derived.Lib.AtoiAll
import Derived.Shelf.Strings.Cut
import Derived.Test.YtbfcbkjemlgnpaaGreatDoorRmB
import Derived.Test.YtbfcbkjemlgnpaaGreatDoorAm10
import Derived.Lib.AtoiErrMem
import Derived.Lib.LaidTab
import Derived.Lib.Bytealg
import Derived.Lib.IndexMore
namespace Go.Proofs.YtbfcbkjemlgnpaaGreatDoor
open Go.RowKit Go.IntWalk
attribute [local congr] ite_congr
def F_name:List AV→Option AV:=F1 eStr eBool fun s=>if s.length≤big then some (partOK s)else none
end Go.Proofs.YtbfcbkjemlgnpaaGreatDoor
namespace Go.Proofs.YtbfcbkjemlgnpaaGreatDoor
open Go.RowKit Go.IntWalk
end Go.Proofs.YtbfcbkjemlgnpaaGreatDoor
namespace Go.Proofs.YtbfcbkjemlgnpaaGreatDoor
open Go.RowKit
def atoiAV(T:TypeId)(s:Bs):AV:=match Lib.atoiAll s with
 | .ok v=>.tup [.int .i64 v,.nili]
 | .range=>.tup [.int .i64 (Lib.atoiSat s),.iface T .junk]
 | _=>.tup [.int .i64 0,.iface T .junk]
theorem numEnd_cases(x:Lib.NumEnd Int):(∃ v,x=.ok v)∨x=.range∨x=Lib.atoiAll []:=by
 rcases x with v | _ | _
 ·exact .inl ⟨v,rfl⟩
 ·exact .inr (.inr rfl)
 ·exact .inr (.inl rfl)
def F_Atoi(T:TypeId):List AV→Option AV
 | [.str s]=>if s.length≤281474976710656 then some (atoiAV T s)else none
 | _=>none
theorem atoi_pure{P:Program}{gv:Gv}{f g4 g5 T e5:Nat}{t4 t5:TypeId}{p4 p5:Value}(h4:gv.tb g4=some [.iface t4 p4])(h5:gv.tb g5=some [.iface t5 p5])
  (hok:∀ (s:ByteArray),s.size≤9223372036854775806→∀ (v:Int),Lib.atoiAll s.data.toList=.ok v→∀ (w:World),Calls P f #[.string s] w fun e w'=>e=.returned (.tuple #[.int .i64 v,.nilIface])∧(w'=w∨∃ t,w'=Lib.bytesWorld w e5 t))
  (hsy:∀ (s:ByteArray),s.size≤281474976710656→Lib.atoiAll s.data.toList=Lib.atoiAll []→∀ (ev:Value) (w:World),w.cell? ⟨g4,0,none⟩=some ev→(ev=.nilIface∨∃ te pe,ev=.iface te pe)→
   Calls P f #[.string s] w fun e w'=>(∃ N,e=.returned (.tuple #[.int .i64 0,.iface T (.pointer (some ⟨N,0,none⟩))]))∧Below w.heap.size w w')
  (hra:∀ (s:ByteArray),s.size≤281474976710656→Lib.atoiAll s.data.toList=.range→∀ (ev:Value) (w:World),w.cell? ⟨g5,0,none⟩=some ev→(ev=.nilIface∨∃ te pe,ev=.iface te pe)→
   Calls P f #[.string s] w fun e w'=>(∃ N,e=.returned (.tuple #[.int .i64 (Lib.atoiSat s.data.toList),.iface T (.pointer (some ⟨N,0,none⟩))]))∧Below w.heap.size w w'):PureOK P gv f (F_Atoi T):=by
 refine pure_same fun I w args r vals hI hgl hr hF=>?_
 unfold F_Atoi at hF
 split at hF
 ·rename_i s
  split at hF
  ·rename_i hb
   injection hF with hF; subst hF
   obtain ⟨x,rfl,hx⟩:=one_arg hr;have:=str_inv hx; subst this;have hsz:(ByteArray.mk s.toArray).size≤281474976710656:=by rw [size_ba]; exact hb
   have hd:(ByteArray.mk s.toArray).data.toList=s:=by simp
   rcases numEnd_cases (Lib.atoiAll s)with ⟨v,hv⟩ | hv | hv
   ·have e0:atoiAV T s=.tup [.int .i64 v,.nili]:=by unfold atoiAV; rw [hv]
    rw [e0];refine (hok ⟨s.toArray⟩ (by omega) v (by rw [hd]; exact hv) w).mono fun e w' hk=>?_
    obtain ⟨rfl,hk⟩:=hk;refine ⟨⟨_,rfl,rel_tup2 (.int _ _) .nili⟩,?_⟩
    rcases hk with rfl | ⟨t,rfl⟩
    ·exact Below.refl _ _
    ·exact Lib.bytesWorld_below _ _ _
   ·have e0:atoiAV T s=.tup [.int .i64 (Lib.atoiSat s),.iface T .junk]:=by unfold atoiAV; rw [hv]
    rw [e0];obtain ⟨T5,fz,htb⟩:=hgl.tb g5 _ h5;refine (hra ⟨s.toArray⟩ hsz (by rw [hd]; exact hv) _ w (by rw [cell_of_heap htb]; rfl) (.inr ⟨_,_,rfl⟩)).mono fun e w' hk=>?_
    obtain ⟨⟨N,rfl⟩,hbel⟩:=hk;rw [hd];exact ⟨⟨_,rfl,rel_tup2 (.int _ _) (.iface _ _ _ (.junk _))⟩,hbel⟩
   ·have e0:atoiAV T s=.tup [.int .i64 0,.iface T .junk]:=by unfold atoiAV; rw [hv]; rfl
    rw [e0];obtain ⟨T4,fz,htb⟩:=hgl.tb g4 _ h4;refine (hsy ⟨s.toArray⟩ hsz (by rw [hd]; exact hv) _ w (by rw [cell_of_heap htb]; rfl) (.inr ⟨_,_,rfl⟩)).mono fun e w' hk=>?_
    obtain ⟨⟨N,rfl⟩,hbel⟩:=hk;exact ⟨⟨_,rfl,rel_tup2 (.int _ _) (.iface _ _ _ (.junk _))⟩,hbel⟩
  ·cases hF
 ·cases hF
def F_Cut:List AV→Option AV
 | [.str s,.str sep]=>if s.length<4294967281 then some (.tup [.str (Lib.cut s sep).1,.str (Lib.cut s sep).2.1,.bool (Lib.cut s sep).2.2])else none
 | _=>none
theorem cut_pure{P:Program}{gv:Gv}{f g:Nat}{m:Int}(hg:gv g=some [.int .i64 m])
  (hc:∀ (s sep:ByteArray) (w:World),s.size<4294967281→w.cell? ⟨g,0,none⟩=some (.int .i64 m)→Calls P f #[.string s,.string sep] w fun e w'=>
   e=.returned (.tuple #[.string ⟨(Lib.cut s.data.toList sep.data.toList).1.toArray⟩,.string ⟨(Lib.cut s.data.toList sep.data.toList).2.1.toArray⟩,.bool (Lib.cut s.data.toList sep.data.toList).2.2])∧∃ n,w'=w.drewN n):PureOK P gv f F_Cut:=by
 refine pure_same fun I w args r vals hI hgl hr hF=>?_
 unfold F_Cut at hF
 split at hF
 ·rename_i s sep
  split at hF
  ·rename_i hb
   injection hF with hF; subst hF
   obtain ⟨x,y,rfl,hx,hy⟩:=two_args hr;have:=str_inv hx; subst this;have:=str_inv hy; subst this;have hm:w.cell? ⟨g,0,none⟩=some (.int .i64 m):=by
    have:=hgl.gl g _ hg;cases this with
    | fptr _ _ b o us k1 k2=>
     have e:=k2 0 (.int .i64 m) rfl;have:=int_inv e;have c0:=hI.cell _ _ _ (k1 0 (.int .i64 m) rfl);rw [this]at c0;simpa using c0
   refine (hc ⟨s.toArray⟩ ⟨sep.toArray⟩ w (by rw [size_ba]; exact hb) hm).mono fun e w' hk=>?_
   obtain ⟨rfl,n,rfl⟩:=hk;refine ⟨⟨_,rfl,rel_tup3 (.str _) (.str _) (.bool _)⟩,?_⟩
   have:=below_grow (w:=w) (k:=n) (os:=#[]);rwa [Go.Sort.grow_empty]at this
  ·cases hF
 ·cases hF
theorem hasPrefix_pure{P:Program}{gv:Gv}{f:Nat}
  (hc:∀ (s t:ByteArray) (w:World),Calls P f #[.string s,.string t] w fun e w'=>e=.returned (.bool (Lib.hasPrefix s.data.toList t.data.toList))∧w'=w):PureOK P gv f F_HasPrefix:=by
 refine pure_same fun I w args r vals hI hgl hr hF=>?_
 unfold F_HasPrefix at hF
 split at hF
 ·rename_i s t
  injection hF with hF; subst hF
  obtain ⟨x,y,rfl,hx,hy⟩:=two_args hr;have:=str_inv hx; subst this;have:=str_inv hy; subst this;refine (hc ⟨s.toArray⟩ ⟨t.toArray⟩ w).mono fun e w' hk=>?_
  obtain ⟨rfl,rfl⟩:=hk;exact ⟨⟨_,rfl,.bool _⟩,Below.refl _ _⟩
 ·cases hF
theorem cloneS_pure{P:Program}{gv:Gv}{f:Nat}
  (hc:∀ (s:ByteArray) (w:World),s.size≤281474976710656→Calls P f #[.string s] w fun e w'=>e=.returned (.string s)∧Below w.heap.size w w'):PureOK P gv f fun args=>match args with | [.str s]=>if s.length≤281474976710656 then some (.str s)else none | _=>none:=by
 refine pure_same fun I w args r vals hI hgl hr hF=>?_
 split at hF
 ·rename_i s
  split at hF
  ·rename_i hs
   injection hF with hF; subst hF
   obtain ⟨x,rfl,hx⟩:=one_arg hr;have:=str_inv hx; subst this;refine (hc ⟨s.toArray⟩ w (by rw [size_ba]; exact hs)).mono fun e w' hk=>?_
   obtain ⟨rfl,hb⟩:=hk;exact ⟨⟨_,rfl,.str _⟩,hb⟩
  ·cases hF
 ·cases hF
theorem maxLen_cell{gv:Gv}{I:Nat→Nat→Option Value}{w:World}(hI:Holds I w)(hgl:GvHolds gv I w){g:Nat}{m:Int}(hg:gv g=some [.int .i64 m]):w.cell? ⟨g,0,none⟩=some (.int .i64 m):=by
 have:=hgl.gl g _ hg
 cases this with
 | fptr _ _ b o us k1 k2=>
  have e:=k2 0 (.int .i64 m) rfl;have:=int_inv e;have c0:=hI.cell _ _ _ (k1 0 (.int .i64 m) rfl);rw [this]at c0;simpa using c0
def F_Contains:List AV→Option AV
 | [.str s,.str t]=>if s.length<4294967281 then some (.bool (Lib.contains s t))else none
 | _=>none
theorem contains_pure{P:Program}{gv:Gv}{f g:Nat}{m:Int}(hg:gv g=some [.int .i64 m])
  (hc:∀ (s t:ByteArray) (w:World),s.size<4294967281→w.cell? ⟨g,0,none⟩=some (.int .i64 m)→Calls P f #[.string s,.string t] w fun e w'=>e=.returned (.bool (Lib.contains s.data.toList t.data.toList))∧w'=w):PureOK P gv f F_Contains:=by
 refine pure_same fun I w args r vals hI hgl hr hF=>?_
 unfold F_Contains at hF
 split at hF
 ·rename_i s t
  split at hF
  ·rename_i hb
   injection hF with hF; subst hF
   obtain ⟨x,y,rfl,hx,hy⟩:=two_args hr;have:=str_inv hx; subst this;have:=str_inv hy; subst this;refine (hc ⟨s.toArray⟩ ⟨t.toArray⟩ w (by rw [size_ba]; exact hb) (maxLen_cell hI hgl hg)).mono fun e w' hk=>?_
   obtain ⟨rfl,rfl⟩:=hk;exact ⟨⟨_,rfl,.bool _⟩,Below.refl _ _⟩
  ·cases hF
 ·cases hF
def F_Count1:List AV→Option AV
 | [.str s,.str [c]]=>some (.int .i64 (Lib.countByte s c))
 | _=>none
theorem count1_pure{P:Program}{gv:Gv}{f:Nat}
  (hc:∀ (s:ByteArray) (c:UInt8) (w:World),Calls P f #[.string s,.string ⟨#[c]⟩] w fun e w'=>e=.returned (.int .i64 (Lib.countByte s.data.toList c))∧w'=w):PureOK P gv f F_Count1:=by
 refine pure_same fun I w args r vals hI hgl hr hF=>?_
 unfold F_Count1 at hF
 split at hF
 ·rename_i s c
  injection hF with hF; subst hF
  obtain ⟨x,y,rfl,hx,hy⟩:=two_args hr;have:=str_inv hx; subst this;have:=str_inv hy; subst this;refine (hc ⟨s.toArray⟩ c w).mono fun e w' hk=>?_
  obtain ⟨rfl,rfl⟩:=hk;exact ⟨⟨_,rfl,.int _ _⟩,Below.refl _ _⟩
 ·cases hF
def F_Compare:List AV→Option AV
 | [.str s,.str t]=>some (.int .i64 (Lib.compareBytes s t))
 | _=>none
theorem compare_pure{P:Program}{gv:Gv}{f:Nat}
  (hc:∀ (s t:ByteArray) (w:World),Calls P f #[.string s,.string t] w fun e w'=>e=.returned (.int .i64 (Lib.compareBytes s.data.toList t.data.toList))∧w'=w):PureOK P gv f F_Compare:=by
 refine pure_same fun I w args r vals hI hgl hr hF=>?_
 unfold F_Compare at hF
 split at hF
 ·rename_i s t
  injection hF with hF; subst hF
  obtain ⟨x,y,rfl,hx,hy⟩:=two_args hr;have:=str_inv hx; subst this;have:=str_inv hy; subst this;refine (hc ⟨s.toArray⟩ ⟨t.toArray⟩ w).mono fun e w' hk=>?_
  obtain ⟨rfl,rfl⟩:=hk;exact ⟨⟨_,rfl,.int _ _⟩,Below.refl _ _⟩
 ·cases hF
end Go.Proofs.YtbfcbkjemlgnpaaGreatDoor
