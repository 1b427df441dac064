/- The reference: parts of names,paths. digest.Parse walked. The library's functions on strings,turned from the shelf: Atoi,Cut,IndexByte,HasPrefix,Clone,Contains,Count,Compare. -/
import Derived.Test.YtpefhfiehfkocaaGreatDoorRmD
import Derived.Lib.AtoiAll
import Derived.Shelf.Strings.Cut
import Derived.Test.YtpefhfiehfkocaaGreatDoorRmB
import Derived.Test.YtpefhfiehfkocaaGreatDoorAm10
import Derived.Lib.AtoiErrMem
import Derived.Lib.LaidTab
import Derived.Lib.Bytealg
import Derived.Lib.IndexMore
namespace Go.Proofs.YtpefhfiehfkocaaGreatDoor
open Go.RowKit Go.IntWalk
attribute [local congr] ite_congr
end Go.Proofs.YtpefhfiehfkocaaGreatDoor
namespace Go.Proofs.YtpefhfiehfkocaaGreatDoor
open Go.RowKit Go.IntWalk
end Go.Proofs.YtpefhfiehfkocaaGreatDoor
namespace Go.Proofs.YtpefhfiehfkocaaGreatDoor
open Go.RowKit
theorem hasPrefix_pure{P:Program}{gv:Gv}{f:Nat}
  (hc:∀ (s t:ByteArray) (w:World),Calls P f #[.string s,.string t] w fun e w'=>e=.returned (.bool (Lib.hasPrefix s.data.toList t.data.toList))∧w'=w):PureOK P gv f F_HasPrefix:=by
 refine pure_same fun I w args r vals hI hgl hr hF=>?_
 unfold F_HasPrefix at hF
 split at hF
 ·rename_i s t
  injection hF with hF; subst hF
  obtain ⟨x,y,rfl,hx,hy⟩:=two_args hr;have:=str_inv hx; subst this;have:=str_inv hy; subst this;refine (hc ⟨s.toArray⟩ ⟨t.toArray⟩ w).mono fun e w' hk=>?_
  obtain ⟨rfl,rfl⟩:=hk;exact ⟨⟨_,rfl,.bool _⟩,Below.refl _ _⟩
 ·cases hF
theorem cloneS_pure{P:Program}{gv:Gv}{f:Nat}
  (hc:∀ (s:ByteArray) (w:World),s.size≤281474976710656→Calls P f #[.string s] w fun e w'=>e=.returned (.string s)∧Below w.heap.size w w'):PureOK P gv f fun args=>match args with | [.str s]=>if s.length≤281474976710656 then some (.str s)else none | _=>none:=by
 refine pure_same fun I w args r vals hI hgl hr hF=>?_
 split at hF
 ·rename_i s
  split at hF
  ·rename_i hs
   injection hF with hF; subst hF
   obtain ⟨x,rfl,hx⟩:=one_arg hr;have:=str_inv hx; subst this;refine (hc ⟨s.toArray⟩ w (by rw [size_ba]; exact hs)).mono fun e w' hk=>?_
   obtain ⟨rfl,hb⟩:=hk;exact ⟨⟨_,rfl,.str _⟩,hb⟩
  ·cases hF
 ·cases hF
theorem maxLen_cell{gv:Gv}{I:Nat→Nat→Option Value}{w:World}(hI:Holds I w)(hgl:GvHolds gv I w){g:Nat}{m:Int}(hg:gv g=some [.int .i64 m]):w.cell? ⟨g,0,none⟩=some (.int .i64 m):=by
 have:=hgl.gl g _ hg
 cases this with
 | fptr _ _ b o us k1 k2=>
  have e:=k2 0 (.int .i64 m) rfl;have:=int_inv e;have c0:=hI.cell _ _ _ (k1 0 (.int .i64 m) rfl);rw [this]at c0;simpa using c0
def F_Contains:List AV→Option AV
 | [.str s,.str t]=>if s.length<4294967281 then some (.bool (Lib.contains s t))else none
 | _=>none
theorem contains_pure{P:Program}{gv:Gv}{f g:Nat}{m:Int}(hg:gv g=some [.int .i64 m])
  (hc:∀ (s t:ByteArray) (w:World),s.size<4294967281→w.cell? ⟨g,0,none⟩=some (.int .i64 m)→Calls P f #[.string s,.string t] w fun e w'=>e=.returned (.bool (Lib.contains s.data.toList t.data.toList))∧w'=w):PureOK P gv f F_Contains:=by
 refine pure_same fun I w args r vals hI hgl hr hF=>?_
 unfold F_Contains at hF
 split at hF
 ·rename_i s t
  split at hF
  ·rename_i hb
   injection hF with hF; subst hF
   obtain ⟨x,y,rfl,hx,hy⟩:=two_args hr;have:=str_inv hx; subst this;have:=str_inv hy; subst this;refine (hc ⟨s.toArray⟩ ⟨t.toArray⟩ w (by rw [size_ba]; exact hb) (maxLen_cell hI hgl hg)).mono fun e w' hk=>?_
   obtain ⟨rfl,rfl⟩:=hk;exact ⟨⟨_,rfl,.bool _⟩,Below.refl _ _⟩
  ·cases hF
 ·cases hF
def F_Count1:List AV→Option AV
 | [.str s,.str [c]]=>some (.int .i64 (Lib.countByte s c))
 | _=>none
theorem count1_pure{P:Program}{gv:Gv}{f:Nat}
  (hc:∀ (s:ByteArray) (c:UInt8) (w:World),Calls P f #[.string s,.string ⟨#[c]⟩] w fun e w'=>e=.returned (.int .i64 (Lib.countByte s.data.toList c))∧w'=w):PureOK P gv f F_Count1:=by
 refine pure_same fun I w args r vals hI hgl hr hF=>?_
 unfold F_Count1 at hF
 split at hF
 ·rename_i s c
  injection hF with hF; subst hF
  obtain ⟨x,y,rfl,hx,hy⟩:=two_args hr;have:=str_inv hx; subst this;have:=str_inv hy; subst this;refine (hc ⟨s.toArray⟩ c w).mono fun e w' hk=>?_
  obtain ⟨rfl,rfl⟩:=hk;exact ⟨⟨_,rfl,.int _ _⟩,Below.refl _ _⟩
 ·cases hF
def F_Compare:List AV→Option AV
 | [.str s,.str t]=>some (.int .i64 (Lib.compareBytes s t))
 | _=>none
theorem compare_pure{P:Program}{gv:Gv}{f:Nat}
  (hc:∀ (s t:ByteArray) (w:World),Calls P f #[.string s,.string t] w fun e w'=>e=.returned (.int .i64 (Lib.compareBytes s.data.toList t.data.toList))∧w'=w):PureOK P gv f F_Compare:=by
 refine pure_same fun I w args r vals hI hgl hr hF=>?_
 unfold F_Compare at hF
 split at hF
 ·rename_i s t
  injection hF with hF; subst hF
  obtain ⟨x,y,rfl,hx,hy⟩:=two_args hr;have:=str_inv hx; subst this;have:=str_inv hy; subst this;refine (hc ⟨s.toArray⟩ ⟨t.toArray⟩ w).mono fun e w' hk=>?_
  obtain ⟨rfl,rfl⟩:=hk;exact ⟨⟨_,rfl,.int _ _⟩,Below.refl _ _⟩
 ·cases hF
end Go.Proofs.YtpefhfiehfkocaaGreatDoor
