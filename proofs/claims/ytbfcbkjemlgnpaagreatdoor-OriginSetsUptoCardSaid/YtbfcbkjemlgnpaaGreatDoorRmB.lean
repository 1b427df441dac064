/- The reference: the number with which bytes begin. codec: the number with which what is left begins. Readers: an error; numbers. Readers: numbers,the reference's. Readers: texts. Library functions tha -/
import Derived.Test.YtbfcbkjemlgnpaaGreatDoorRmA
import Derived.Test.YtbfcbkjemlgnpaaGreatDoorAm10
import Derived.Lib.LaidTab
import Derived.Shelf.Strconv.Itoa3
import Derived.Test.YtbfcbkjemlgnpaaGreatDoorAm8
namespace Go.Proofs.YtbfcbkjemlgnpaaGreatDoor
open Go.RowKit Go.IntWalk
end Go.Proofs.YtbfcbkjemlgnpaaGreatDoor
namespace Go.Proofs.YtbfcbkjemlgnpaaGreatDoor
open Go.RowKit Go.IntWalk
end Go.Proofs.YtbfcbkjemlgnpaaGreatDoor
namespace Go.Proofs.YtbfcbkjemlgnpaaGreatDoor
open Go.RowKit Go.IntWalk
end Go.Proofs.YtbfcbkjemlgnpaaGreatDoor
namespace Go.Proofs.YtbfcbkjemlgnpaaGreatDoor
open Go.RowKit Go.IntWalk
end Go.Proofs.YtbfcbkjemlgnpaaGreatDoor
namespace Go.Proofs.YtbfcbkjemlgnpaaGreatDoor
open Go.RowKit Go.IntWalk
def F_CloneS:List AV→Option AV
 | [.str s]=>if s.length≤281474976710656 then some (.str s)else none
 | _=>none
section
variable {G:Gam} {st:Bool} {h:Heap}
end
end Go.Proofs.YtbfcbkjemlgnpaaGreatDoor
namespace Go.Proofs.YtbfcbkjemlgnpaaGreatDoor
open Go.RowKit Go.IntWalk
theorem pure_same{P:Program}{gv:Gv}{f:FuncId}{F:List AV→Option AV}
  (hF:∀ (I:Nat→Nat→Option Value) (w:World) (args:List AV) (r:AV) (vals:Array Value),Holds I w→GvHolds gv I w→RelL (Cx.pure I) args vals.toList→F args=some r→
   Calls P f vals w fun e w'=>(∃ v,e=.returned v∧Rel (Cx.pure I) r v)∧Below w.heap.size w w'):PureOK P gv f F:=by
 intro I w args r vals hI hgl hr hF'
 refine (hF I w args r vals hI hgl hr hF').mono fun e w' hk=>?_
 obtain ⟨⟨v,rfl,hv⟩,hbel⟩:=hk
 exact ⟨v,I,rfl,⟨fun _ _ _ h=>h,fun _ _ _ h _=>h⟩,⟨fun b o u hu=>by rw [Below.cell hbel (p:=⟨b,o,none⟩) (cell_lt (hI.cell b o u hu))]; exact hI.cell b o u hu,hI.one⟩,hv,hbel⟩
theorem rel_tup2{C:Cx}{a b:AV}{x y:Value}(h:Rel C a x)(k:Rel C b y):Rel C (.tup [a,b]) (.tuple #[x,y]):=.tup _ _ rfl fun i c v hc hv=>by
 match i with
 | 0=>simp at hc hv; subst hc hv; exact h
 | 1=>simp at hc hv; subst hc hv; exact k
 | _+2=>simp at hc
theorem rel_tup3{C:Cx}{a b c:AV}{x y z:Value}(h:Rel C a x)(k:Rel C b y)(l:Rel C c z):Rel C (.tup [a,b,c]) (.tuple #[x,y,z]):=.tup _ _ rfl fun i c v hc hv=>by
 match i with
 | 0=>simp at hc hv; subst hc hv; exact h
 | 1=>simp at hc hv; subst hc hv; exact k
 | 2=>simp at hc hv; subst hc hv; exact l
 | _+3=>simp at hc
theorem below_grow{w:World}{k:Nat}{os:Array Obj}:Below w.heap.size w (Go.Sort.grow (w.drewN k) os):=by
 have h:(w.drewN k).heap=w.heap∧(w.drewN k).os=w.os∧(w.drewN k).tape=w.tape∧(w.drewN k).output=w.output:=by
  constructor
  ·simp [World.drewN]
  ·refine ⟨?_,?_,?_⟩ <;> simp [World.drewN]
 refine ⟨h.2.1,h.2.2.1,h.2.2.2,by simp [Go.Sort.grow],fun j hj=>?_⟩
 simp only [Go.Sort.grow,h.1]
 rw [Array.getElem?_append_left hj]
theorem one_arg{I:Nat→Nat→Option Value}{a:AV}{vals:Array Value}(hr:RelL (Cx.pure I) [a] vals.toList):∃ x,vals=#[x]∧Rel (Cx.pure I) a x:=by
 obtain ⟨v1,us1,e1,h1,hr⟩:=hr.inv_cons
 have:=hr.inv_nil; subst this
 exact ⟨v1,by apply Array.ext'; simpa using e1,h1⟩
theorem two_args{I:Nat→Nat→Option Value}{a b:AV}{vals:Array Value}(hr:RelL (Cx.pure I) [a,b] vals.toList):∃ x y,vals=#[x,y]∧Rel (Cx.pure I) a x∧Rel (Cx.pure I) b y:=by
 obtain ⟨v1,us1,e1,h1,hr⟩:=hr.inv_cons
 obtain ⟨v2,us2,rfl,h2,hr⟩:=hr.inv_cons
 have:=hr.inv_nil; subst this
 exact ⟨v1,v2,by apply Array.ext'; simpa using e1,h1,h2⟩
def F_Itoa:List AV→Option AV
 | [.int .i64 n]=>if -9223372036854775808≤n∧n≤9223372036854775807 then some (.str (Lib.itoa n))else none
 | _=>none
theorem itoa_pure{P:Program}{gv:Gv}{f g:FuncId}(hn:P.globalNamed "internal/strconv.uint64pow10" = some g)(ht:gv.tb g=some (Lib.pow10Tab.map fun z=>Value.int .u64 z))
  (hc:∀ (n:Int),-9223372036854775808≤n→n≤9223372036854775807→∀ (w:World),Lib.TabIs P w "internal/strconv.uint64pow10" .u64 Lib.pow10Tab→
   Calls P f #[.int .i64 n] w fun e w'=>e=.returned (.string ⟨(Lib.itoa n).toArray⟩)∧∃ k os,w'=Go.Sort.grow (w.drewN k) os):PureOK P gv f F_Itoa:=by
 refine pure_same fun I w args r vals hI hgl hr hF=>?_
 unfold F_Itoa at hF
 split at hF
 ·rename_i n
  split at hF
  ·rename_i hb
   injection hF with hF; subst hF
   obtain ⟨x,rfl,hx⟩:=one_arg hr;have:=int_inv hx; subst this;obtain ⟨T,fz,htb⟩:=hgl.tb g _ ht;refine (hc n hb.1 hb.2 w (by simp [Lib.TabIs,World.var?,hn,htb])).mono fun e w' hk=>?_
   obtain ⟨rfl,k,os,rfl⟩:=hk;exact ⟨⟨_,rfl,.str _⟩,below_grow⟩
  ·cases hF
 ·cases hF
end Go.Proofs.YtbfcbkjemlgnpaaGreatDoor
namespace Go.Proofs.YtbfcbkjemlgnpaaGreatDoor
def F_awake:List AV→Option AV
 | []=>some (.bool true)
 | _=>none
end Go.Proofs.YtbfcbkjemlgnpaaGreatDoor
