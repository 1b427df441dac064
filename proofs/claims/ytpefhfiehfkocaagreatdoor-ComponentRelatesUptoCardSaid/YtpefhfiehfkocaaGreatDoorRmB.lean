/- The reference: the number with which bytes begin. codec: the number with which what is left begins. Readers: an error; numbers. Readers: numbers,the reference's. Readers: texts. Library functions tha -/
import Derived.Test.YtpefhfiehfkocaaGreatDoorRmA
import Derived.Test.YtpefhfiehfkocaaGreatDoorAm10
import Derived.Lib.LaidTab
import Derived.Shelf.Strconv.Itoa3
import Derived.Test.YtpefhfiehfkocaaGreatDoorAm8
namespace Go.Proofs.YtpefhfiehfkocaaGreatDoor
open Go.RowKit Go.IntWalk
end Go.Proofs.YtpefhfiehfkocaaGreatDoor
namespace Go.Proofs.YtpefhfiehfkocaaGreatDoor
open Go.RowKit Go.IntWalk
end Go.Proofs.YtpefhfiehfkocaaGreatDoor
namespace Go.Proofs.YtpefhfiehfkocaaGreatDoor
open Go.RowKit Go.IntWalk
end Go.Proofs.YtpefhfiehfkocaaGreatDoor
namespace Go.Proofs.YtpefhfiehfkocaaGreatDoor
open Go.RowKit Go.IntWalk
end Go.Proofs.YtpefhfiehfkocaaGreatDoor
namespace Go.Proofs.YtpefhfiehfkocaaGreatDoor
open Go.RowKit Go.IntWalk
def F_CloneS:List AV→Option AV
 | [.str s]=>if s.length≤281474976710656 then some (.str s)else none
 | _=>none
section
variable {G:Gam} {st:Bool} {h:Heap}
end
end Go.Proofs.YtpefhfiehfkocaaGreatDoor
namespace Go.Proofs.YtpefhfiehfkocaaGreatDoor
open Go.RowKit Go.IntWalk
theorem pure_same{P:Program}{gv:Gv}{f:FuncId}{F:List AV→Option AV}
  (hF:∀ (I:Nat→Nat→Option Value) (w:World) (args:List AV) (r:AV) (vals:Array Value),Holds I w→GvHolds gv I w→RelL (Cx.pure I) args vals.toList→F args=some r→
   Calls P f vals w fun e w'=>(∃ v,e=.returned v∧Rel (Cx.pure I) r v)∧Below w.heap.size w w'):PureOK P gv f F:=by
 intro I w args r vals hI hgl hr hF'
 refine (hF I w args r vals hI hgl hr hF').mono fun e w' hk=>?_
 obtain ⟨⟨v,rfl,hv⟩,hbel⟩:=hk
 exact ⟨v,I,rfl,⟨fun _ _ _ h=>h,fun _ _ _ h _=>h⟩,⟨fun b o u hu=>by rw [Below.cell hbel (p:=⟨b,o,none⟩) (cell_lt (hI.cell b o u hu))]; exact hI.cell b o u hu,hI.one⟩,hv,hbel⟩
theorem one_arg{I:Nat→Nat→Option Value}{a:AV}{vals:Array Value}(hr:RelL (Cx.pure I) [a] vals.toList):∃ x,vals=#[x]∧Rel (Cx.pure I) a x:=by
 obtain ⟨v1,us1,e1,h1,hr⟩:=hr.inv_cons
 have:=hr.inv_nil; subst this
 exact ⟨v1,by apply Array.ext'; simpa using e1,h1⟩
theorem two_args{I:Nat→Nat→Option Value}{a b:AV}{vals:Array Value}(hr:RelL (Cx.pure I) [a,b] vals.toList):∃ x y,vals=#[x,y]∧Rel (Cx.pure I) a x∧Rel (Cx.pure I) b y:=by
 obtain ⟨v1,us1,e1,h1,hr⟩:=hr.inv_cons
 obtain ⟨v2,us2,rfl,h2,hr⟩:=hr.inv_cons
 have:=hr.inv_nil; subst this
 exact ⟨v1,v2,by apply Array.ext'; simpa using e1,h1,h2⟩
end Go.Proofs.YtpefhfiehfkocaaGreatDoor
namespace Go.Proofs.YtpefhfiehfkocaaGreatDoor
def F_awake:List AV→Option AV
 | []=>some (.bool true)
 | _=>none
end Go.Proofs.YtpefhfiehfkocaaGreatDoor
