/- Readers: texts,the reference's. Readers: the end; the bytes of numbers and texts. The bytes of texts. Bundles: the files of a tree,read. Bundles: the files of a tree,read: the reference's. Trees,b -/
import Derived.Test.YtopiadllkglamaaGreatDoorWRmB
import Derived.Test.YtopiadllkglamaaGreatDoorWAm10
import Derived.Test.YtopiadllkglamaaGreatDoorWRmD
namespace Go.Proofs.YtopiadllkglamaaGreatDoor
open Go.RowKit Go.IntWalk
end Go.Proofs.YtopiadllkglamaaGreatDoor
namespace Go.Proofs.YtopiadllkglamaaGreatDoor
open Go.RowKit Go.IntWalk
end Go.Proofs.YtopiadllkglamaaGreatDoor
namespace Go.Proofs.YtopiadllkglamaaGreatDoor
open Go.RowKit Go.IntWalk
end Go.Proofs.YtopiadllkglamaaGreatDoor
namespace Go.Proofs.YtopiadllkglamaaGreatDoor
open Go.RowKit Go.IntWalk
section
variable {h x : Heap} {l : Nat} {tg : Option TypeId} {r r' : Rd} {ts : List Touch} {b c : Blk} {t : Touch}
end
section
variable {G : Gam} {h x : Heap} {l : Nat} {tg : Option TypeId} {r : Rd} {ts : List Touch}
end
end Go.Proofs.YtopiadllkglamaaGreatDoor
namespace Go.Proofs.YtopiadllkglamaaGreatDoor
open Go.RowKit Go.IntWalk
end Go.Proofs.YtopiadllkglamaaGreatDoor
namespace Go.Proofs.YtopiadllkglamaaGreatDoor
open Go.RowKit Go.IntWalk
instance : DecidableEq Touch := fun a b => decidable_of_iff (a.path = b.path ∧ a.dig = b.dig) (by cases a; cases b; simp)
instance : DecidableEq Bun := fun a b => decidable_of_iff (a.man = b.man ∧ a.pap = b.pap ∧ a.src = b.src) (by cases a; cases b; simp)
def zu8 (most : Int) : List Touch → Int → Bool
 | [],_ => true
 | f :: r,n => if 300 < f.path.length then false else if most < n + f.dig.length then false else zu8 most r (n + f.dig.length)
def fewT (files size : Int) (t : List Touch) : Bool := if files < t.length then false else zu8 size t 0
def zR6 : List AV → Option AV
 | [.sl a,.int .i64 n,.int .i64 m] => match zs1 zl7 a with
  | some t => if t.length < big ∧ (t.all fun f => decide (f.dig.length ≤ 4294967296)) = true ∧ m ≤ 4294967296 ∧ n ≤ 1000 then some (.bool (fewT n m t)) else none
  | none => none
 | _ => none
theorem yO5 (G : Gam) (t : List Touch) (files size : Int) (hf : files ≤ 1000) (hs : size ≤ 4294967296) (hb : t.length < big) (hd : ∀ f ∈ t,f.dig.length ≤ 4294967296) : ∀ (rest : List Touch) (i : Nat) (n : Int),t.drop i = rest → 0 ≤ n → n ≤ 4294967296 ∨ n = 0 → zu8 size rest n = zu8 size t 0 →
  zi3 G [9] Mc.q62_L0 0 [.blk 0,.seq (.seq (.reg [⟨none,some 6,true,.mv,[.c (.bool true)]⟩]) .ret)] (zb0 Rs.q62 (.bool (zu8 size t 0)))
   [(0,.sl (za1 t)),(1,.int .i64 files),(2,.int .i64 size),(6,.bool false),(7,.int .i64 n),(9,.junk),(14,.sl (za1 t)),(15,.int .i64 t.length),(16,.int .i64 i)] []
 | [],i,n,hd',h0,hn,hr => by
  have hi := zh4 hd'
  have q : ltB (i : Int) (t.length : Int) = false := ze4.2 (by omega)
  rw [← hr]
  refine zb3 (Mc.q62_L0.eq_1) ?_
  rw [zf3 (n := 0) rfl]
  simp [zc0,q,zu8,zb0,Rs.q62]
 | f :: rest,i,n,hd',h0,hn,hr => by
  obtain ⟨hlt,hx,hxd⟩ := zf0 hd'
  have q : ltB (i : Int) (t.length : Int) = true := zb8.2 (by omega)
  have hw := zn1 (i := i) (by omega)
  have r1 := zi0 hx
  have i1 : ∀ st h,opV G st h (.iadr 2) (some [.sl (za1 t),.int .i64 i]) = some (.fptr [.str f.path,.str f.dig] 0,h) := fun st h => by
   rw [zb2 rfl]; simp [za7,zc9,r1]
  have hfd := hd f (List.mem_of_getElem? hx)
  have wn : IntKind.i64.wrap (n + (f.dig.length : Int)) = n + (f.dig.length : Int) := i64_in _ ⟨by omega,by omega⟩
  refine zb3 (Mc.q62_L0.eq_1) ?_
  rw [zf3 (n := 0) rfl]
  by_cases c1 : 300 < f.path.length
  ·have q1 : ltB 300 (f.path.length : Int) = true := zb8.2 (by omega)
   rw [← hr]
   simp [zc0,q,i1,cut,zd8,stAV,AV.cells,oneC,zj1,za8,ze1,wn,q1,zu8,c1,zb0,Rs.q62]
  ·have q1 : ltB 300 (f.path.length : Int) = false := ze4.2 (by omega)
   by_cases c2 : size < n + f.dig.length
   ·have q2 : ltB size (n + (f.dig.length : Int)) = true := zb8.2 c2
    rw [← hr]
    simp [zc0,q,i1,cut,zd8,stAV,AV.cells,oneC,zj1,za8,ze1,wn,q1,q2,zu8,c1,c2,zb0,Rs.q62]
   ·have q2 : ltB size (n + (f.dig.length : Int)) = false := ze4.2 (by omega)
    rw [zu8,if_neg c1,if_neg c2] at hr
    have ih := yO5 G t files size hf hs hb hd rest (i + 1) (n + f.dig.length) hxd (by omega) (.inl (by omega)) hr
    simp [zc0,q,i1,cut,zd8,stAV,AV.cells,oneC,zj1,za8,ze1,wn,q1,q2,hw]
    refine ze8 ?_
    have tr : ∀ fr x,zm1 0 fr = true → trunc 0 fr [x] = [] := fun fr x hfr => by unfold trunc; simp [hfr,lowH]
    rw [tr _ _ (by simp [zc0,zm1,low])]
    simpa [zc0] using ih
theorem xC6 {G : Gam} : ∀ args r,zR6 args = some r → wpM G Mc.q62 (zb0 Rs.q62 r) [] (za2 Ks.q62 args) [] := by
 intro args r hF
 unfold zR6 at hF
 split at hF
 ·rename_i a n m
  split at hF
  ·rename_i t ht
   split at hF
   ·rename_i hb
    injection hF with hF; subst hF
    obtain ⟨b1,b2,b3,b4⟩ := hb
    obtain rfl : a = za1 t := zl2 (fun r x => zh7) ht
    rw [zc8]
    unfold fewT
    by_cases c : n < t.length
    ·have q : ltB n (t.length : Int) = true := zb8.2 c
     rw [if_pos c]
     simp [Mc.q62,za2,Ks.q62,ze1,q,zb0,Rs.q62]
    ·have q : ltB n (t.length : Int) = false := ze4.2 (by omega)
     rw [if_neg c]
     have ih := yO5 G t n m b4 b3 b1 (by simpa using b2) t 0 0 rfl (by omega) (.inr rfl) rfl
     simp [Mc.q62,za2,Ks.q62,ze1,q]
     refine ze8 ?_
     simpa [zc0,zf3 (n := 0) (h := []) rfl] using ih
   ·cases hF
  ·cases hF
 ·cases hF
end Go.Proofs.YtopiadllkglamaaGreatDoor
