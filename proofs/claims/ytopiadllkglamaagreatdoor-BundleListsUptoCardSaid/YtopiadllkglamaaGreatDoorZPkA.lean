/- Readers: texts,the reference's. Readers: the end; the bytes of numbers and texts. The bytes of texts. Bundles: the files of a tree,read. Bundles: the files of a tree,read: the reference's. Trees,b -/
import Derived.Test.YtopiadllkglamaaGreatDoorZRmB
import Derived.Test.YtopiadllkglamaaGreatDoorZAm10
import Derived.Test.YtopiadllkglamaaGreatDoorZRmD
namespace Go.Proofs.YtopiadllkglamaaGreatDoor
open Go.RowKit Go.IntWalk
end Go.Proofs.YtopiadllkglamaaGreatDoor
namespace Go.Proofs.YtopiadllkglamaaGreatDoor
open Go.RowKit Go.IntWalk
end Go.Proofs.YtopiadllkglamaaGreatDoor
namespace Go.Proofs.YtopiadllkglamaaGreatDoor
open Go.RowKit Go.IntWalk
end Go.Proofs.YtopiadllkglamaaGreatDoor
namespace Go.Proofs.YtopiadllkglamaaGreatDoor
open Go.RowKit Go.IntWalk
section
variable {h x : Heap} {l : Nat} {tg : Option TypeId} {r r' : Rd} {ts : List Touch} {b c : Blk} {t : Touch}
end
section
variable {G : Gam} {h x : Heap} {l : Nat} {tg : Option TypeId} {r : Rd} {ts : List Touch}
end
end Go.Proofs.YtopiadllkglamaaGreatDoor
namespace Go.Proofs.YtopiadllkglamaaGreatDoor
open Go.RowKit Go.IntWalk
end Go.Proofs.YtopiadllkglamaaGreatDoor
namespace Go.Proofs.YtopiadllkglamaaGreatDoor
open Go.RowKit Go.IntWalk
instance : DecidableEq Touch := fun a b => decidable_of_iff (a.path = b.path ∧ a.dig = b.dig) (by cases a; cases b; simp)
instance : DecidableEq Bun := fun a b => decidable_of_iff (a.man = b.man ∧ a.pap = b.pap ∧ a.src = b.src) (by cases a; cases b; simp)
def F_Same03 : List AV → Option AV
 | [.sl a,.sl b] => match decAll decTouch a,decAll decTouch b with
  | some s,some t => if s.length < big then some (.bool (decide (s = t))) else none
  | _,_ => none
 | _ => none
theorem same03_L0 (G : Gam) (s t : List Touch) (hb : s.length < big) (hl : s.length = t.length) : ∀ (k i : Nat),i + k = s.length → s.take i = t.take i →
  headM G [5] Mc.q54_L0 0 [.blk 0,.seq (.seq (.reg [⟨none,some 4,true,.mv,[.c (.bool true)]⟩]) .ret)] (pureQ Rs.q54 (.bool (decide (s = t))))
   [(0,.sl (touchRows s)),(1,.sl (touchRows t)),(4,.bool false),(5,.junk),(12,.int .i64 s.length),(13,.int .i64 i)] []
 | 0,i,hi,ht => by
  have e : i = s.length := by omega
  subst e
  have q : ltB (s.length : Int) (s.length : Int) = false := ltB_not.2 (by omega)
  have est : s = t := by
   rw [List.take_length] at ht
   rw [hl,List.take_length] at ht
   exact ht
  refine head_go (Mc.q54_L0.eq_1) ?_
  rw [vtrunc_len (n := 0) rfl]
  simp [junkAll,est,pureQ,Rs.q54]
 | k + 1,i,hi,ht => by
  have q : ltB (i : Int) (s.length : Int) = true := ltB_iff.2 (by omega)
  have hw := wrap1 (i := i) (by omega)
  obtain ⟨f,hf⟩ : ∃ f,s[i]? = some f := ⟨_,List.getElem?_eq_getElem (by omega)⟩
  obtain ⟨g,hg⟩ : ∃ g,t[i]? = some g := ⟨_,List.getElem?_eq_getElem (by omega)⟩
  have r1 := touchRows_get hf
  have r2 := touchRows_get hg
  have i1 : ∀ st h,opV G st h (.iadr 2) (some [.sl (touchRows s),.int .i64 i]) = some (.fptr [.str f.path,.str f.dig] 0,h) := fun st h => by
   rw [opV_quiet rfl]; simp [evalPure,iadrAV,r1]
  have i2 : ∀ st h,opV G st h (.iadr 2) (some [.sl (touchRows t),.int .i64 i]) = some (.fptr [.str g.path,.str g.dig] 0,h) := fun st h => by
   rw [opV_quiet rfl]; simp [evalPure,iadrAV,r2]
  refine head_go (Mc.q54_L0.eq_1) ?_
  rw [vtrunc_len (n := 0) rfl]
  by_cases e : f = g
  ·subst e
   have ih := same03_L0 G s t hb hl k (i + 1) (by omega) (by rw [List.take_add_one,List.take_add_one,hf,hg,ht])
   simp [junkAll,q,i1,i2,cut,mkVal,eqCells,hw]
   refine head_of ?_
   rw [vtrunc_len (n := 0) rfl]
   simpa [junkAll] using ih
  ·have hne : s ≠ t := fun h => e (by subst h; rw [hf] at hg; injection hg)
   have hc : ¬ (f.path = g.path ∧ f.dig = g.dig) := fun h => e (by cases f; cases g; simp at h; simp [h])
   by_cases c1 : f.path = g.path
   ·have c2 : f.dig ≠ g.dig := fun h => hc ⟨c1,h⟩
    simp [junkAll,q,i1,i2,cut,mkVal,eqCells,c1,c2,hne,pureQ,Rs.q54]
   ·simp [junkAll,q,i1,i2,cut,mkVal,eqCells,c1,hne,pureQ,Rs.q54]
theorem Same03_ok {G : Gam} : ∀ args r,F_Same03 args = some r → wpM G Mc.q54 (pureQ Rs.q54 r) [] (frInit Ks.q54 args) [] := by
 intro args r hF
 unfold F_Same03 at hF
 split at hF
 ·rename_i a b
  split at hF
  ·rename_i s t hs ht
   split at hF
   ·rename_i hb
    injection hF with hF; subst hF
    obtain rfl : a = touchRows s := decAll_of (fun r x => decTouch_of) hs
    obtain rfl : b = touchRows t := decAll_of (fun r x => decTouch_of) ht
    rw [wpM_go]
    by_cases hl : s.length = t.length
    ·have q : eqB (s.length : Int) (t.length : Int) = true := eqB_iff.2 (by omega)
     have ih := same03_L0 G s t hb hl s.length 0 (by omega) rfl
     simp [Mc.q54,frInit,Ks.q54,lenAV,q]
     refine head_of ?_
     simpa [junkAll,vtrunc_len (n := 0) (h := []) rfl] using ih
    ·have q : eqB (s.length : Int) (t.length : Int) = false := eqB_not.2 (by omega)
     have hne : s ≠ t := fun h => hl (by rw [h])
     simp [Mc.q54,frInit,Ks.q54,lenAV,q,hne,pureQ,Rs.q54]
   ·cases hF
  ·cases hF
 ·cases hF
def fewFrom (most : Int) : List Touch → Int → Bool
 | [],_ => true
 | f :: r,n => if 300 < f.path.length then false else if most < n + f.dig.length then false else fewFrom most r (n + f.dig.length)
def fewT (files size : Int) (t : List Touch) : Bool := if files < t.length then false else fewFrom size t 0
def F_Few03 : List AV → Option AV
 | [.sl a,.int .i64 n,.int .i64 m] => match decAll decTouch a with
  | some t => if t.length < big ∧ (t.all fun f => decide (f.dig.length ≤ 4294967296)) = true ∧ m ≤ 4294967296 ∧ n ≤ 1000 then some (.bool (fewT n m t)) else none
  | none => none
 | _ => none
theorem few03_L0 (G : Gam) (t : List Touch) (files size : Int) (hf : files ≤ 1000) (hs : size ≤ 4294967296) (hb : t.length < big) (hd : ∀ f ∈ t,f.dig.length ≤ 4294967296) : ∀ (rest : List Touch) (i : Nat) (n : Int),t.drop i = rest → 0 ≤ n → n ≤ 4294967296 ∨ n = 0 → fewFrom size rest n = fewFrom size t 0 →
  headM G [9] Mc.q60_L0 0 [.blk 0,.seq (.seq (.reg [⟨none,some 6,true,.mv,[.c (.bool true)]⟩]) .ret)] (pureQ Rs.q60 (.bool (fewFrom size t 0)))
   [(0,.sl (touchRows t)),(1,.int .i64 files),(2,.int .i64 size),(6,.bool false),(7,.int .i64 n),(9,.junk),(14,.sl (touchRows t)),(15,.int .i64 t.length),(16,.int .i64 i)] []
 | [],i,n,hd',h0,hn,hr => by
  have hi := drop_nil hd'
  have q : ltB (i : Int) (t.length : Int) = false := ltB_not.2 (by omega)
  rw [← hr]
  refine head_go (Mc.q60_L0.eq_1) ?_
  rw [vtrunc_len (n := 0) rfl]
  simp [junkAll,q,fewFrom,pureQ,Rs.q60]
 | f :: rest,i,n,hd',h0,hn,hr => by
  obtain ⟨hlt,hx,hxd⟩ := drop_cons hd'
  have q : ltB (i : Int) (t.length : Int) = true := ltB_iff.2 (by omega)
  have hw := wrap1 (i := i) (by omega)
  have r1 := touchRows_get hx
  have i1 : ∀ st h,opV G st h (.iadr 2) (some [.sl (touchRows t),.int .i64 i]) = some (.fptr [.str f.path,.str f.dig] 0,h) := fun st h => by
   rw [opV_quiet rfl]; simp [evalPure,iadrAV,r1]
  have hfd := hd f (List.mem_of_getElem? hx)
  have wn : IntKind.i64.wrap (n + (f.dig.length : Int)) = n + (f.dig.length : Int) := i64_in _ ⟨by omega,by omega⟩
  refine head_go (Mc.q60_L0.eq_1) ?_
  rw [vtrunc_len (n := 0) rfl]
  by_cases c1 : 300 < f.path.length
  ·have q1 : ltB 300 (f.path.length : Int) = true := ltB_iff.2 (by omega)
   rw [← hr]
   simp [junkAll,q,i1,cut,mkVal,stAV,AV.cells,oneC,setAt,loadAV,lenAV,wn,q1,fewFrom,c1,pureQ,Rs.q60]
  ·have q1 : ltB 300 (f.path.length : Int) = false := ltB_not.2 (by omega)
   by_cases c2 : size < n + f.dig.length
   ·have q2 : ltB size (n + (f.dig.length : Int)) = true := ltB_iff.2 c2
    rw [← hr]
    simp [junkAll,q,i1,cut,mkVal,stAV,AV.cells,oneC,setAt,loadAV,lenAV,wn,q1,q2,fewFrom,c1,c2,pureQ,Rs.q60]
   ·have q2 : ltB size (n + (f.dig.length : Int)) = false := ltB_not.2 (by omega)
    rw [fewFrom,if_neg c1,if_neg c2] at hr
    have ih := few03_L0 G t files size hf hs hb hd rest (i + 1) (n + f.dig.length) hxd (by omega) (.inl (by omega)) hr
    simp [junkAll,q,i1,cut,mkVal,stAV,AV.cells,oneC,setAt,loadAV,lenAV,wn,q1,q2,hw]
    refine head_of ?_
    have tr : ∀ fr x,lowFr 0 fr = true → trunc 0 fr [x] = [] := fun fr x hfr => by unfold trunc; simp [hfr,lowH]
    rw [tr _ _ (by simp [junkAll,lowFr,low])]
    simpa [junkAll] using ih
theorem Few03_ok {G : Gam} : ∀ args r,F_Few03 args = some r → wpM G Mc.q60 (pureQ Rs.q60 r) [] (frInit Ks.q60 args) [] := by
 intro args r hF
 unfold F_Few03 at hF
 split at hF
 ·rename_i a n m
  split at hF
  ·rename_i t ht
   split at hF
   ·rename_i hb
    injection hF with hF; subst hF
    obtain ⟨b1,b2,b3,b4⟩ := hb
    obtain rfl : a = touchRows t := decAll_of (fun r x => decTouch_of) ht
    rw [wpM_go]
    unfold fewT
    by_cases c : n < t.length
    ·have q : ltB n (t.length : Int) = true := ltB_iff.2 c
     rw [if_pos c]
     simp [Mc.q60,frInit,Ks.q60,lenAV,q,pureQ,Rs.q60]
    ·have q : ltB n (t.length : Int) = false := ltB_not.2 (by omega)
     rw [if_neg c]
     have ih := few03_L0 G t n m b4 b3 b1 (by simpa using b2) t 0 0 rfl (by omega) (.inr rfl) rfl
     simp [Mc.q60,frInit,Ks.q60,lenAV,q]
     refine head_of ?_
     simpa [junkAll,vtrunc_len (n := 0) (h := []) rfl] using ih
   ·cases hF
  ·cases hF
 ·cases hF
end Go.Proofs.YtopiadllkglamaaGreatDoor
